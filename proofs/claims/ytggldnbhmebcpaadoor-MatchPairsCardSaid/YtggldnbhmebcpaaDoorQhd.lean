/- Part 4 of the texts that the rows of this seat rest on, joined by a program: what its functions come to. Conditions: those that each theorem states. -/
import Derived.Test.YtggldnbhmebcpaaDoorQhc
import Derived.Test.YtggldnbhmebcpaaDoorProg
import Derived.Below
import Derived.Deep.Draws
import Derived.Deep.AppendLies
import Derived.Maps.AppendAt
import Derived.OwnWalk
import Derived.Laws.BytesArg
import Derived.Laws.MakeOwn
import Derived.Laws.OwnMore
import Derived.Deep.OwnRows
import Derived.Tactics
import Derived.Lib.ConvBytes
import Derived.Laws.Slices
import Derived.WalkKit
import Derived.KernelRfl
import Derived.RowKit3
import Derived.Deep.LoopGhost
import Derived.Deep.QuietTactic
import Derived.BigQuiet
import Derived.WideLaws
import Derived.Deep.DeepCutAuto
import Derived.Deep.CutBlock
import Derived.Deep.RegionHeld3
import Derived.Laws.Rows
import Derived.Lib.AppendStr
import Derived.ArgAppend
import Derived.Laws.IdiomCopy
import Derived.OrdersHeld
import Derived.Laws.BitsLemmas
import Derived.RowKit
set_option linter.unusedVariables false
set_option linter.unusedSimpArgs false
section
namespace Go.Proofs.YtggldnbhmebcpaaDoor.L
open Go.RowKit Go.ChangeShapes Go.WideShapes Go.Proofs.YtggldnbhmebcpaaDoorW.PrintWords Go.Proofs.YtggldnbhmebcpaaDoorW.PrintLast Go.Proofs.YtggldnbhmebcpaaDoorW.PrintMore
attribute [local go_sem] max2_int min2_int max_two min_two max_three min_three max_four min_four
theorem R_apart {α β : Type} {d : Kd α} {d' : Kd β} {e e' : Nat} {w : World} {b b' : Nat} {ok ok' : Nat → Prop} {v v' : Value} {xs : List α} {ys : List β} (h : d.R e w b ok v xs) (h' : d'.R e' w b' ok' v' ys) (hT : e ≠ e') (k : Nat) (hk : some k = v.ownBlock) : some k ≠ v'.ownBlock := fun hk' => by
  obtain ⟨c1, e1⟩ := Kd.R_typed h k hk.symm
  obtain ⟨c2, e2⟩ := Kd.R_typed h' k hk'.symm
  rw [e1] at e2
  injection e2 with e2
  injection e2 with _ e2
  exact hT e2
structure CnRel (w1 : World) (root : Int) (xs : List Node) (v4 : Value) (W : World) : Prop where
  below : Below w1.heap.size w1 W
  out : W.heap[w1.heap.size]? = some (.cells #[v4, .int .i64 root] 24 (0, 0))
  row : kNode.R 46 W w1.heap.size (fun _ => True) v4 xs
theorem CnRel.start (w1 : World) (root : Int) : CnRel w1 root [] (.slice none 0 0) (w1.alloc (.cells #[.slice none 0 0, .int .i64 root] 24)) :=
  ⟨below_alloc (Below.refl _ _) _, by simpa using heap_alloc_new w1 _, Kd.R_nil _ _ _ _ _⟩
theorem CnRel.later {w1 : World} {root : Int} {xs : List Node} {v4 : Value} {W W1 : World} (h : CnRel w1 root xs v4 W) (hb : Below W.heap.size W W1) : CnRel w1 root xs v4 W1 :=
  ⟨below_step h.below hb, (hb.block _ (blk_lt h.out)).trans h.out, Kd.R_below h.row hb⟩
theorem CnRel.drewN {w1 : World} {root : Int} {xs : List Node} {v4 : Value} {W : World} (h : CnRel w1 root xs v4 W) (m : Nat) : CnRel w1 root xs v4 (W.drewN m) := h.later (pw_below_drewN (Below.refl _ _) m)
theorem CnRel.put {w1 : World} {root : Int} {xs : List Node} {v4 v5 : Value} {ys : List Node} {W w2 : World} (h : CnRel w1 root xs v4 W) (hR : kNode.R 46 w2 w1.heap.size (fun _ => True) v5 ys) (hB : Below w1.heap.size w1 w2) (hg : W.grownBy w2 v4.ownBlock) :
    w2.heap[w1.heap.size]? = some (.cells #[v4, .int .i64 root] 24 (0, 0)) ∧ CnRel w1 root ys v5 (w2.setCell ⟨w1.heap.size, 0, none⟩ v5) := by
  have hb := blk_grown h.out hg (Kd.R_ne h.row h.out (by decide))
  refine ⟨hb, below_set hB (Nat.le_refl _), ?_, R_type hR hb (by decide) v5 0⟩
  have := blk_set hb 0 v5
  simpa using this
theorem node_off {W : World} {base : Nat} {n : Node} {v1 v2 v3 v4 : Value} {xs : List Node} (h1 : (Kd.int .i64).R 2 W base (fun _ => True) v1 n.ints) (h2 : Kd.string.R 9 W base (fun _ => True) v2 n.texts) (h3 : (Kd.int .i64).R 3 W base (fun _ => True) v3 n.kids)
    (h : kNode.R 46 W base (fun _ => True) v4 xs) : kNode.M W base (fun k => some k ≠ v4.ownBlock) n [.int .i64 n.kind, v1, v2, v3] :=
  kNode_mkM (Kd.R_mono (Kd.R_tight rfl h1) (fun k hk => R_apart h1 h (by decide) k hk)) (Kd.R_mono (Kd.R_tight rfl h2) (fun k hk => R_apart h2 h (by decide) k hk)) (Kd.R_mono (Kd.R_tight rfl h3) (fun k hk => R_apart h3 h (by decide) k hk))
end Go.Proofs.YtggldnbhmebcpaaDoor.L
end
section
namespace Go.Proofs.YtggldnbhmebcpaaDoor.L
open Go.RowKit Go.ChangeShapes Go.WideShapes Go.Proofs.YtggldnbhmebcpaaDoorW.PrintWords Go.Proofs.YtggldnbhmebcpaaDoorW.PrintLast Go.Proofs.YtggldnbhmebcpaaDoorW.PrintMore
attribute [local go_sem] max2_int min2_int max_two min_two max_three min_three max_four min_four
structure PF (w : World) (g r : Nat) (cs : Array Value) (W : World) (v1 v2 v3 : Value) (l1 : List Int) (l2 : List ByteArray) (l3 : List Int) : Prop where
  below : Below w.heap.size w W
  box : W.heap[g]? = some (.cells cs 46 (0, 0))
  res : W.heap[r]? = some (.cells #[.int .i64 0, .slice none 0 0, .slice none 0 0, .slice none 0 0] 46 (0, 0))
  r1 : (Kd.int .i64).R 2 W w.heap.size (fun _ => True) v1 l1
  r2 : Kd.string.R 9 W w.heap.size (fun _ => True) v2 l2
  r3 : (Kd.int .i64).R 3 W w.heap.size (fun _ => True) v3 l3
section
variable {w : World} {g r : Nat} {cs : Array Value} {W W1 : World} {v1 v2 v3 : Value} {l1 : List Int} {l2 : List ByteArray} {l3 : List Int}
theorem PF.later (h : PF w g r cs W v1 v2 v3 l1 l2 l3) (hb : Below W.heap.size W W1) : PF w g r cs W1 v1 v2 v3 l1 l2 l3 :=
  ⟨below_step h.below hb, (hb.block _ (blk_lt h.box)).trans h.box, (hb.block _ (blk_lt h.res)).trans h.res, Kd.R_below h.r1 hb, Kd.R_below h.r2 hb, Kd.R_below h.r3 hb⟩
theorem PF.alloc (h : PF w g r cs W v1 v2 v3 l1 l2 l3) (o : Obj) : PF w g r cs (W.alloc o) v1 v2 v3 l1 l2 l3 := h.later (below_alloc (Below.refl _ _) o)
theorem PF.drew (h : PF w g r cs W v1 v2 v3 l1 l2 l3) : PF w g r cs W.drew v1 v2 v3 l1 l2 l3 := h.later (below_drew (Below.refl _ _))
theorem PF.lives (h : PF w g r cs W v1 v2 v3 l1 l2 l3) : Lives 4 r W := ⟨_, rfl, _, h.res⟩
theorem PF.cell (h : PF w g r cs W v1 v2 v3 l1 l2 l3) (i : Nat) {v : Value} (hv : cs[i]? = some v) : W.cell? ⟨g, i, none⟩ = some v := (blk_cell h.box i).trans hv
theorem PF.lit1 (h : PF w g r cs W v1 v2 v3 l1 l2 l3) (b : Nat) (hb : b = W.heap.size) : PF w g r cs (W.alloc (.cells #[] 2)) (.slice (some ⟨b, 0, none⟩) 0 0) v2 v3 [] l2 l3 := by
  subst hb
  have h' := h.alloc (.cells #[] 2)
  exact { h' with r1 := R_empty _ _ _ _ h.below.size }
theorem PF.lit1a (h : PF w g r cs W v1 v2 v3 l1 l2 l3) : PF w g r cs (W.alloc (.cells #[] 2)) (.slice (some ⟨W.heap.size, 0, none⟩) 0 0) v2 v3 [] l2 l3 := h.lit1 _ rfl
theorem PF.lit1b {o : Obj} (h : PF w g r cs (W.alloc o) v1 v2 v3 l1 l2 l3) : PF w g r cs ((W.alloc o).alloc (.cells #[] 2)) (.slice (some ⟨W.heap.size + 1, 0, none⟩) 0 0) v2 v3 [] l2 l3 := h.lit1 _ (by simp)
theorem PF.lit1c {o o' : Obj} (h : PF w g r cs ((W.alloc o).alloc o') v1 v2 v3 l1 l2 l3) : PF w g r cs (((W.alloc o).alloc o').alloc (.cells #[] 2)) (.slice (some ⟨W.heap.size + 1 + 1, 0, none⟩) 0 0) v2 v3 [] l2 l3 := h.lit1 _ (by simp)
theorem PF.app1 {b n c : Nat} {u : Value} {m : List Int} (h : PF w g r cs W (.slice (some ⟨b, 0, none⟩) n c) v2 v3 l1 l2 l3) (hR : (Kd.int .i64).R 2 W1 w.heap.size (fun _ => True) u m) (hB : Below w.heap.size w W1) (hg : W.grownBy W1 (Value.slice (some ⟨b, 0, none⟩) n c).ownBlock) : PF w g r cs W1 u v2 v3 m l2 l3 := by
  obtain ⟨cells, hc⟩ := Kd.R_typed h.r1 b rfl
  have hg' : W.grownBy W1 (some b) := hg
  refine ⟨hB, blk_grown h.box hg' (fun e => ?_), blk_grown h.res hg' (fun e => ?_), hR, Kd.R_grown1 h.r2 rfl hg (Kd.R_ne h.r2 hc (by decide)), Kd.R_grown1 h.r3 rfl hg (Kd.R_ne h.r3 hc (by decide))⟩
  · injection e with e
    have h1 := h.box
    rw [e, hc] at h1
    injection h1 with h1
    injection h1 with _ h1
    exact absurd h1 (by decide)
  · injection e with e
    have h1 := h.res
    rw [e, hc] at h1
    injection h1 with h1
    injection h1 with _ h1
    exact absurd h1 (by decide)
theorem PF.lit2 (h : PF w g r cs W v1 v2 v3 l1 l2 l3) (b : Nat) (hb : b = W.heap.size) : PF w g r cs (W.alloc (.cells #[] 9)) v1 (.slice (some ⟨b, 0, none⟩) 0 0) v3 l1 [] l3 := by
  subst hb
  have h' := h.alloc (.cells #[] 9)
  exact { h' with r2 := R_empty _ _ _ _ h.below.size }
theorem PF.lit2a (h : PF w g r cs W v1 v2 v3 l1 l2 l3) : PF w g r cs (W.alloc (.cells #[] 9)) v1 (.slice (some ⟨W.heap.size, 0, none⟩) 0 0) v3 l1 [] l3 := h.lit2 _ rfl
theorem PF.lit2b {o : Obj} (h : PF w g r cs (W.alloc o) v1 v2 v3 l1 l2 l3) : PF w g r cs ((W.alloc o).alloc (.cells #[] 9)) v1 (.slice (some ⟨W.heap.size + 1, 0, none⟩) 0 0) v3 l1 [] l3 := h.lit2 _ (by simp)
theorem PF.lit2c {o o' : Obj} (h : PF w g r cs ((W.alloc o).alloc o') v1 v2 v3 l1 l2 l3) : PF w g r cs (((W.alloc o).alloc o').alloc (.cells #[] 9)) v1 (.slice (some ⟨W.heap.size + 1 + 1, 0, none⟩) 0 0) v3 l1 [] l3 := h.lit2 _ (by simp)
theorem PF.app2 {b n c : Nat} {u : Value} {m : List ByteArray} (h : PF w g r cs W v1 (.slice (some ⟨b, 0, none⟩) n c) v3 l1 l2 l3) (hR : Kd.string.R 9 W1 w.heap.size (fun _ => True) u m) (hB : Below w.heap.size w W1) (hg : W.grownBy W1 (Value.slice (some ⟨b, 0, none⟩) n c).ownBlock) : PF w g r cs W1 v1 u v3 l1 m l3 := by
  obtain ⟨cells, hc⟩ := Kd.R_typed h.r2 b rfl
  have hg' : W.grownBy W1 (some b) := hg
  refine ⟨hB, blk_grown h.box hg' (fun e => ?_), blk_grown h.res hg' (fun e => ?_), Kd.R_grown1 h.r1 rfl hg (Kd.R_ne h.r1 hc (by decide)), hR, Kd.R_grown1 h.r3 rfl hg (Kd.R_ne h.r3 hc (by decide))⟩
  · injection e with e
    have h1 := h.box
    rw [e, hc] at h1
    injection h1 with h1
    injection h1 with _ h1
    exact absurd h1 (by decide)
  · injection e with e
    have h1 := h.res
    rw [e, hc] at h1
    injection h1 with h1
    injection h1 with _ h1
    exact absurd h1 (by decide)
theorem PF.lit3 (h : PF w g r cs W v1 v2 v3 l1 l2 l3) (b : Nat) (hb : b = W.heap.size) : PF w g r cs (W.alloc (.cells #[] 3)) v1 v2 (.slice (some ⟨b, 0, none⟩) 0 0) l1 l2 [] := by
  subst hb
  have h' := h.alloc (.cells #[] 3)
  exact { h' with r3 := R_empty _ _ _ _ h.below.size }
theorem PF.lit3a (h : PF w g r cs W v1 v2 v3 l1 l2 l3) : PF w g r cs (W.alloc (.cells #[] 3)) v1 v2 (.slice (some ⟨W.heap.size, 0, none⟩) 0 0) l1 l2 [] := h.lit3 _ rfl
theorem PF.lit3b {o : Obj} (h : PF w g r cs (W.alloc o) v1 v2 v3 l1 l2 l3) : PF w g r cs ((W.alloc o).alloc (.cells #[] 3)) v1 v2 (.slice (some ⟨W.heap.size + 1, 0, none⟩) 0 0) l1 l2 [] := h.lit3 _ (by simp)
theorem PF.lit3c {o o' : Obj} (h : PF w g r cs ((W.alloc o).alloc o') v1 v2 v3 l1 l2 l3) : PF w g r cs (((W.alloc o).alloc o').alloc (.cells #[] 3)) v1 v2 (.slice (some ⟨W.heap.size + 1 + 1, 0, none⟩) 0 0) l1 l2 [] := h.lit3 _ (by simp)
theorem PF.app3 {b n c : Nat} {u : Value} {m : List Int} (h : PF w g r cs W v1 v2 (.slice (some ⟨b, 0, none⟩) n c) l1 l2 l3) (hR : (Kd.int .i64).R 3 W1 w.heap.size (fun _ => True) u m) (hB : Below w.heap.size w W1) (hg : W.grownBy W1 (Value.slice (some ⟨b, 0, none⟩) n c).ownBlock) : PF w g r cs W1 v1 v2 u l1 l2 m := by
  obtain ⟨cells, hc⟩ := Kd.R_typed h.r3 b rfl
  have hg' : W.grownBy W1 (some b) := hg
  refine ⟨hB, blk_grown h.box hg' (fun e => ?_), blk_grown h.res hg' (fun e => ?_), Kd.R_grown1 h.r1 rfl hg (Kd.R_ne h.r1 hc (by decide)), Kd.R_grown1 h.r2 rfl hg (Kd.R_ne h.r2 hc (by decide)), hR⟩
  · injection e with e
    have h1 := h.box
    rw [e, hc] at h1
    injection h1 with h1
    injection h1 with _ h1
    exact absurd h1 (by decide)
  · injection e with e
    have h1 := h.res
    rw [e, hc] at h1
    injection h1 with h1
    injection h1 with _ h1
    exact absurd h1 (by decide)
theorem PF.step1 {ops : Array Oper} {o : Oper} {a : Act} {Q : Exit → Act → World → Prop} {Kc : Act → World → Prop} {b : Nat} {A : Option Addr} {c : Nat} {l : List Int} (s x : Operand) (h : PF w g r cs W (.slice (some ⟨b, 0, none⟩) 0 0) v2 v3 [] l2 l3) (hw : Region.wanted o (yielded ops a.tmps) = true)
    (ho : o.op = .call { callee := .builtin .append, args := #[s, x], argTypes := #[43, 43] }) (hs : a.eval s = .slice (some ⟨b, 0, none⟩) 0 0) (hx : a.eval x = .slice A l.length c) (hC : (Kd.int .i64).C w A l.length l) (hl : l.length ≤ 1000000)
    (hK : ∀ B d W1, PF w g r cs W1 (.slice B l.length d) v2 v3 l l2 l3 → Kc (a.put o.dst (.slice B l.length d)) W1) : if Region.wanted o (yielded ops a.tmps) = true then Oper.wp Tryd.prog o a W Kc Q else Kc (a.put o.dst undef) W := by
  refine Kd.R_append_rows_step (Kd.int .i64) (Rr := fun x cs => cs = [.int .i64 x]) (w0 := w) w.heap.size hw s x 43 2 (.int .i64 0) 8 ho Tryd.underlying43 info_i64 rfl (by decide) (by omega) _ [] l A l.length c (fun _ => True) (fun _ => False) hs hx h.r1 (Kd.C_below hC h.below) (fun _ _ h => h) (fun _ h => h.elim) (fun _ _ => trivial) h.below h.below.size (by simp; omega) ?_
  intro u W1 hR hB hg _
  obtain ⟨B, d, rfl⟩ := Kd.R_slice hR
  exact hK B d W1 (h.app1 hR hB hg)
theorem PF.step2 {ops : Array Oper} {o : Oper} {a : Act} {Q : Exit → Act → World → Prop} {Kc : Act → World → Prop} {b : Nat} {A : Option Addr} {c : Nat} {l : List ByteArray} (s x : Operand) (h : PF w g r cs W v1 (.slice (some ⟨b, 0, none⟩) 0 0) v3 l1 [] l3) (hw : Region.wanted o (yielded ops a.tmps) = true)
    (ho : o.op = .call { callee := .builtin .append, args := #[s, x], argTypes := #[44, 44] }) (hs : a.eval s = .slice (some ⟨b, 0, none⟩) 0 0) (hx : a.eval x = .slice A l.length c) (hC : Kd.string.C w A l.length l) (hl : l.length ≤ 1000000)
    (hK : ∀ B d W1, PF w g r cs W1 v1 (.slice B l.length d) v3 l1 l l3 → Kc (a.put o.dst (.slice B l.length d)) W1) : if Region.wanted o (yielded ops a.tmps) = true then Oper.wp Tryd.prog o a W Kc Q else Kc (a.put o.dst undef) W := by
  refine Kd.R_append_rows_step Kd.string (Rr := fun x cs => cs = [.string x]) (w0 := w) w.heap.size hw s x 44 9 (.string ByteArray.empty) 16 ho Tryd.underlying44 info_str rfl (by decide) (by omega) _ [] l A l.length c (fun _ => True) (fun _ => False) hs hx h.r2 (Kd.C_below hC h.below) (fun _ _ h => h) (fun _ h => h.elim) (fun _ _ => trivial) h.below h.below.size (by simp; omega) ?_
  intro u W1 hR hB hg _
  obtain ⟨B, d, rfl⟩ := Kd.R_slice hR
  exact hK B d W1 (h.app2 hR hB hg)
theorem PF.step3 {ops : Array Oper} {o : Oper} {a : Act} {Q : Exit → Act → World → Prop} {Kc : Act → World → Prop} {b : Nat} {A : Option Addr} {c : Nat} {l : List Int} (s x : Operand) (h : PF w g r cs W v1 v2 (.slice (some ⟨b, 0, none⟩) 0 0) l1 l2 []) (hw : Region.wanted o (yielded ops a.tmps) = true)
    (ho : o.op = .call { callee := .builtin .append, args := #[s, x], argTypes := #[27, 27] }) (hs : a.eval s = .slice (some ⟨b, 0, none⟩) 0 0) (hx : a.eval x = .slice A l.length c) (hC : (Kd.int .i64).C w A l.length l) (hl : l.length ≤ 1000000)
    (hK : ∀ B d W1, PF w g r cs W1 v1 v2 (.slice B l.length d) l1 l2 l → Kc (a.put o.dst (.slice B l.length d)) W1) : if Region.wanted o (yielded ops a.tmps) = true then Oper.wp Tryd.prog o a W Kc Q else Kc (a.put o.dst undef) W := by
  refine Kd.R_append_rows_step (Kd.int .i64) (Rr := fun x cs => cs = [.int .i64 x]) (w0 := w) w.heap.size hw s x 27 3 (.int .i64 0) 8 ho Tryd.underlying27 info_int rfl (by decide) (by omega) _ [] l A l.length c (fun _ => True) (fun _ => False) hs hx h.r3 (Kd.C_below hC h.below) (fun _ _ h => h) (fun _ h => h.elim) (fun _ _ => trivial) h.below h.below.size (by simp; omega) ?_
  intro u W1 hR hB hg _
  obtain ⟨B, d, rfl⟩ := Kd.R_slice hR
  exact hK B d W1 (h.app3 hR hB hg)
theorem PF.done {n : Node} (h : PF w g r cs W v1 v2 v3 n.ints n.texts n.kids) (hr : w.heap.size ≤ r) :
    kNode.M ((((W.setCell ⟨r, 0, none⟩ (.int .i64 n.kind)).setCell ⟨r, 1, none⟩ v1).setCell ⟨r, 2, none⟩ v2).setCell ⟨r, 3, none⟩ v3) w.heap.size (fun _ => True) n [.int .i64 n.kind, v1, v2, v3] ∧
    Below w.heap.size w ((((W.setCell ⟨r, 0, none⟩ (.int .i64 n.kind)).setCell ⟨r, 1, none⟩ v1).setCell ⟨r, 2, none⟩ v2).setCell ⟨r, 3, none⟩ v3) := by
  have hb0 := h.res
  have hb1 := blk_set hb0 0 (.int .i64 n.kind)
  have hb2 := blk_set hb1 1 v1
  have hb3 := blk_set hb2 2 v2
  refine ⟨kNode_mkM ?_ ?_ ?_, below_set4 h.below hr⟩
  · exact Kd.R_set (Kd.R_set (Kd.R_set (Kd.R_set h.r1 hb0 (by decide) _ _) hb1 (by decide) _ _) hb2 (by decide) _ _) hb3 (by decide) _ _
  · exact Kd.R_set (Kd.R_set (Kd.R_set (Kd.R_set h.r2 hb0 (by decide) _ _) hb1 (by decide) _ _) hb2 (by decide) _ _) hb3 (by decide) _ _
  · exact Kd.R_set (Kd.R_set (Kd.R_set (Kd.R_set h.r3 hb0 (by decide) _ _) hb1 (by decide) _ _) hb2 (by decide) _ _) hb3 (by decide) _ _
end
set_option maxRecDepth 100000 in
set_option maxHeartbeats 4000000 in
theorem rcopy_any (n : Node) (A1 : Option Addr) (c1 : Nat) (A2 : Option Addr) (c2 : Nat) (A3 : Option Addr) (c3 : Nat) (w : World) (h : NodeC w n A1 c1 A2 c2 A3 c3) (hs : Small n) :
    Calls Tryd.prog 27 #[.agg #[.int .i64 n.kind, .slice A1 n.ints.length c1, .slice A2 n.texts.length c2, .slice A3 n.kids.length c3]] w (CopyPost n w) := by
  have HN := Aside0.mk h
  have HS := Aside0.mk hs
  have HP : Aside0 (PF w w.heap.size (w.heap.size + 1) #[.int .i64 n.kind, .slice A1 n.ints.length c1, .slice A2 n.texts.length c2, .slice A3 n.kids.length c3] ((w.alloc (.cells #[.int .i64 n.kind, .slice A1 n.ints.length c1, .slice A2 n.texts.length c2, .slice A3 n.kids.length c3] 46)).alloc (.cells #[.int .i64 0, .slice none 0 0, .slice none 0 0, .slice none 0 0] 46)) (.slice none 0 0) (.slice none 0 0) (.slice none 0 0) [] [] []) := ⟨by
    have b1 := below_alloc (Below.refl w.heap.size w) (.cells #[.int .i64 n.kind, .slice A1 n.ints.length c1, .slice A2 n.texts.length c2, .slice A3 n.kids.length c3] 46)
    have n1 := heap_alloc_new w (.cells #[.int .i64 n.kind, .slice A1 n.ints.length c1, .slice A2 n.texts.length c2, .slice A3 n.kids.length c3] 46)
    generalize hw1 : w.alloc (.cells #[.int .i64 n.kind, .slice A1 n.ints.length c1, .slice A2 n.texts.length c2, .slice A3 n.kids.length c3] 46) = W1 at b1 n1 ⊢
    have s1 : W1.heap.size = w.heap.size + 1 := by rw [← hw1]; simp
    have b2 := below_alloc (Below.refl W1.heap.size W1) (.cells #[.int .i64 0, .slice none 0 0, .slice none 0 0, .slice none 0 0] 46)
    have n2 := heap_alloc_new W1 (.cells #[.int .i64 0, .slice none 0 0, .slice none 0 0, .slice none 0 0] 46)
    rw [s1] at n2
    exact ⟨below_step b1 b2, (b2.block _ (by omega)).trans n1, n2, Kd.R_nil _ _ _ _ _, Kd.R_nil _ _ _ _ _, Kd.R_nil _ _ _ _ _⟩⟩
  have hu := Tryd.underlying46
  clear h hs
  have hL0 := fun (W : World) (h : Lives 4 (w.heap.size + 1) W) => h.at 0 (by omega)
  have hL1 := fun (W : World) (h : Lives 4 (w.heap.size + 1) W) => h.at 1 (by omega)
  have hL2 := fun (W : World) (h : Lives 4 (w.heap.size + 1) W) => h.at 2 (by omega)
  have hL3 := fun (W : World) (h : Lives 4 (w.heap.size + 1) W) => h.at 3 (by omega)
  go_enter Tryd.func27, Tryd.ntmps27
  go_wp2_with fail
  generalize (w.alloc (.cells #[.int .i64 n.kind, .slice A1 n.ints.length c1, .slice A2 n.texts.length c2, .slice A3 n.kids.length c3] 46)).alloc (.cells #[.int .i64 0, .slice none 0 0, .slice none 0 0, .slice none 0 0] 46) = W0 at HP ⊢
  go_region_held3 (fun W => W.cell? ⟨w.heap.size, 0, none⟩ = some (.int .i64 n.kind) ∧ W.cell? ⟨w.heap.size, 1, none⟩ = some (.slice A1 n.ints.length c1) ∧ W.cell? ⟨w.heap.size, 2, none⟩ = some (.slice A2 n.texts.length c2) ∧ W.cell? ⟨w.heap.size, 3, none⟩ = some (.slice A3 n.kids.length c3) ∧ Lives 4 (w.heap.size + 1) W)
    (first
      | (go_split_ands
         refine ⟨?_, ?_, ?_, ?_, ?_⟩
         all_goals first
           | with_reducible exact HP.out.cell _ rfl
           | with_reducible exact HP.out.lives
           | with_reducible exact HP.out.drew.cell _ rfl
           | with_reducible exact HP.out.drew.lives
           | with_reducible exact (HP.out.alloc _).cell _ rfl
           | with_reducible exact (HP.out.alloc _).lives
           | with_reducible exact (HP.out.alloc _).drew.cell _ rfl
           | with_reducible exact (HP.out.alloc _).drew.lives
           | with_reducible exact ((HP.out.alloc _).alloc _).cell _ rfl
           | with_reducible exact ((HP.out.alloc _).alloc _).lives
           | with_reducible exact ((HP.out.alloc _).alloc _).drew.cell _ rfl
           | with_reducible exact ((HP.out.alloc _).alloc _).drew.lives
           | with_reducible exact (((HP.out.alloc _).alloc _).alloc _).cell _ rfl
           | with_reducible exact (((HP.out.alloc _).alloc _).alloc _).lives
           | with_reducible exact (((HP.out.alloc _).alloc _).alloc _).drew.cell _ rfl
           | with_reducible exact (((HP.out.alloc _).alloc _).alloc _).drew.lives
           | with_reducible exact far_set (far_set (far_set (far_set (by assumption) _ _ (by simp) _) _ _ (by simp) _) _ _ (by simp) _) _ _ (by simp) _
           | with_reducible exact Lives.set (Lives.set (Lives.set (Lives.set (by assumption) _ _) _ _) _ _) _ _
           | (simp; done)))
    (first
      | (refine' PF.step1 (.tmp 5) (.tmp 7) ?hP ?hw ?ho ?hs ?hx HN.out.i HS.out.1 ?_; (case hw => rfl); (case ho => rfl); (case hs => rfl); (case hx => rfl); (case hP => first | with_reducible exact HP.out | with_reducible exact (HP.out).drew | with_reducible exact HP.out.lit1a | with_reducible exact (HP.out.lit1a).drew | with_reducible exact HP.out.lit2a | with_reducible exact (HP.out.lit2a).drew | with_reducible exact HP.out.lit3a | with_reducible exact (HP.out.lit3a).drew | with_reducible exact HP.out.lit1a.lit2b | with_reducible exact (HP.out.lit1a.lit2b).drew | with_reducible exact HP.out.lit1a.lit3b | with_reducible exact (HP.out.lit1a.lit3b).drew | with_reducible exact HP.out.lit2a.lit1b | with_reducible exact (HP.out.lit2a.lit1b).drew | with_reducible exact HP.out.lit2a.lit3b | with_reducible exact (HP.out.lit2a.lit3b).drew | with_reducible exact HP.out.lit3a.lit1b | with_reducible exact (HP.out.lit3a.lit1b).drew | with_reducible exact HP.out.lit3a.lit2b | with_reducible exact (HP.out.lit3a.lit2b).drew | with_reducible exact HP.out.lit1a.lit2b.lit3c | with_reducible exact (HP.out.lit1a.lit2b.lit3c).drew | with_reducible exact HP.out.lit1a.lit3b.lit2c | with_reducible exact (HP.out.lit1a.lit3b.lit2c).drew | with_reducible exact HP.out.lit2a.lit1b.lit3c | with_reducible exact (HP.out.lit2a.lit1b.lit3c).drew | with_reducible exact HP.out.lit2a.lit3b.lit1c | with_reducible exact (HP.out.lit2a.lit3b.lit1c).drew | with_reducible exact HP.out.lit3a.lit1b.lit2c | with_reducible exact (HP.out.lit3a.lit1b.lit2c).drew | with_reducible exact HP.out.lit3a.lit2b.lit1c | with_reducible exact (HP.out.lit3a.lit2b.lit1c).drew); intro B1 d1 w1 hP; replace HP := Aside0.mk hP; clear hP)
      | (refine' PF.step2 (.tmp 9) (.tmp 11) ?hP ?hw ?ho ?hs ?hx HN.out.t HS.out.2.1 ?_; (case hw => rfl); (case ho => rfl); (case hs => rfl); (case hx => rfl); (case hP => first | with_reducible exact HP.out | with_reducible exact (HP.out).drew | with_reducible exact HP.out.lit1a | with_reducible exact (HP.out.lit1a).drew | with_reducible exact HP.out.lit2a | with_reducible exact (HP.out.lit2a).drew | with_reducible exact HP.out.lit3a | with_reducible exact (HP.out.lit3a).drew | with_reducible exact HP.out.lit1a.lit2b | with_reducible exact (HP.out.lit1a.lit2b).drew | with_reducible exact HP.out.lit1a.lit3b | with_reducible exact (HP.out.lit1a.lit3b).drew | with_reducible exact HP.out.lit2a.lit1b | with_reducible exact (HP.out.lit2a.lit1b).drew | with_reducible exact HP.out.lit2a.lit3b | with_reducible exact (HP.out.lit2a.lit3b).drew | with_reducible exact HP.out.lit3a.lit1b | with_reducible exact (HP.out.lit3a.lit1b).drew | with_reducible exact HP.out.lit3a.lit2b | with_reducible exact (HP.out.lit3a.lit2b).drew | with_reducible exact HP.out.lit1a.lit2b.lit3c | with_reducible exact (HP.out.lit1a.lit2b.lit3c).drew | with_reducible exact HP.out.lit1a.lit3b.lit2c | with_reducible exact (HP.out.lit1a.lit3b.lit2c).drew | with_reducible exact HP.out.lit2a.lit1b.lit3c | with_reducible exact (HP.out.lit2a.lit1b.lit3c).drew | with_reducible exact HP.out.lit2a.lit3b.lit1c | with_reducible exact (HP.out.lit2a.lit3b.lit1c).drew | with_reducible exact HP.out.lit3a.lit1b.lit2c | with_reducible exact (HP.out.lit3a.lit1b.lit2c).drew | with_reducible exact HP.out.lit3a.lit2b.lit1c | with_reducible exact (HP.out.lit3a.lit2b.lit1c).drew); intro B2 d2 w2 hP; replace HP := Aside0.mk hP; clear hP)
      | (refine' PF.step3 (.tmp 13) (.tmp 15) ?hP ?hw ?ho ?hs ?hx HN.out.k HS.out.2.2 ?_; (case hw => rfl); (case ho => rfl); (case hs => rfl); (case hx => rfl); (case hP => first | with_reducible exact HP.out | with_reducible exact (HP.out).drew | with_reducible exact HP.out.lit1a | with_reducible exact (HP.out.lit1a).drew | with_reducible exact HP.out.lit2a | with_reducible exact (HP.out.lit2a).drew | with_reducible exact HP.out.lit3a | with_reducible exact (HP.out.lit3a).drew | with_reducible exact HP.out.lit1a.lit2b | with_reducible exact (HP.out.lit1a.lit2b).drew | with_reducible exact HP.out.lit1a.lit3b | with_reducible exact (HP.out.lit1a.lit3b).drew | with_reducible exact HP.out.lit2a.lit1b | with_reducible exact (HP.out.lit2a.lit1b).drew | with_reducible exact HP.out.lit2a.lit3b | with_reducible exact (HP.out.lit2a.lit3b).drew | with_reducible exact HP.out.lit3a.lit1b | with_reducible exact (HP.out.lit3a.lit1b).drew | with_reducible exact HP.out.lit3a.lit2b | with_reducible exact (HP.out.lit3a.lit2b).drew | with_reducible exact HP.out.lit1a.lit2b.lit3c | with_reducible exact (HP.out.lit1a.lit2b.lit3c).drew | with_reducible exact HP.out.lit1a.lit3b.lit2c | with_reducible exact (HP.out.lit1a.lit3b.lit2c).drew | with_reducible exact HP.out.lit2a.lit1b.lit3c | with_reducible exact (HP.out.lit2a.lit1b.lit3c).drew | with_reducible exact HP.out.lit2a.lit3b.lit1c | with_reducible exact (HP.out.lit2a.lit3b.lit1c).drew | with_reducible exact HP.out.lit3a.lit1b.lit2c | with_reducible exact (HP.out.lit3a.lit1b.lit2c).drew | with_reducible exact HP.out.lit3a.lit2b.lit1c | with_reducible exact (HP.out.lit3a.lit2b.lit1c).drew); intro B3 d3 w3 hP; replace HP := Aside0.mk hP; clear hP))
  all_goals
    clear hL0 hL1 hL2 hL3
    go_wp2
    have h4 := HP.out.lives.set4 (.int .i64 n.kind) (.slice B1 n.ints.length d1) (.slice B2 n.texts.length d2) (.slice B3 n.kids.length d3)
    obtain ⟨hM, hB⟩ := HP.out.done (n := n) (Nat.le_succ _)
    exact bodyPost_ret (v := .agg #[.int .i64 n.kind, .slice B1 n.ints.length d1, .slice B2 n.texts.length d2, .slice B3 n.kids.length d3]) (by simp [results, Tryd.results27, go_sem, h4]) rfl ⟨_, rfl, ⟨_, _, _, rfl, hM⟩, hB⟩
end Go.Proofs.YtggldnbhmebcpaaDoor.L
end
section
namespace Go.Proofs.YtggldnbhmebcpaaDoor.L
open Go.RowKit Go.ChangeShapes Go.WideShapes Go.Proofs.YtggldnbhmebcpaaDoorW.PrintWords Go.Proofs.YtggldnbhmebcpaaDoorW.PrintLast Go.Proofs.YtggldnbhmebcpaaDoorW.PrintMore
attribute [local go_sem] max2_int min2_int max_two min_two max_three min_three max_four min_four
def SceneCPost (t : Scene) (w : World) (e : Ending) (w' : World) : Prop := ∃ A c, e = .returned (.agg #[.slice A t.nodes.length c, .int .i64 t.root]) ∧ t.nodes.length ≤ c ∧ kNode.C w' A t.nodes.length t.nodes ∧ Below w.heap.size w w'
set_option maxRecDepth 100000 in
set_option maxHeartbeats 4000000 in
theorem scopy_any (A : Option Addr) (c : Nat) (s : Scene) (w : World) (h : kNode.C w A s.nodes.length s.nodes) (hc : s.nodes.length ≤ c) (hn : s.nodes.length ≤ 1000000) (hs : ∀ i : Nat, i < s.nodes.length → Small (nd s.nodes i)) :
    Calls Tryd.prog 11 #[.agg #[.slice A s.nodes.length c, .int .i64 s.root]] w (SceneCPost s w) := by
  have HR := Aside0.mk h
  have HSm := Aside0.mk hs
  have hu := Tryd.underlying24
  have hun := Tryd.underlying46
  obtain ⟨w1, hw1⟩ : ∃ w1, w1 = (w.alloc (.cells #[.slice A s.nodes.length c, .int .i64 s.root] 24)).alloc (.cells #[.slice none 0 0, .int .i64 0] 24) := ⟨_, rfl⟩
  have b1 := below_alloc (Below.refl w.heap.size w) (.cells #[.slice A s.nodes.length c, .int .i64 s.root] 24)
  have b2 := below_alloc (Below.refl (w.alloc (.cells #[.slice A s.nodes.length c, .int .i64 s.root] 24)).heap.size (w.alloc (.cells #[.slice A s.nodes.length c, .int .i64 s.root] 24))) (.cells #[.slice none 0 0, .int .i64 0] 24)
  have k0 := box_cell2 w _ rfl #[.slice A s.nodes.length c, .int .i64 s.root] 24 (.cells #[.slice none 0 0, .int .i64 0] 24) 0 (.slice A s.nodes.length c) rfl
  have k1 := box_cell2 w _ rfl #[.slice A s.nodes.length c, .int .i64 s.root] 24 (.cells #[.slice none 0 0, .int .i64 0] 24) 1 (.int .i64 s.root) rfl
  have HZ := Aside0.mk (show w1.heap[w.heap.size + 1]? = some (.cells #[.slice none 0 0, .int .i64 0] 24 (0, 0)) from by
    rw [hw1]
    have := heap_alloc_new (w.alloc (.cells #[.slice A s.nodes.length c, .int .i64 s.root] 24)) (.cells #[.slice none 0 0, .int .i64 0] 24)
    simpa using this)
  have HB := Aside0.mk (show Below w.heap.size w w1 from by rw [hw1]; exact below_step b1 b2)
  have HZs := Aside0.mk (show w1.heap.size = w.heap.size + 2 from by rw [hw1]; simp)
  have HK := Aside0.mk (show w1.cell? ⟨w.heap.size, 0, none⟩ = some (.slice A s.nodes.length c) from by rw [hw1]; exact k0)
  have HI := Aside0.mk (CnRel.start w1 s.root)
  clear h hs b1 b2
  go_enter Tryd.func11, Tryd.ntmps11
  go_wp2
  rw [← hw1]
  clear k0 k1 hw1
  rw [show w.heap.size + 1 + 1 = w1.heap.size from by have := HZs.out; omega]
  generalize w1.alloc (.cells #[.slice none 0 0, .int .i64 s.root] 24) = W5 at HI ⊢
  go_loopw [4] (fun v4 W => ∃ i : Nat, i ≤ s.nodes.length ∧ v4 = .int .i64 i ∧ ∃ A4 c4, Aside0 (CnRel w1 s.root (s.nodes.take i) (.slice A4 i c4) W)) (fun v4 _ => s.nodes.length - (intOf v4).toNat)
  case atStart => exact ⟨0, by omega, rfl, none, 0, by rw [List.take_zero]; exact HI⟩
  case round =>
    clear HI
    obtain ⟨i, hi, rfl, A4, c4, HI⟩ := hrel
    have HW := Aside0.mk (below_step HB.out HI.out.below)
    have k0 := pw_cell_below HI.out.below HK.out
    by_cases hlt : i < s.nodes.length
    · obtain ⟨adn, A1, c1, A2, c2, A3, c3, rfl, x0, x1, x2, x3, hN⟩ := at_node HR.out i hlt
      have hTk := Aside0.mk (show s.nodes.take (i + 1) = s.nodes.take i ++ [nd s.nodes i] from by rw [take_succ_getD nodez hlt]; rfl)
      have HSq := Aside0.mk (HSm.out i hlt)
      have HN := Aside0.mk hN
      have HX := Aside0.mk (And.intro x0 (And.intro x1 (And.intro x2 x3)))
      generalize nd s.nodes i = q at HX HN HSq hTk x0 x1 x2 x3
      replace x0 := pw_cell_below HW.out x0
      replace x1 := pw_cell_below HW.out x1
      replace x2 := pw_cell_below HW.out x2
      replace x3 := pw_cell_below HW.out x3
      have o0 : wr.cell? ⟨w1.heap.size, 0, none⟩ = some (.slice A4 i c4) := (blk_cell HI.out.out 0).trans rfl
      have o0d : wr.drew.cell? ⟨w1.heap.size, 0, none⟩ = some (.slice A4 i c4) := o0
      clear hN
      go_wp2
      go_region_law (first
          | (rw [if_pos (by rfl)]; go_simp; go_at_call 27; refine (rcopy_any q A1 c1 A2 c2 A3 c3 wr.drew (HN.out.below (below_drew HW.out)) HSq.out).mono ?_; rintro e w6 ⟨_, rfl, ⟨v1, v2, v3, rfl, hM⟩, hB⟩; obtain ⟨v1', v2', v3', ev, hR1, hR2, hR3⟩ := kNode_openM hM; injection ev with _ ev; injection ev with e1 ev; injection ev with e2 ev; injection ev with e3 _; subst e1 e2 e3; have HI6 := Aside0.mk ((HI.out.drewN 1).later hB); have hs1 := (HI.out.drewN 1).below.size; have HMk := Aside0.mk (node_off (n := q) (Kd.R_lower hR1 hs1) (Kd.R_lower hR2 hs1) (Kd.R_lower hR3 hs1) HI6.out.row); obtain ⟨B1, d1, rfl⟩ := Kd.R_slice hR1; obtain ⟨B2, d2, rfl⟩ := Kd.R_slice hR2; obtain ⟨B3, d3, rfl⟩ := Kd.R_slice hR3; have HB6 := Aside0.mk (below_step HB.out HI6.out.below); have y0 := pw_cell_below HI6.out.below HK.out; have y1 := pw_cell_below HB6.out HX.out.1; have y2 := pw_cell_below HB6.out HX.out.2.1; have y3 := pw_cell_below HB6.out HX.out.2.2.1; have y4 := pw_cell_below HB6.out HX.out.2.2.2; have o1 : w6.cell? ⟨w1.heap.size, 0, none⟩ = some (.slice A4 i c4) := (blk_cell HI6.out.out 0).trans rfl; have o2 := pw_cell_below (below_alloc (Below.refl _ _) (.cells #[.int .i64 q.kind, .slice B1 q.ints.length d1, .slice B2 q.texts.length d2, .slice B3 q.kids.length d3] 46)) o1; clear hM hR1 hR2 hR3 hB hs1; go_simp)
          | (refine Kd.R_append_step kNode (W := w6) (w0 := w1) w1.heap.size (by rfl) (.tmp 16) (.tmp 23) 22 46 (.agg #[.int .i64 0, .slice none 0 0, .slice none 0 0, .slice none 0 0]) 80 rfl Tryd.underlying22 info_nodez rfl (by decide) (by omega) (.slice A4 i c4) (s.nodes.take i) q [.int .i64 q.kind, .slice B1 q.ints.length d1, .slice B2 q.texts.length d2, .slice B3 q.kids.length d3] (fun _ => True) (fun k => some k ≠ (Value.slice A4 i c4).ownBlock) rfl rfl HMk.out (fun k hk => ⟨trivial, hk⟩) (fun _ _ => trivial) HI6.out.row HI6.out.below HI6.out.below.size (by rw [List.length_take]; omega) ?_; intro v5 w8 hR8 hB8 hg8 hat8; rw [← hTk.out] at hR8; obtain ⟨A5, c5, rfl⟩ := Kd.R_slice hR8; have hl8 : (s.nodes.take (i + 1)).length = i + 1 := List.length_take_of_le hlt; rw [hl8] at hR8 ⊢; obtain ⟨hb8, hN8⟩ := HI6.out.put hR8 hB8 hg8; have HN8 := Aside0.mk hN8; have f0 := (blk_cell hb8 0).trans rfl; have f0f := blk_frozen hb8 0; have HB8 := Aside0.mk hB8; have HBn := Aside0.mk (below_step HB.out HB8.out); have z0 := pw_cell_below HB8.out HK.out; have z1 := pw_cell_below HBn.out HX.out.1; have z2 := pw_cell_below HBn.out HX.out.2.1; have z3 := pw_cell_below HBn.out HX.out.2.2.1; have z4 := pw_cell_below HBn.out HX.out.2.2.2; have HBm := Aside0.mk (below_step HB.out HN8.out.below); have t0 := pw_cell_below HN8.out.below HK.out; have t1 := pw_cell_below HBm.out HX.out.1; have t2 := pw_cell_below HBm.out HX.out.2.1; have t3 := pw_cell_below HBm.out HX.out.2.2.1; have t4 := pw_cell_below HBm.out HX.out.2.2.2; clear hR8 hB8 hg8 hat8 hN8 hb8 hl8))
      all_goals
        clear x0 x1 x2 x3 k0 o0 o0d y0 y1 y2 y3 y4 o1 o2 f0 f0f z0 z1 z2 z3 z4 t0 t1 t2 t3 t4
        go_wp2
        go_roundw
        case rel => exact ⟨i + 1, by omega, by go_num, A5, c5, HN8⟩
        case measure => simp [intOf]; omega
    · obtain rfl : i = s.nodes.length := by omega
      have o0 := (blk_cell HI.out.out 0).trans rfl
      have o1 := (blk_cell HI.out.out 1).trans rfl
      have hz := (HI.out.below.block _ (blk_lt HZ.out)).trans HZ.out
      have e0 : wr.cell? ⟨w.heap.size + 1, 0, none⟩ = some (.slice none 0 0) := (blk_cell hz 0).trans rfl
      have e0f := blk_frozen hz 0
      have hz1 := blk_set hz 0 (.slice A4 s.nodes.length c4)
      have e1 : (wr.setCell ⟨w.heap.size + 1, 0, none⟩ (.slice A4 s.nodes.length c4)).cell? ⟨w.heap.size + 1, 1, none⟩ = some (.int .i64 0) := (blk_cell hz1 1).trans rfl
      have e1f := blk_frozen hz1 1
      have hne : w1.heap.size ≠ w.heap.size + 1 := by have := HZs.out; omega
      have HRow := Aside0.mk (R_type (R_type HI.out.row hz (by decide) (.slice A4 s.nodes.length c4) 0) hz1 (by decide) (.int .i64 s.root) 1)
      rw [List.take_length] at HRow
      have hz2 := blk_set hz1 1 (.int .i64 s.root)
      have r0 : ((wr.setCell ⟨w.heap.size + 1, 0, none⟩ (.slice A4 s.nodes.length c4)).setCell ⟨w.heap.size + 1, 1, none⟩ (.int .i64 s.root)).cell? ⟨w.heap.size + 1, 0, none⟩ = some (.slice A4 s.nodes.length c4) := (blk_cell hz2 0).trans rfl
      have r1 : ((wr.setCell ⟨w.heap.size + 1, 0, none⟩ (.slice A4 s.nodes.length c4)).setCell ⟨w.heap.size + 1, 1, none⟩ (.int .i64 s.root)).cell? ⟨w.heap.size + 1, 1, none⟩ = some (.int .i64 s.root) := (blk_cell hz2 1).trans rfl
      clear hz hz1 hz2
      go_wp2
      exact bodyPost_ret (v := .agg #[.slice A4 s.nodes.length c4, .int .i64 s.root]) (by simp [results, Tryd.results11, go_sem, r0, r1]) rfl ⟨A4, c4, rfl, (Kd.R_reads' HRow.out).2.1, (Kd.R_reads' HRow.out).2.2, below_set2 HW.out (Nat.le_succ _)⟩
end Go.Proofs.YtggldnbhmebcpaaDoor.L
end
section
namespace Go.Proofs.YtggldnbhmebcpaaDoor.L
open Go.RowKit Go.ChangeShapes Go.WideShapes Go.Proofs.YtggldnbhmebcpaaDoorW.PrintWords Go.Proofs.YtggldnbhmebcpaaDoorW.PrintLast Go.Proofs.YtggldnbhmebcpaaDoorW.PrintMore
attribute [local go_sem] max2_int min2_int max_two min_two max_three min_three max_four min_four
def isPl (n : Nat) (k : Int) : Bool := decide (0 ≤ k ∧ k < (n : Int))
set_option maxRecDepth 100000 in
set_option maxHeartbeats 1000000 in
theorem place_any (A : Option Addr) (c n : Nat) (r k : Int) (w : World) :
    Calls Tryd.prog 16 #[.agg #[.slice A n c, .int .i64 r], .int .i64 k] w fun e w' => e = .returned (.bool (isPl n k)) ∧ Below w.heap.size w w' := by
  have HB := Aside0.mk (below_alloc (Below.refl w.heap.size w) (.cells #[.slice A n c, .int .i64 r] 24))
  have k0 := box_cell w _ rfl #[.slice A n c, .int .i64 r] 24 0 _ rfl
  have hu := Tryd.underlying24
  by_cases h0 : 0 ≤ k
  · by_cases h1 : k < (n : Int)
    · have HE : Aside0 (isPl n k = true) := ⟨decide_eq_true ⟨h0, h1⟩⟩
      have d0 : decide (0 ≤ k) = true := decide_eq_true h0
      have d1 : decide (k < (n : Int)) = true := decide_eq_true h1
      clear h0 h1
      go_enter Tryd.func16, Tryd.ntmps16
      go_wp2
      go_ret
      exact ⟨ret_bool HE.out.symm, HB.out⟩
    · have HE : Aside0 (isPl n k = false) := ⟨decide_eq_false (fun h => h1 h.2)⟩
      have d0 : decide (0 ≤ k) = true := decide_eq_true h0
      have d1 : decide (k < (n : Int)) = false := decide_eq_false h1
      clear h0 h1
      go_enter Tryd.func16, Tryd.ntmps16
      go_wp2
      go_ret
      exact ⟨ret_bool HE.out.symm, HB.out⟩
  · have HE : Aside0 (isPl n k = false) := ⟨decide_eq_false (fun h => h0 h.1)⟩
    have d0 : decide (0 ≤ k) = false := decide_eq_false h0
    clear h0
    go_enter Tryd.func16, Tryd.ntmps16
    go_wp2
    go_ret
    exact ⟨ret_bool HE.out.symm, HB.out⟩
end Go.Proofs.YtggldnbhmebcpaaDoor.L
end
section
namespace Go.Proofs.YtggldnbhmebcpaaDoor.L
open Go.RowKit Go.ChangeShapes Go.WideShapes Go.Proofs.YtggldnbhmebcpaaDoorW.PrintWords Go.Proofs.YtggldnbhmebcpaaDoorW.PrintLast Go.Proofs.YtggldnbhmebcpaaDoorW.PrintMore
attribute [local go_sem] max2_int min2_int max_two min_two max_three min_three max_four min_four
theorem isPl_no {n : Nat} {k : Int} : isPl n k = !noPlace n k := by
  unfold isPl noPlace
  by_cases h0 : 0 ≤ k
  · by_cases h1 : k < (n : Int)
    · rw [decide_eq_true (And.intro h0 h1), decide_eq_false (by omega : ¬ k < 0), decide_eq_false (by omega : ¬ (n : Int) ≤ k)]; rfl
    · rw [decide_eq_false (fun h => h1 h.2), decide_eq_false (by omega : ¬ k < 0), decide_eq_true (by omega : (n : Int) ≤ k)]; rfl
  · rw [decide_eq_false (fun h => h0 h.1), decide_eq_true (by omega : k < 0)]; rfl
set_option maxRecDepth 100000 in
set_option maxHeartbeats 4000000 in
theorem rrefs_any (A : Option Addr) (c : Nat) (s : Scene) (w : World) (h : kNode.C w A s.nodes.length s.nodes) :
    Calls Tryd.prog 52 #[.agg #[.slice A s.nodes.length c, .int .i64 s.root]] w fun e w' => e = .returned (.int .i64 (refsAt s.nodes)) ∧ Below w.heap.size w w' := by
  have HR := Aside0.mk h
  have b0 := h.2.1
  have HB := Aside0.mk (below_alloc (Below.refl w.heap.size w) (.cells #[.slice A s.nodes.length c, .int .i64 s.root] 24))
  have k0 := box_cell w _ rfl #[.slice A s.nodes.length c, .int .i64 s.root] 24 0 _ rfl
  have k1 := box_cell w _ rfl #[.slice A s.nodes.length c, .int .i64 s.root] 24 1 _ rfl
  have HK := Aside0.mk (And.intro HB.out (And.intro k0 k1))
  have hu := Tryd.underlying24
  have hun := Tryd.underlying46
  clear h
  go_enter Tryd.func52, Tryd.ntmps52
  go_wp2
  clear k0 k1
  go_loopw [3] (fun v3 W => ∃ i : Nat, i ≤ s.nodes.length ∧ v3 = .int .i64 i ∧ Aside0 (∀ j, j < i → kidsBad s.nodes.length (nd s.nodes j).kids = false) ∧ Aside0 (Below w.heap.size w W ∧ W.cell? ⟨w.heap.size, 0, none⟩ = some (.slice A s.nodes.length c) ∧ W.cell? ⟨w.heap.size, 1, none⟩ = some (.int .i64 s.root))) (fun v3 _ => s.nodes.length - (intOf v3).toNat)
  case atStart => exact ⟨0, by omega, rfl, ⟨fun j h => by omega⟩, HK⟩
  case round =>
    clear HK
    obtain ⟨i, hi, rfl, HJ, HK⟩ := hrel
    have k0 := HK.out.2.1
    by_cases hlt : i < s.nodes.length
    · obtain ⟨adn, A1, c1, A2, c2, A3, c3, rfl, y0, y1, y2, y3, hN⟩ := at_node HR.out i hlt
      have HN := Aside0.mk hN.k
      have HY := Aside0.mk y3
      have b3 := hN.k.2.1
      clear hN y0 y1 y2 y3
      go_wp2
      go_loopw [4] (fun v4 W => ∃ j : Nat, j ≤ (nd s.nodes i).kids.length ∧ v4 = .int .i64 j ∧ Aside0 (∀ q, q < j → noPlace s.nodes.length (rd (nd s.nodes i).kids (q : Int)) = false) ∧ Aside0 (Below w.heap.size w W ∧ W.cell? ⟨w.heap.size, 0, none⟩ = some (.slice (some adn) s.nodes.length c) ∧ W.cell? ⟨w.heap.size, 1, none⟩ = some (.int .i64 s.root))) (fun v4 _ => (nd s.nodes i).kids.length - (intOf v4).toNat)
      case atStart => exact ⟨0, by omega, rfl, ⟨fun j h => by omega⟩, HK⟩
      case round =>
        clear HK k0
        obtain ⟨j, hj, rfl, HQ, HK⟩ := hrel
        have k0 := HK.out.2.1
        have k1 := HK.out.2.2
        have x3 := pw_cell_below HK.out.1 HY.out
        by_cases hjl : j < (nd s.nodes i).kids.length
        · obtain ⟨adk, rfl, xk⟩ := at_nat (Kd.C_below HN.out HK.out.1) j hjl
          go_wp2
          go_region_held3 (fun W => W.cell? ⟨w.heap.size, 0, none⟩ = some (.slice (some adn) s.nodes.length c) ∧ W.cell? ⟨w.heap.size, 1, none⟩ = some (.int .i64 s.root) ∧ W.cell? ⟨(adn.add (i * 4)).block, (adn.add (i * 4)).off + 3, none⟩ = some (.slice (some adk) (nd s.nodes i).kids.length c3) ∧ W.cell? (adk.add j) = some (.int .i64 (rd (nd s.nodes i).kids (j : Int))))
            (first
              | (go_split_ands
                 refine ⟨?_, ?_, ?_, ?_⟩
                 all_goals first
                   | with_reducible assumption
                   | with_reducible exact pw_cell_below hB (by assumption)
                   | (simp [*]; done)))
            (first
              | (go_at_call 16; refine (place_any (some adn) c s.nodes.length s.root (rd (nd s.nodes i).kids (j : Int)) _).mono ?_; rintro e w2 ⟨rfl, hB2⟩; have hB := hB2))
          have HK2 := Aside0.mk (And.intro (below_step (below_drew HK.out.1) hB2) (And.intro (pw_cell_below hB2 (show wr.drew.cell? _ = _ from k0)) (pw_cell_below hB2 (show wr.drew.cell? _ = _ from k1))))
          rw [isPl_no]
          clear k0 k1 x3 xk
          cases hp : noPlace s.nodes.length (rd (nd s.nodes i).kids (j : Int)) with
          | true =>
            have HE : Aside0 (refsAt s.nodes = (i : Int)) := ⟨by unfold refsAt; rw [refsFrom_at s.nodes 0 i hlt HJ.out (kidsBad_at hjl hp)]; simp⟩
            clear hp
            go_wp2
            go_ret
            exact ⟨ret_int HE.out.symm, HK2.out.1⟩
          | false =>
            have HQ2 := Aside0.mk (ext_lt HQ.out hp)
            clear hp
            go_wp2
            go_roundw
            case rel => exact ⟨j + 1, by omega, by go_num, HQ2, HK2⟩
            case measure => simp [intOf]; omega
        · obtain rfl : j = (nd s.nodes i).kids.length := by omega
          have HJ2 := Aside0.mk (ext_lt HJ.out (kidsBad_no (Nat.le_refl _) HQ.out))
          go_wp2
          go_roundw
          case rel => exact ⟨i + 1, by omega, by go_num, HJ2, HK⟩
          case measure => simp [intOf]; omega
    · obtain rfl : i = s.nodes.length := by omega
      have HE : Aside0 (refsAt s.nodes = -1) := ⟨refsFrom_no s.nodes 0 HJ.out⟩
      go_wp2
      go_ret
      exact ⟨ret_int HE.out.symm, HK.out.1⟩
end Go.Proofs.YtggldnbhmebcpaaDoor.L
end
section
-- PRINTED BY print.sh 35421559b90ae4d0a3588c463048766b98c2df88dd9212a6774a882060cdf62d: not written by this session
namespace Go.Proofs.YtggldnbhmebcpaaDoor.PMatchPairs
open Go.RowKit Go.Proofs.YtggldnbhmebcpaaDoorW.PrintWords Go.Proofs.YtggldnbhmebcpaaDoorW.PrintLast Go.Proofs.YtggldnbhmebcpaaDoorW.PrintMore
attribute [local go_sem] max2_int min2_int max_two min_two max_three min_three max_four min_four   -- for this text's walks alone
set_option linter.unusedVariables false
set_option linter.unusedSimpArgs false
def errW : Option Int → Value
  | none => .nilIface
  | some c => .iface 0 (.int .i64 c)
theorem errW_none : errW none = .nilIface := rfl
theorem errW_some (c : Int) : errW (some c) = .iface 0 (.int .i64 c) := rfl

theorem info3 : (Tryd.prog.info? 3).map (fun i => (i.zero, i.size, i.bytes)) = some (some (.int .i64 0), 1, 8) := by kernel_rfl
theorem info4 : (Tryd.prog.info? 4).map (fun i => (i.zero, i.size, i.bytes)) = some (some (.bool false), 1, 1) := by kernel_rfl
structure S46 where
  f0 : Int
  f1 : (List Int)
  f2 : (List ByteArray)
  f3 : (List Int)
def z46 : S46 := ⟨(0 : Int), ([] : List Int), ([] : List ByteArray), ([] : List Int)⟩
def k46 : Kd S46 := Kd.iso (Kd.pair (Kd.int .i64) (Kd.pair (Kd.slice 2 (Kd.int .i64)) (Kd.pair (Kd.slice 9 Kd.string) (Kd.slice 3 (Kd.int .i64))))) (fun x : S46 => (x.f0, x.f1, x.f2, x.f3))
theorem k46_open {w : World} {x : S46} {cs : List Value} (h : k46.K w x cs) : ∃ A1 c1 A2 c2 A3 c3, cs = [.int .i64 x.f0, .slice A1 x.f1.length c1, .slice A2 x.f2.length c2, .slice A3 x.f3.length c3] ∧ x.f1.length ≤ c1 ∧ (Kd.int .i64).C w A1 x.f1.length x.f1 ∧ x.f2.length ≤ c2 ∧ Kd.string.C w A2 x.f2.length x.f2 ∧ x.f3.length ≤ c3 ∧ (Kd.int .i64).C w A3 x.f3.length x.f3 := by
  obtain ⟨_, _, rfl, rfl, ⟨_, _, rfl, ⟨A1, c1, rfl, l1, g1⟩, ⟨_, _, rfl, ⟨A2, c2, rfl, l2, g2⟩, ⟨A3, c3, rfl, l3, g3⟩⟩⟩⟩ := h
  exact ⟨A1, c1, A2, c2, A3, c3, rfl, l1, g1, l2, g2, l3, g3⟩
def rd_T46 (xs : List S46) (i : Int) : S46 := xs.getD i.toNat z46
theorem at_T46 {w : World} {A : Option Addr} {n : Nat} {xs : List S46} (h : Kd.C k46 w A n xs) (i : Int) (h0 : 0 ≤ i) (h1 : i < n) : ∃ ad A1 c1 A2 c2 A3 c3, A = some ad ∧ w.cell? (ad.add (i.toNat * 4)) = some (.int .i64 (rd_T46 xs i).f0) ∧ w.cell? ⟨(ad.add (i.toNat * 4)).block, (ad.add (i.toNat * 4)).off + 1, none⟩ = some (.slice A1 (rd_T46 xs i).f1.length c1) ∧ w.cell? ⟨(ad.add (i.toNat * 4)).block, (ad.add (i.toNat * 4)).off + 2, none⟩ = some (.slice A2 (rd_T46 xs i).f2.length c2) ∧ w.cell? ⟨(ad.add (i.toNat * 4)).block, (ad.add (i.toNat * 4)).off + 3, none⟩ = some (.slice A3 (rd_T46 xs i).f3.length c3) ∧ (rd_T46 xs i).f1.length ≤ c1 ∧ (Kd.int .i64).C w A1 (rd_T46 xs i).f1.length (rd_T46 xs i).f1 ∧ (rd_T46 xs i).f2.length ≤ c2 ∧ Kd.string.C w A2 (rd_T46 xs i).f2.length (rd_T46 xs i).f2 ∧ (rd_T46 xs i).f3.length ≤ c3 ∧ (Kd.int .i64).C w A3 (rd_T46 xs i).f3.length (rd_T46 xs i).f3 := by
  obtain ⟨ad, c, e, _, hK, hc0⟩ := Kd.C_get h z46 i h0 h1
  have hc : ∀ j u, c[j]? = some u → w.cell? (ad.add (i.toNat * 4 + j)) = some u := hc0
  obtain ⟨A1, c1, A2, c2, A3, c3, rfl, l1, g1, l2, g2, l3, g3⟩ := k46_open hK
  exact ⟨ad, A1, c1, A2, c2, A3, c3, e, hc 0 _ rfl, by rw [← add_field _ _ 1 (by omega)]; exact hc 1 _ rfl, by rw [← add_field _ _ 2 (by omega)]; exact hc 2 _ rfl, by rw [← add_field _ _ 3 (by omega)]; exact hc 3 _ rfl, l1, g1, l2, g2, l3, g3⟩

end Go.Proofs.YtggldnbhmebcpaaDoor.PMatchPairs
end
section
namespace Go.Proofs.YtggldnbhmebcpaaDoor.L
open Go.RowKit Go.ChangeShapes Go.WideShapes Go.Proofs.YtggldnbhmebcpaaDoorW.PrintWords Go.Proofs.YtggldnbhmebcpaaDoorW.PrintLast Go.Proofs.YtggldnbhmebcpaaDoorW.PrintMore
attribute [local go_sem] max2_int min2_int max_two min_two max_three min_three max_four min_four
open Go.Proofs.YtggldnbhmebcpaaDoor.PMatchPairs
def toS (n : Node) : S46 := ⟨n.kind, n.ints, n.texts, n.kids⟩
def ofS (x : S46) : Node := ⟨x.f0, x.f1, x.f2, x.f3⟩
theorem of_to (n : Node) : ofS (toS n) = n := rfl
theorem map_of_to (ns : List Node) : (ns.map toS).map ofS = ns := by
  rw [List.map_map]
  exact (List.map_congr_left (fun x _ => of_to x)).trans (List.map_id _)
theorem C_to {w : World} {A : Option Addr} {n : Nat} {ns : List Node} (h : kNode.C w A n ns) : k46.C w A n (ns.map toS) := by
  refine ⟨by rw [List.length_map]; exact h.1, h.2.1, fun hp => ?_⟩
  obtain ⟨ad, ha, hc⟩ := h.2.2 hp
  refine ⟨ad, ha, fun j p hj => ?_⟩
  rw [List.getElem?_map] at hj
  obtain ⟨x, hx, rfl⟩ := Option.map_eq_some_iff.1 hj
  exact hc j x hx
theorem C_of {w : World} {A : Option Addr} {n : Nat} {xs : List S46} (h : k46.C w A n xs) : kNode.C w A n (xs.map ofS) := by
  refine ⟨by rw [List.length_map]; exact h.1, h.2.1, fun hp => ?_⟩
  obtain ⟨ad, ha, hc⟩ := h.2.2 hp
  refine ⟨ad, ha, fun j p hj => ?_⟩
  rw [List.getElem?_map] at hj
  obtain ⟨x, hx, rfl⟩ := Option.map_eq_some_iff.1 hj
  exact hc j x hx
theorem rd_to (ns : List Node) (i : Int) : rd_T46 (ns.map toS) i = toS (nd ns i.toNat) := by
  unfold rd_T46 nd
  rw [List.getD_eq_getElem?_getD, List.getD_eq_getElem?_getD, List.getElem?_map]
  cases ns[i.toNat]? <;> rfl
theorem kids_to (ns : List Node) (i : Int) : (rd_T46 (ns.map toS) i).f3 = kids ns i := by rw [rd_to]; rfl
end Go.Proofs.YtggldnbhmebcpaaDoor.L
end
section
namespace Go.Proofs.YtggldnbhmebcpaaDoor.L
open Go.RowKit Go.ChangeShapes Go.WideShapes Go.Proofs.YtggldnbhmebcpaaDoorW.PrintWords Go.Proofs.YtggldnbhmebcpaaDoorW.PrintLast Go.Proofs.YtggldnbhmebcpaaDoorW.PrintMore
attribute [local go_sem] max2_int min2_int max_two min_two max_three min_three max_four min_four
open Go.Proofs.YtggldnbhmebcpaaDoor.PMatchPairs
theorem C_len {w : World} {A : Option Addr} {xs : List S46} (h : k46.C w A xs.length xs) : kNode.C w A (xs.map ofS).length (xs.map ofS) := by rw [List.length_map]; exact C_of h
def _root_.Go.Proofs.YtggldnbhmebcpaaDoor.PMatchPairs.dioramaref09_Place.f (xs : List S46) (_ : Int) (a : Int) : Option Bool := some (isPl xs.length a)
def _root_.Go.Proofs.YtggldnbhmebcpaaDoor.PMatchPairs.dioramaref09_Refs.f (_ : Nat) (xs : List S46) (_ : Int) : Option Int := some (refsAt (xs.map ofS))
theorem _root_.Go.Proofs.YtggldnbhmebcpaaDoor.PMatchPairs.dioramaref09_Refs.mono : ∀ a0 a1 k, LeO (dioramaref09_Refs.f k a0 a1) (dioramaref09_Refs.f (k + 1) a0 a1) := fun _ _ _ => LeO.refl _
theorem _root_.Go.Proofs.YtggldnbhmebcpaaDoor.PMatchPairs.dioramaref09_Place.calls (A0_0 : Option Addr) (c0_0 : Nat) (l0_0 : List S46) (a0_1 : Int) (a1 : Int) (r : Bool) (w : World) (hr0_0 : Kd.C k46 w A0_0 l0_0.length l0_0) (hc0_0 : l0_0.length ≤ c0_0) (h : dioramaref09_Place.f l0_0 a0_1 a1 = some r) :
    Calls Tryd.prog 16 #[.agg #[.slice A0_0 l0_0.length c0_0, .int .i64 a0_1], .int .i64 a1] w fun e w' => e = .returned (.bool r) ∧ Below w.heap.size w w' := by
  obtain rfl := Option.some.inj h
  exact place_any A0_0 c0_0 l0_0.length a0_1 a1 w
theorem _root_.Go.Proofs.YtggldnbhmebcpaaDoor.PMatchPairs.dioramaref09_Refs.calls (k : Nat) (A0_0 : Option Addr) (c0_0 : Nat) (l0_0 : List S46) (a0_1 : Int) (r : Int) (w : World) (hr0_0 : Kd.C k46 w A0_0 l0_0.length l0_0) (hc0_0 : l0_0.length ≤ c0_0) (h : dioramaref09_Refs.f k l0_0 a0_1 = some r) :
    Calls Tryd.prog 52 #[.agg #[.slice A0_0 l0_0.length c0_0, .int .i64 a0_1]] w fun e w' => e = .returned (.int .i64 r) ∧ Below w.heap.size w w' := by
  obtain rfl := Option.some.inj h
  have := rrefs_any A0_0 c0_0 ⟨l0_0.map ofS, a0_1⟩ w (C_len hr0_0)
  rw [show (Scene.mk (l0_0.map ofS) a0_1).nodes.length = l0_0.length from by simp] at this
  exact this
end Go.Proofs.YtggldnbhmebcpaaDoor.L
end
section
-- PRINTED BY print.sh 35421559b90ae4d0a3588c463048766b98c2df88dd9212a6774a882060cdf62d: not written by this session
namespace Go.Proofs.YtggldnbhmebcpaaDoor.PMatchPairs
open Go.RowKit Go.Proofs.YtggldnbhmebcpaaDoorW.PrintWords Go.Proofs.YtggldnbhmebcpaaDoorW.PrintLast Go.Proofs.YtggldnbhmebcpaaDoorW.PrintMore
attribute [local go_sem] max2_int min2_int max_two min_two max_three min_three max_four min_four   -- for this text's walks alone
set_option linter.unusedVariables false
set_option linter.unusedSimpArgs false
def dioramaref09_Led.l0 : Nat → List Bool → List Int → List (S46) → Int → Option (List Bool)
  | 0, _, _, _, _ => none
  | k + 1, x5, x6, x339000, x339001 => if (x6.length : Int) > 0 then (if 0 < (x6.length : Int) then (if 1 ≤ (x6.length : Int) then ((some (x6.drop (1 : Int).toNat : List Int)).bind fun y350 => (if 0 ≤ (rd x6 0) then (if (rd x6 0) < (x5.length : Int) then (if (rdOf false x5 (rd x6 0) = true) then (dioramaref09_Led.l0 k x5 y350 x339000 x339001) else ((some (([] : List Int) : List Int)).bind fun y355 => (if y355.length + y350.length < 17592186044416 then ((some (y355 ++ y350 : List Int)).bind fun y358 => (if (rd x6 0) < (x339000.length : Int) then (if y358.length + ((rd_T46 x339000 (rd x6 0)).f3).length < 17592186044416 then (dioramaref09_Led.l0 k (x5.set ((rd x6 0) : Int).toNat true) (y358 ++ ((rd_T46 x339000 (rd x6 0)).f3)) x339000 x339001) else (none)) else (none))) else (none)))) else (none)) else (none))) else (none)) else (none)) else (some x5)
def dioramaref09_Led.f (k : Nat) (l0_0 : List (S46)) (a0_1 : Int) (a1 : Int) : Option (List Bool) := if 0 ≤ (l0_0.length : Int) then (if ((l0_0.length : Int) : Int).toNat ≤ 281474976710656 then ((some (([] : List Int) : List Int)).bind fun y342 => (if 0 ≤ a1 then (if a1 < (l0_0.length : Int) then (if y342.length + ((rd_T46 l0_0 a1).f3).length < 17592186044416 then (dioramaref09_Led.l0 k (List.replicate ((l0_0.length : Int) : Int).toNat false) (y342 ++ ((rd_T46 l0_0 a1).f3)) l0_0 a0_1) else (none)) else (none)) else (none))) else (none)) else (none)
def dioramaref09_Led.T8 : Bool × List (List Nat × List Nat) := (true, [([], []), ([], []), ([0, 1], [0, 1]), ([], []), ([3], [3]), ([], []), ([4, 5], [4, 5]), ([6], [6]), ([7], [7]), ([2, 8, 2], [2, 8]), ([9, 9, 0, 1, 2, 3, 4, 5, 6, 7, 8, 9], [1, 9])])
def dioramaref09_Led.B8 : List Nat := [0, 0, 3, 0, 8, 0, 56, 120, 248, 511, 1023]
theorem dioramaref09_Led.tab8 : rtab .any (opsOf Tryd.f53 8) = dioramaref09_Led.T8 := by kernel_rfl
theorem dioramaref09_Led.bits8 : waitsOk dioramaref09_Led.T8.2 dioramaref09_Led.B8 = true := by kernel_rfl
set_option maxHeartbeats 8000000 in
set_option maxRecDepth 100000 in
theorem dioramaref09_Led.calls (k : Nat) (A0_0 : Option Addr) (c0_0 : Nat) (l0_0 : List (S46)) (a0_1 : Int) (a1 : Int) (r : List Bool) (w : World) (hr0_0 : Kd.C k46 w A0_0 l0_0.length l0_0) (hc0_0 : l0_0.length ≤ c0_0) (h : dioramaref09_Led.f k l0_0 a0_1 a1 = some r) :
    Calls Tryd.prog 53 #[.agg #[.slice A0_0 l0_0.length c0_0, .int .i64 a0_1], .int .i64 a1] w fun e w' => ∃ v0_ : Value, e = .returned (v0_) ∧ Kd.R Kd.bool 4 w' w.heap.size (fun _ => True) v0_ r ∧ Below w.heap.size w w' := by
  have hu24 := Tryd.underlying24
  have HR0_0 := Aside0.mk hr0_0
  have HC0_0 := Aside0.mk hc0_0
  clear hr0_0 hc0_0
  have HB := Aside0.mk (Below.refl w.heap.size w)
  have H : (if 0 ≤ (l0_0.length : Int) then (if ((l0_0.length : Int) : Int).toNat ≤ 281474976710656 then ((some (([] : List Int) : List Int)).bind fun y342 => (if 0 ≤ a1 then (if a1 < (l0_0.length : Int) then (if y342.length + ((rd_T46 l0_0 a1).f3).length < 17592186044416 then (dioramaref09_Led.l0 k (List.replicate ((l0_0.length : Int) : Int).toNat false) (y342 ++ ((rd_T46 l0_0 a1).f3)) l0_0 a0_1) else (none)) else (none)) else (none))) else (none)) else (none)) = some r := h
  clear h
  by_cases c3 : 0 ≤ (l0_0.length : Int)
  · rw [if_pos c3] at H
    have c3b0 := eq_true c3
    have c3b1 : decide (0 ≤ (l0_0.length : Int)) = true := decide_eq_true c3
    clear c3
    by_cases c4 : ((l0_0.length : Int) : Int).toNat ≤ 281474976710656
    · rw [if_pos c4] at H
      have c4b0 := eq_true c4
      have c4b1 : decide (((l0_0.length : Int) : Int).toNat ≤ 281474976710656) = true := decide_eq_true c4
      clear c4
      obtain ⟨y339, hy339⟩ : ∃ y_ : List Bool, y_ = (List.replicate ((l0_0.length : Int) : Int).toNat false) := ⟨_, rfl⟩
      replace H : ((some (([] : List Int) : List Int)).bind fun y342 => (if 0 ≤ a1 then (if a1 < (l0_0.length : Int) then (if y342.length + ((rd_T46 l0_0 a1).f3).length < 17592186044416 then (dioramaref09_Led.l0 k y339 (y342 ++ ((rd_T46 l0_0 a1).f3)) l0_0 a0_1) else (none)) else (none)) else (none))) = some r := by first | (rw [hy339]; with_reducible exact H) | (have H2_ := (Option.bind_some _ _).symm.trans H; rw [hy339]; with_reducible exact H2_) | (have H2_ := (Option.bind_some _ _).symm.trans H; with_reducible exact H2_) | with_reducible exact H | (rw [hy339]; exact H) | exact H
      have Ny339 := Aside0.mk hy339
      clear hy339
      obtain ⟨y342, hy342⟩ : ∃ y_ : List Int, y_ = (([] : List Int)) := ⟨_, rfl⟩
      replace H : (if 0 ≤ a1 then (if a1 < (l0_0.length : Int) then (if y342.length + ((rd_T46 l0_0 a1).f3).length < 17592186044416 then (dioramaref09_Led.l0 k y339 (y342 ++ ((rd_T46 l0_0 a1).f3)) l0_0 a0_1) else (none)) else (none)) else (none)) = some r := by first | (rw [hy342]; with_reducible exact H) | (have H2_ := (Option.bind_some _ _).symm.trans H; rw [hy342]; with_reducible exact H2_) | (have H2_ := (Option.bind_some _ _).symm.trans H; with_reducible exact H2_) | with_reducible exact H | (rw [hy342]; exact H) | exact H
      have Ny342 := Aside0.mk hy342
      clear hy342
      by_cases c5 : 0 ≤ a1
      · rw [if_pos c5] at H
        have c5b0 : decide (0 ≤ a1) = true := decide_eq_true c5
        clear c5
        by_cases c6 : a1 < (l0_0.length : Int)
        · rw [if_pos c6] at H
          have c6b0 : decide (a1 < (l0_0.length : Int)) = true := decide_eq_true c6
          clear c6
          by_cases c7 : y342.length + ((rd_T46 l0_0 a1).f3).length < 17592186044416
          · rw [if_pos c7] at H
            have LMc7 := Aside0.mk c7
            clear c7
            obtain ⟨y346, hy346⟩ : ∃ y_ : List Int, y_ = (y342 ++ ((rd_T46 l0_0 a1).f3)) := ⟨_, rfl⟩
            replace H : (dioramaref09_Led.l0 k y339 y346 l0_0 a0_1) = some r := by first | (rw [hy346]; with_reducible exact H) | (have H2_ := (Option.bind_some _ _).symm.trans H; rw [hy346]; with_reducible exact H2_) | (have H2_ := (Option.bind_some _ _).symm.trans H; with_reducible exact H2_) | with_reducible exact H | (rw [hy346]; exact H) | exact H
            have Ny346 := Aside0.mk hy346
            clear hy346
            have H' := Aside0.mk H
            clear H
            go_enter Tryd.func53, Tryd.ntmps53
            go_wp2_with (first | ((with_reducible refine gate_dst (N := 2) rfl ?_); refine box_event ?hg (N := 2) ?hd (cs := #[.slice A0_0 l0_0.length c0_0, .int .i64 a0_1]) (t := 24) ?hr ?_; (case hd => rfl); (case hg => rfl); (case hr => first | (go_simp; done) | (go_simp; rfl)); intro gb338 hg w8 hbox hb; have n0_ := Aside0.mk (below_step (by repeat (first | (with_reducible first | exact HB.out | apply below_alloc | apply pw_below_drewN | apply below_drew1) | exact HB.out)) hb); have n1_ := Aside0.mk (hbox); have n2_ := Aside0.mk ((by rw [hg]; exact (below_size (by repeat (first | (with_reducible first | exact HB.out | apply below_alloc | apply pw_below_drewN | apply below_drew1) | exact HB.out))) : w.heap.size ≤ gb338)); have n3_ := Aside0.mk ((by rw [hg]; exact (below_size (by repeat (first | (with_reducible first | exact HB.out | apply below_alloc | apply pw_below_drewN | apply below_drew1) | exact HB.out))) : w.heap.size ≤ gb338)); clear HB; have HB := n0_; have BK338 := n1_; have GW338 := n2_; have GE338 := n3_; clear n0_ n1_ n2_ n3_; clear hb hbox hg; have hcz9_0 : w8.cell? ⟨gb338, 0, none⟩ = some (.slice A0_0 l0_0.length c0_0) := (blk_cell BK338.out 0).trans rfl; have hcz9_1 : w8.cell? ⟨gb338, 1, none⟩ = some (.int .i64 a0_1) := (blk_cell BK338.out 1).trans rfl; have hfz9_0 := blk_frozen BK338.out 0; have hfz9_1 := blk_frozen BK338.out 1) | ((with_reducible refine gate_dst (N := 11) rfl ?_); refine Kd.R_make Kd.bool _ 4 rfl (N := 11) rfl 39 _ _ rfl (l0_0.length : Int) rfl rfl Tryd.underlying39 (.bool false) 1 info4 rfl (by decide) (by omega) false (ok := fun _ => True) (okp := fun _ => True) rfl (fun _ hk => hk) trivial (of_decide_eq_true (by first | (with_reducible assumption) | assumption)) (Nat.le_trans (Nat.mul_le_mul_right _ (of_decide_eq_true (by first | (with_reducible assumption) | assumption) : (l0_0.length : Int).toNat ≤ 281474976710656)) (by omega)) (Below.refl _ _) (Nat.le_refl _) ?_; intro v340 w10 ho11 hb hg_ hnew_; clear hg_ hnew_; (first | rw [← Ny339.out] at ho11 | (simp only [Int.reduceToNat] at ho11; rw [← Ny339.out] at ho11)); have n0_ := Aside0.mk (Kd.R_lower ho11 (below_size (by repeat (first | (with_reducible first | exact HB.out | apply below_alloc | apply pw_below_drewN | apply below_drew1 | refine below_set ?_ GE338.out) | exact HB.out)))); have n1_ := Aside0.mk (blk_below (g := gb338) (o := .cells #[.slice A0_0 l0_0.length c0_0, .int .i64 a0_1] 24 (0, 0)) (by (with_reducible repeat (first | refine blk_drewN ?_ _ | refine blk_drew ?_ | refine blk_alloc ?_ _)); exact BK338.out) hb); have n2_ := Aside0.mk (below_step (by repeat (first | (with_reducible first | exact HB.out | apply below_alloc | apply pw_below_drewN | apply below_drew1 | refine below_set ?_ GE338.out) | exact HB.out)) hb); clear BK338; clear HB; have HO341 := n0_; have BK338 := n1_; have HB := n2_; clear n0_ n1_ n2_; clear hb ho11) | ((with_reducible refine gate_dst (N := 12) rfl ?_); refine Kd.R_lit (Kd.int .i64) _ 3 ?hg (N := 12) ?hd (xs := ([] : List Int)) (inner := []) (ok := fun _ => True) (okp := fun _ => True) ?hr ?hp (fun _ hk => hk) trivial (Below.refl _ _) (Nat.le_refl _) (by simp) ?_; (case hd => rfl); (case hg => rfl); (case hr => first | (go_simp; done) | (go_simp; rfl)); (case hp => exact (Reps.none _ _)); intro v343 w12 ho13 hb hg_ hnew_; clear hg_ hnew_; (first | rw [← Ny342.out] at ho13 | (simp only [Int.reduceToNat] at ho13; rw [← Ny342.out] at ho13)); have n0_ := Aside0.mk (Kd.R_below (by (with_reducible repeat (first | apply Kd.R_alloc | apply Kd.R_drewN | apply Kd.R_drew)); exact HO341.out) hb); have n1_ := Aside0.mk (Kd.R_lower ho13 (below_size (by repeat (first | (with_reducible first | exact HB.out | apply below_alloc | apply pw_below_drewN | apply below_drew1 | refine below_set ?_ GE338.out) | exact HB.out)))); have n2_ := Aside0.mk (blk_below (g := gb338) (o := .cells #[.slice A0_0 l0_0.length c0_0, .int .i64 a0_1] 24 (0, 0)) (by (with_reducible repeat (first | refine blk_drewN ?_ _ | refine blk_drew ?_ | refine blk_alloc ?_ _)); exact BK338.out) hb); have n3_ := Aside0.mk (below_step (by repeat (first | (with_reducible first | exact HB.out | apply below_alloc | apply pw_below_drewN | apply below_drew1 | refine below_set ?_ GE338.out) | exact HB.out)) hb); clear HO341; clear BK338; clear HB; have HO341 := n0_; have HO344 := n1_; have BK338 := n2_; have HB := n3_; clear n0_ n1_ n2_ n3_; clear hb ho13; have hcz14_0 : w12.cell? ⟨gb338, 0, none⟩ = some (.slice A0_0 l0_0.length c0_0) := (blk_cell BK338.out 0).trans rfl; have hcz14_1 : w12.cell? ⟨gb338, 1, none⟩ = some (.int .i64 a0_1) := (blk_cell BK338.out 1).trans rfl; have hfz14_0 := blk_frozen BK338.out 0; have hfz14_1 := blk_frozen BK338.out 1; have p345 : 0 ≤ (a1 : Int) := of_decide_eq_true (by first | (with_reducible assumption) | assumption); have q345 : a1 < (l0_0.length : Int) := of_decide_eq_true (by first | (with_reducible assumption) | assumption); obtain ⟨ad345, A345_1, c345_1, A345_2, c345_2, A345_3, c345_3, e345, hx345_0, hx345_1, hx345_2, hx345_3, hl345_1, hi345_1, hl345_2, hi345_2, hl345_3, hi345_3⟩ := at_T46 HR0_0.out a1 p345 q345; cases e345; replace hx345_0 := (HB.out.cell (World.block_lt_of_cell? w _ hx345_0)).trans hx345_0; replace hx345_1 := (HB.out.cell (World.block_lt_of_cell? w _ hx345_1)).trans hx345_1; replace hx345_2 := (HB.out.cell (World.block_lt_of_cell? w _ hx345_2)).trans hx345_2; replace hx345_3 := (HB.out.cell (World.block_lt_of_cell? w _ hx345_3)).trans hx345_3; have HR345_1 := Aside0.mk hi345_1; have HC345_1 := Aside0.mk hl345_1; clear hi345_1 hl345_1; have HR345_2 := Aside0.mk hi345_2; have HC345_2 := Aside0.mk hl345_2; clear hi345_2 hl345_2; have HR345_3 := Aside0.mk hi345_3; have HC345_3 := Aside0.mk hl345_3; clear hi345_3 hl345_3; replace p345 := eq_true p345; replace q345 := eq_true q345) | ((with_reducible refine gate_builtin (b := .append) (xs := #[.tmp 12, .tmp 18]) rfl ?_); at_builtin; refine Kd.R_append_rows (Kd.int .i64) (w0 := w) w.heap.size rfl (.tmp 12) (.tmp 18) 27 3 (.int .i64 0) 8 rfl Tryd.underlying27 info3 rfl (by decide) (by omega) v343 y342 ((rd_T46 l0_0 a1).f3) _ _ _ (fun _ => True) (fun _ => False) rfl rfl ?aO ?aR (fun _ _ h => h) (fun _ h => h.elim) ?aF ?aB ?aS ?aL ?_; (case aR => repeat (first | exact (Kd.C_below HR345_3.out HB.out) | (with_reducible refine Kd.C_alloc ?_ _) | (with_reducible refine Kd.C_drewN ?_ _) | (with_reducible refine Kd.C_drew ?_))); (case aB => exact (by repeat (first | (with_reducible first | exact HB.out | apply below_alloc | apply pw_below_drewN | apply below_drew1 | refine below_set ?_ GE338.out) | exact HB.out))); (case aF => exact (fun _ _ => trivial)); (case aO => exact (by (with_reducible repeat (first | apply Kd.R_alloc | apply Kd.R_drewN | apply Kd.R_drew)); exact HO344.out)); (case aS => exact (below_size (by repeat (first | (with_reducible first | exact HB.out | apply below_alloc | apply pw_below_drewN | apply below_drew1 | refine below_set ?_ GE338.out) | exact HB.out)))); (case aL => have := LMc7.out; omega); intro v347 w15 ho hb hg hat; rw [← Ny346.out] at ho; have n0_ := Aside0.mk (blk_grown (g := gb338) (o := .cells #[.slice (some ad345) l0_0.length c0_0, .int .i64 a0_1] 24 (0, 0)) (by (with_reducible repeat (first | refine blk_drewN ?_ _ | refine blk_drew ?_ | refine blk_alloc ?_ _)); exact BK338.out) hg (Kd.R_ne HO344.out BK338.out (by decide))); have n1_ := Aside0.mk (Kd.R_over' (by (with_reducible repeat (first | apply Kd.R_alloc | apply Kd.R_drewN | apply Kd.R_drew)); exact HO341.out) (Kd.R_typed (by (with_reducible repeat (first | apply Kd.R_alloc | apply Kd.R_drewN | apply Kd.R_drew)); exact HO344.out)) (by decide) hg); have n2_ := Aside0.mk (hb); have n3_ := Aside0.mk (ho); clear BK338; clear HO341; clear HB; clear HO344; have BK338 := n0_; have HO341 := n1_; have HB := n2_; have HO348 := n3_; clear n0_ n1_ n2_ n3_; clear ho hb hg hat))
            go_loopg [6] k (fun kq v6 w' => ∃ (x5_1 : List Bool) (x6_1 : List Int), Aside0 (dioramaref09_Led.l0 kq x5_1 x6_1 l0_0 a0_1 = some r) ∧ Aside0 (kq ≤ k) ∧ Aside0 (Kd.R Kd.bool 4 w' w.heap.size (fun _ => True) v340 x5_1) ∧ Aside0 (Kd.Q (Kd.int .i64) 3 w' w.heap.size (fun _ => True) v6 x6_1) ∧ Aside0 (w'.heap[gb338]? = some (.cells #[(.slice (some ad345) l0_0.length c0_0), .int .i64 a0_1] 24 (0, 0))) ∧ Aside0 (Below w.heap.size w w'))
            case atStart => exact ⟨(y339), (y346), H', ⟨Nat.le_refl _⟩, ⟨by (with_reducible repeat (first | apply Kd.R_alloc | apply Kd.R_drewN | apply Kd.R_drew)); exact HO341.out⟩, ⟨Kd.Q_of_R (by (with_reducible repeat (first | apply Kd.R_alloc | apply Kd.R_drewN | apply Kd.R_drew)); exact HO348.out)⟩, ⟨by (with_reducible repeat (first | refine blk_drewN ?_ _ | refine blk_drew ?_ | refine blk_alloc ?_ _)); exact BK338.out⟩, ⟨by repeat (first | (with_reducible first | exact HB.out | apply below_alloc | apply pw_below_drewN | apply below_drew1 | refine below_set ?_ GE338.out) | exact HB.out)⟩⟩
            case round =>
              clear H'
              try clear p2
              try clear c3
              try clear c3b0
              try clear c3b1
              try clear p3
              try clear q3
              try clear hx3
              try clear c4
              try clear c4b0
              try clear c4b1
              try clear c5
              try clear c5b0
              try clear c6
              try clear c6b0
              try clear c7
              try clear hcz14_0
              try clear hcz14_1
              try clear hcz9_0
              try clear hcz9_1
              try clear hfz14_0
              try clear hfz14_1
              try clear hfz9_0
              try clear hfz9_1
              try clear hx345_0
              try clear hx345_1
              try clear hx345_2
              try clear hx345_3
              try clear p345
              try clear q345
              obtain ⟨x5_1, x6_1, HA, HK1, HO_5, HO_6, BK338, HB⟩ := hrel
              cases gk with
              | zero => exact absurd HA.out (by simp [dioramaref09_Led.l0])
              | succ k1 =>
                have H := HA.out
                clear HA
                simp only [dioramaref09_Led.l0] at H
                by_cases c16 : (x6_1.length : Int) > 0
                · rw [if_pos c16] at H
                  have c16b0 : decide (0 < (x6_1.length : Int)) = true := decide_eq_true c16
                  have c16b1 : decide (0 < x6_1.length) = true := decide_eq_true (by omega)
                  clear c16
                  by_cases c17 : 0 < (x6_1.length : Int)
                  · rw [if_pos c17] at H
                    have c17b0 : decide (0 < (x6_1.length : Int)) = true := decide_eq_true c17
                    have c17b1 : decide (0 < x6_1.length) = true := decide_eq_true (by omega)
                    clear c17
                    by_cases c18 : 1 ≤ (x6_1.length : Int)
                    · rw [if_pos c18] at H
                      have c18b0 := eq_true c18
                      have c18b1 : decide (1 ≤ (x6_1.length : Int)) = true := decide_eq_true c18
                      clear c18
                      obtain ⟨y350, hy350⟩ : ∃ y_ : List Int, y_ = (x6_1.drop (1 : Int).toNat) := ⟨_, rfl⟩
                      replace H : (if 0 ≤ (rd x6_1 0) then (if (rd x6_1 0) < (x5_1.length : Int) then (if (rdOf false x5_1 (rd x6_1 0) = true) then (dioramaref09_Led.l0 k1 x5_1 y350 l0_0 a0_1) else ((some (([] : List Int) : List Int)).bind fun y355 => (if y355.length + y350.length < 17592186044416 then ((some (y355 ++ y350 : List Int)).bind fun y358 => (if (rd x6_1 0) < (l0_0.length : Int) then (if y358.length + ((rd_T46 l0_0 (rd x6_1 0)).f3).length < 17592186044416 then (dioramaref09_Led.l0 k1 (x5_1.set ((rd x6_1 0) : Int).toNat true) (y358 ++ ((rd_T46 l0_0 (rd x6_1 0)).f3)) l0_0 a0_1) else (none)) else (none))) else (none)))) else (none)) else (none)) = some r := by first | (rw [hy350]; with_reducible exact H) | (have H2_ := (Option.bind_some _ _).symm.trans H; rw [hy350]; with_reducible exact H2_) | (have H2_ := (Option.bind_some _ _).symm.trans H; with_reducible exact H2_) | with_reducible exact H | (rw [hy350]; exact H) | exact H
                      have Ny350 := Aside0.mk hy350
                      clear hy350
                      by_cases c19 : 0 ≤ (rd x6_1 0)
                      · rw [if_pos c19] at H
                        have c19b0 : decide (0 ≤ (rd x6_1 0)) = true := decide_eq_true c19
                        clear c19
                        by_cases c20 : (rd x6_1 0) < (x5_1.length : Int)
                        · rw [if_pos c20] at H
                          have c20b0 : decide ((rd x6_1 0) < (x5_1.length : Int)) = true := decide_eq_true c20
                          clear c20
                          obtain ⟨bq21, hbq21⟩ : ∃ b_ : Bool, b_ = (rdOf false x5_1 (rd x6_1 0)) := ⟨_, rfl⟩
                          replace H : (if (bq21 = true) then (dioramaref09_Led.l0 k1 x5_1 y350 l0_0 a0_1) else ((some (([] : List Int) : List Int)).bind fun y355 => (if y355.length + y350.length < 17592186044416 then ((some (y355 ++ y350 : List Int)).bind fun y358 => (if (rd x6_1 0) < (l0_0.length : Int) then (if y358.length + ((rd_T46 l0_0 (rd x6_1 0)).f3).length < 17592186044416 then (dioramaref09_Led.l0 k1 (x5_1.set ((rd x6_1 0) : Int).toNat true) (y358 ++ ((rd_T46 l0_0 (rd x6_1 0)).f3)) l0_0 a0_1) else (none)) else (none))) else (none)))) = some r := by rw [← hbq21] at H; exact H
                          have Nbq21 := Aside0.mk hbq21
                          clear hbq21
                          by_cases c22 : (bq21 = true)
                          · subst c22
                            have H1 : (dioramaref09_Led.l0 k1 x5_1 y350 l0_0 a0_1) = some r := by rw [if_pos rfl] at H; exact H
                            clear H
                            have H := H1
                            clear H1
                            have H' := Aside0.mk H
                            clear H
                            obtain ⟨Ao23, co23, eo23, _⟩ := Kd.Q_slice HO_6.out
                            subst eo23
                            have p349 : 0 ≤ (0 : Int) := (by omega)
                            have q349 : 0 < (x6_1.length : Int) := of_decide_eq_true (by first | (with_reducible assumption) | assumption)
                            obtain ⟨ad349, e349, hx349_0⟩ := Kd.at_int (Kd.Q_reads' HO_6.out).2.2 0 p349 q349
                            cases e349
                            have qi349 : (0 < x6_1.length) = True := eq_true (by omega)
                            (try rw [show ((0 : Int)).toNat = 0 from rfl] at hx349_0)
                            (try rw [Addr.add_zero'] at hx349_0)
                            replace p349 := eq_true p349
                            replace q349 := eq_true q349
                            have q24 : (1 : Int) ≤ ((x6_1.length : Int) : Int) := of_decide_eq_true (by first | (with_reducible assumption) | assumption)
                            obtain ⟨i024, hi024, _, hsz24, _⟩ := info_parts info3
                            have hcut24 := cut_from (P := Tryd.prog) 27 3 .i64 Tryd.underlying27 hi024 1 hsz24 (some ad349) x6_1.length co23 1 (by omega) q24
                            have hr24 := Kd.Q_drop (k := (1 : Int).toNat) HO_6.out (by omega)
                            obtain ⟨A24, hA24⟩ : ∃ A1, A1 = (if co23 = (1 : Int).toNat then (some ad349) else ((some ad349) : Option Addr).map (·.add ((1 : Int).toNat * 1))) := ⟨_, rfl⟩
                            obtain ⟨c24, hc24⟩ : ∃ c1, c1 = co23 - (1 : Int).toNat := ⟨_, rfl⟩
                            have hy24 : y350.length = x6_1.length - (1 : Int).toNat := (by rw [Ny350.out, List.length_drop])
                            rw [← Ny350.out] at hr24
                            rw [← hy24, ← hA24, ← hc24] at hcut24
                            replace hr24 : Kd.Q (Kd.int .i64) 3 wr w.heap.size (fun _ => True) (.slice A24 y350.length c24) y350 := (by rw [hA24, hc24, hy24]; exact hr24)
                            have HE24 : Aside0 ((Value.slice A24 y350.length c24).ownBlock = (.slice (some ad349) x6_1.length co23 : Value).ownBlock) := ⟨by rw [hA24]; split <;> (cases ((some ad349) : Option Addr) <;> rfl)⟩
                            clear hy24 hi024 hsz24 HO_6 hA24 hc24
                            have HO352 := Aside0.mk hr24
                            clear hr24
                            replace q24 := eq_true q24
                            obtain ⟨Ao25, co25, eo25⟩ := Kd.R_slice HO_5.out
                            subst eo25
                            have p353 : 0 ≤ ((rd x6_1 0) : Int) := of_decide_eq_true (by first | (with_reducible assumption) | assumption)
                            have q353 : (rd x6_1 0) < (x5_1.length : Int) := of_decide_eq_true (by first | (with_reducible assumption) | assumption)
                            obtain ⟨ad353, e353, hx353_0⟩ := Kd.at_bool (Kd.R_reads' HO_5.out).2.2 (rd x6_1 0) p353 q353
                            (try rw [← Nbq21.out] at hx353_0)
                            cases e353
                            replace p353 := eq_true p353
                            replace q353 := eq_true q353
                            go_wp2
                            go_roundg k1
                            case measure => have := HK1.out; omega
                            case rel => exact ⟨(x5_1), (y350), H', ⟨by have := HK1.out; omega⟩, ⟨by (with_reducible repeat (first | apply Kd.R_alloc | apply Kd.R_drewN | apply Kd.R_drew)); exact HO_5.out⟩, ⟨by (with_reducible repeat (first | apply Kd.Q_alloc | apply Kd.Q_drewN | apply Kd.Q_drew)); exact HO352.out⟩, ⟨by (with_reducible repeat (first | refine blk_drewN ?_ _ | refine blk_drew ?_ | refine blk_alloc ?_ _)); exact BK338.out⟩, ⟨by repeat (first | (with_reducible first | exact HB.out | apply below_alloc | apply pw_below_drewN | apply below_drew1 | refine below_set ?_ GE338.out) | exact HB.out)⟩⟩
                          · replace c22 := Bool.eq_false_iff.mpr c22
                            subst c22
                            have H1 : ((some (([] : List Int) : List Int)).bind fun y355 => (if y355.length + y350.length < 17592186044416 then ((some (y355 ++ y350 : List Int)).bind fun y358 => (if (rd x6_1 0) < (l0_0.length : Int) then (if y358.length + ((rd_T46 l0_0 (rd x6_1 0)).f3).length < 17592186044416 then (dioramaref09_Led.l0 k1 (x5_1.set ((rd x6_1 0) : Int).toNat true) (y358 ++ ((rd_T46 l0_0 (rd x6_1 0)).f3)) l0_0 a0_1) else (none)) else (none))) else (none))) = some r := by rw [if_neg (show ¬ (false = true) by decide)] at H; exact H
                            clear H
                            have H := H1
                            clear H1
                            obtain ⟨y354, hy354⟩ : ∃ y_ : List Bool, y_ = (x5_1.set ((rd x6_1 0) : Int).toNat true) := ⟨_, rfl⟩
                            replace H : ((some (([] : List Int) : List Int)).bind fun y355 => (if y355.length + y350.length < 17592186044416 then ((some (y355 ++ y350 : List Int)).bind fun y358 => (if (rd x6_1 0) < (l0_0.length : Int) then (if y358.length + ((rd_T46 l0_0 (rd x6_1 0)).f3).length < 17592186044416 then (dioramaref09_Led.l0 k1 y354 (y358 ++ ((rd_T46 l0_0 (rd x6_1 0)).f3)) l0_0 a0_1) else (none)) else (none))) else (none))) = some r := by first | (rw [hy354]; with_reducible exact H) | (have H2_ := (Option.bind_some _ _).symm.trans H; rw [hy354]; with_reducible exact H2_) | (have H2_ := (Option.bind_some _ _).symm.trans H; with_reducible exact H2_) | with_reducible exact H | (rw [hy354]; exact H) | exact H
                            have Ny354 := Aside0.mk hy354
                            clear hy354
                            obtain ⟨y355, hy355⟩ : ∃ y_ : List Int, y_ = (([] : List Int)) := ⟨_, rfl⟩
                            replace H : (if y355.length + y350.length < 17592186044416 then ((some (y355 ++ y350 : List Int)).bind fun y358 => (if (rd x6_1 0) < (l0_0.length : Int) then (if y358.length + ((rd_T46 l0_0 (rd x6_1 0)).f3).length < 17592186044416 then (dioramaref09_Led.l0 k1 y354 (y358 ++ ((rd_T46 l0_0 (rd x6_1 0)).f3)) l0_0 a0_1) else (none)) else (none))) else (none)) = some r := by first | (rw [hy355]; with_reducible exact H) | (have H2_ := (Option.bind_some _ _).symm.trans H; rw [hy355]; with_reducible exact H2_) | (have H2_ := (Option.bind_some _ _).symm.trans H; with_reducible exact H2_) | with_reducible exact H | (rw [hy355]; exact H) | exact H
                            have Ny355 := Aside0.mk hy355
                            clear hy355
                            by_cases c27 : y355.length + y350.length < 17592186044416
                            · rw [if_pos c27] at H
                              have LMc27 := Aside0.mk c27
                              clear c27
                              obtain ⟨y358, hy358⟩ : ∃ y_ : List Int, y_ = (y355 ++ y350) := ⟨_, rfl⟩
                              replace H : (if (rd x6_1 0) < (l0_0.length : Int) then (if y358.length + ((rd_T46 l0_0 (rd x6_1 0)).f3).length < 17592186044416 then (dioramaref09_Led.l0 k1 y354 (y358 ++ ((rd_T46 l0_0 (rd x6_1 0)).f3)) l0_0 a0_1) else (none)) else (none)) = some r := by first | (rw [hy358]; with_reducible exact H) | (have H2_ := (Option.bind_some _ _).symm.trans H; rw [hy358]; with_reducible exact H2_) | (have H2_ := (Option.bind_some _ _).symm.trans H; with_reducible exact H2_) | with_reducible exact H | (rw [hy358]; exact H) | exact H
                              have Ny358 := Aside0.mk hy358
                              clear hy358
                              by_cases c28 : (rd x6_1 0) < (l0_0.length : Int)
                              · rw [if_pos c28] at H
                                have c28b0 : decide ((rd x6_1 0) < (l0_0.length : Int)) = true := decide_eq_true c28
                                clear c28
                                by_cases c29 : y358.length + ((rd_T46 l0_0 (rd x6_1 0)).f3).length < 17592186044416
                                · rw [if_pos c29] at H
                                  have LMc29 := Aside0.mk c29
                                  clear c29
                                  obtain ⟨y362, hy362⟩ : ∃ y_ : List Int, y_ = (y358 ++ ((rd_T46 l0_0 (rd x6_1 0)).f3)) := ⟨_, rfl⟩
                                  replace H : (dioramaref09_Led.l0 k1 y354 y362 l0_0 a0_1) = some r := by first | (rw [hy362]; with_reducible exact H) | (have H2_ := (Option.bind_some _ _).symm.trans H; rw [hy362]; with_reducible exact H2_) | (have H2_ := (Option.bind_some _ _).symm.trans H; with_reducible exact H2_) | with_reducible exact H | (rw [hy362]; exact H) | exact H
                                  have Ny362 := Aside0.mk hy362
                                  clear hy362
                                  have H' := Aside0.mk H
                                  clear H
                                  obtain ⟨Ao30, co30, eo30, _⟩ := Kd.Q_slice HO_6.out
                                  subst eo30
                                  have p349 : 0 ≤ (0 : Int) := (by omega)
                                  have q349 : 0 < (x6_1.length : Int) := of_decide_eq_true (by first | (with_reducible assumption) | assumption)
                                  obtain ⟨ad349, e349, hx349_0⟩ := Kd.at_int (Kd.Q_reads' HO_6.out).2.2 0 p349 q349
                                  cases e349
                                  have qi349 : (0 < x6_1.length) = True := eq_true (by omega)
                                  (try rw [show ((0 : Int)).toNat = 0 from rfl] at hx349_0)
                                  (try rw [Addr.add_zero'] at hx349_0)
                                  replace p349 := eq_true p349
                                  replace q349 := eq_true q349
                                  have q31 : (1 : Int) ≤ ((x6_1.length : Int) : Int) := of_decide_eq_true (by first | (with_reducible assumption) | assumption)
                                  obtain ⟨i031, hi031, _, hsz31, _⟩ := info_parts info3
                                  have hcut31 := cut_from (P := Tryd.prog) 27 3 .i64 Tryd.underlying27 hi031 1 hsz31 (some ad349) x6_1.length co30 1 (by omega) q31
                                  have hr31 := Kd.Q_drop (k := (1 : Int).toNat) HO_6.out (by omega)
                                  obtain ⟨A31, hA31⟩ : ∃ A1, A1 = (if co30 = (1 : Int).toNat then (some ad349) else ((some ad349) : Option Addr).map (·.add ((1 : Int).toNat * 1))) := ⟨_, rfl⟩
                                  obtain ⟨c31, hc31⟩ : ∃ c1, c1 = co30 - (1 : Int).toNat := ⟨_, rfl⟩
                                  have hy31 : y350.length = x6_1.length - (1 : Int).toNat := (by rw [Ny350.out, List.length_drop])
                                  rw [← Ny350.out] at hr31
                                  rw [← hy31, ← hA31, ← hc31] at hcut31
                                  replace hr31 : Kd.Q (Kd.int .i64) 3 wr w.heap.size (fun _ => True) (.slice A31 y350.length c31) y350 := (by rw [hA31, hc31, hy31]; exact hr31)
                                  have HE31 : Aside0 ((Value.slice A31 y350.length c31).ownBlock = (.slice (some ad349) x6_1.length co30 : Value).ownBlock) := ⟨by rw [hA31]; split <;> (cases ((some ad349) : Option Addr) <;> rfl)⟩
                                  clear hy31 hi031 hsz31 HO_6 hA31 hc31
                                  have HO352 := Aside0.mk hr31
                                  clear hr31
                                  replace q31 := eq_true q31
                                  obtain ⟨Ao32, co32, eo32⟩ := Kd.R_slice HO_5.out
                                  subst eo32
                                  have p353 : 0 ≤ ((rd x6_1 0) : Int) := of_decide_eq_true (by first | (with_reducible assumption) | assumption)
                                  have q353 : (rd x6_1 0) < (x5_1.length : Int) := of_decide_eq_true (by first | (with_reducible assumption) | assumption)
                                  obtain ⟨ad353, e353, hx353_0⟩ := Kd.at_bool (Kd.R_reads' HO_5.out).2.2 (rd x6_1 0) p353 q353
                                  (try rw [← Nbq21.out] at hx353_0)
                                  cases e353
                                  replace p353 := eq_true p353
                                  replace q353 := eq_true q353
                                  have p26 : 0 ≤ ((rd x6_1 0) : Int) := of_decide_eq_true (by first | (with_reducible assumption) | assumption)
                                  have q26 : ((rd x6_1 0) : Int) < ((x5_1.length : Int) : Int) := of_decide_eq_true (by first | (with_reducible assumption) | assumption)
                                  obtain ⟨go26, co26, eo26, gb26, gl26, cl26, HG26⟩ := Kd.R_form HO_5.out (by omega)
                                  (first | cases eo26 | (injection eo26 with ea_ en_ ec_; (first | subst ea_ | (injection ea_ with ea_; subst ea_)); subst ec_; clear en_))
                                  have GB26 := Aside0.mk gb26
                                  have GG26 := Aside0.mk HG26
                                  clear gb26 gl26 HG26
                                  (first | simp only [add_plain] at hx353_0 | skip)
                                  obtain ⟨hx26_0, hf26_0⟩ := Kd.R_celln false HO_5.out ((rd x6_1 0) : Int) p26 q26
                                  replace p26 := eq_true p26
                                  replace q26 := eq_true q26
                                  have HP33 := Kd.R_putg HO_5.out ((rd x6_1 0) : Int) true
                                  try go_wp2_with (first | ((with_reducible refine gate_store (t := 4) (p := 35) rfl ?_); refine store_event (t := 4) (p := 35) (v := ?vo_w34) (w1 := (wr.setCell ⟨go26, ((rd x6_1 0) : Int).toNat, none⟩ (.bool true))) ?hg ?ho ?hn ?hr ?_; (case ho => rfl); (case hg => rfl); (case hn => rfl); (case hr => first | (go_simp; done) | (go_simp; rfl)); intro w34 hw; have hg : wr.grownBy w34 (some go26) := (by rw [hw]; exact HP33.2); have hp_ : Kd.R Kd.bool 4 w34 w.heap.size (fun _ => True) (.slice (some ⟨go26, 0, none⟩) x5_1.length co32) y354 := (by rw [hw, Ny354.out]; exact HP33.1); clear HP33; have n0_ := Aside0.mk (hp_); have n1_ := Aside0.mk (Kd.Q_over' (v := (.slice (some ⟨go26, 0, none⟩) x5_1.length co32)) (by (with_reducible repeat (first | apply Kd.Q_alloc | apply Kd.Q_drewN | apply Kd.Q_drew)); exact HO352.out) (Kd.R_typed HO_5.out) (by decide) hg); have n2_ := Aside0.mk (blk_grown (g := gb338) (o := .cells #[.slice (some ad345) l0_0.length c0_0, .int .i64 a0_1] 24 (0, 0)) (by (with_reducible repeat (first | refine blk_drewN ?_ _ | refine blk_drew ?_ | refine blk_alloc ?_ _)); exact BK338.out) hg (Kd.R_ne HO_5.out BK338.out (by decide))); have n3_ := Aside0.mk ((by rw [hw]; exact below_set (HB.out) GB26.out : Below w.heap.size w w34)); clear HO_5; clear HO352; clear BK338; clear HB; have HO_5 := n0_; have HO352 := n1_; have BK338 := n2_; have HB := n3_; clear n0_ n1_ n2_ n3_; clear hg hw hp_))
                                  have n0_ := Aside0.mk (Kd.R_drew HO_5.out)
                                  have n1_ := Aside0.mk (Kd.Q_drew HO352.out)
                                  have n2_ := Aside0.mk (blk_drew BK338.out)
                                  have n3_ := Aside0.mk (below_drew1 HB.out)
                                  clear HO_5
                                  clear HO352
                                  clear BK338
                                  clear HB
                                  have HO_5 := n0_
                                  have HO352 := n1_
                                  have BK338 := n2_
                                  have HB := n3_
                                  clear n0_ n1_ n2_ n3_
                                  have p361 : 0 ≤ ((rd x6_1 0) : Int) := of_decide_eq_true (by first | (with_reducible assumption) | assumption)
                                  have q361 : (rd x6_1 0) < (l0_0.length : Int) := of_decide_eq_true (by first | (with_reducible assumption) | assumption)
                                  obtain ⟨ad361, A361_1, c361_1, A361_2, c361_2, A361_3, c361_3, e361, hx361_0, hx361_1, hx361_2, hx361_3, hl361_1, hi361_1, hl361_2, hi361_2, hl361_3, hi361_3⟩ := at_T46 HR0_0.out (rd x6_1 0) p361 q361
                                  have hw361_3 := hx361_3
                                  have hw361_2 := hx361_2
                                  have hw361_1 := hx361_1
                                  have hw361_0 := hx361_0
                                  obtain rfl : ad345 = ad361 := (by injection e361)
                                  replace hx361_0 := (HB.out.cell (World.block_lt_of_cell? w _ hx361_0)).trans hx361_0
                                  replace hx361_1 := (HB.out.cell (World.block_lt_of_cell? w _ hx361_1)).trans hx361_1
                                  replace hx361_2 := (HB.out.cell (World.block_lt_of_cell? w _ hx361_2)).trans hx361_2
                                  replace hx361_3 := (HB.out.cell (World.block_lt_of_cell? w _ hx361_3)).trans hx361_3
                                  have HR361_1 := Aside0.mk hi361_1
                                  have HC361_1 := Aside0.mk hl361_1
                                  clear hi361_1 hl361_1
                                  have HR361_2 := Aside0.mk hi361_2
                                  have HC361_2 := Aside0.mk hl361_2
                                  clear hi361_2 hl361_2
                                  have HR361_3 := Aside0.mk hi361_3
                                  have HC361_3 := Aside0.mk hl361_3
                                  clear hi361_3 hl361_3
                                  replace p361 := eq_true p361
                                  replace q361 := eq_true q361
                                  refine start_ (n := 11) (S := fun w' => w'.cell? ⟨gb338, 0, none⟩ = some (.slice (some ad345) l0_0.length c0_0) ∧ w'.cell? ⟨gb338, 1, none⟩ = some (.int .i64 a0_1) ∧ w'.cell? (ad345.add (((rd x6_1 0)).toNat * 4)) = some (.int .i64 ((rd_T46 l0_0 (rd x6_1 0)).f0)) ∧ w'.cell? ⟨(ad345.add (((rd x6_1 0)).toNat * 4)).block, (ad345.add (((rd x6_1 0)).toNat * 4)).off + 1, none⟩ = some (.slice A361_1 ((rd_T46 l0_0 (rd x6_1 0)).f1).length c361_1) ∧ w'.cell? ⟨(ad345.add (((rd x6_1 0)).toNat * 4)).block, (ad345.add (((rd x6_1 0)).toNat * 4)).off + 2, none⟩ = some (.slice A361_2 ((rd_T46 l0_0 (rd x6_1 0)).f2).length c361_2) ∧ w'.cell? ⟨(ad345.add (((rd x6_1 0)).toNat * 4)).block, (ad345.add (((rd x6_1 0)).toNat * 4)).off + 3, none⟩ = some (.slice A361_3 ((rd_T46 l0_0 (rd x6_1 0)).f3).length c361_3)) (ds := []) #[false, false, false, false, false, false, false, false, false, false, false] (by kernel_rfl) rfl rfl ⟨(blk_cell BK338.out 0).trans rfl, (blk_cell BK338.out 1).trans rfl, ((HB.out.cell (World.block_lt_of_cell? w _ hw361_0)).trans hw361_0), ((HB.out.cell (World.block_lt_of_cell? w _ hw361_1)).trans hw361_1), ((HB.out.cell (World.block_lt_of_cell? w _ hw361_2)).trans hw361_2), ((HB.out.cell (World.block_lt_of_cell? w _ hw361_3)).trans hw361_3)⟩ (fun hHeld => ?_); refine with_tabW dioramaref09_Led.tab8 dioramaref09_Led.bits8 (fun HT_ HW_ => ?_)
                                  generalize w34.drew = w35 at HO_5 HO352 BK338 HB HR361_1 HR361_2 HR361_3 hx361_0 hx361_1 hx361_2 hx361_3 hHeld ⊢
                                  refine pure_ (i := 1) (N := some 37) (v := ?_) (a' := ?_) #[false, true, false, false, false, false, false, false, false, false, false] rfl rfl (any_of HT_.out (by kernel_rfl)) (fun _ _ _ h => h) (Or.inl ⟨by rfl, ?_⟩) ?_ ?_
                                  rotate_left
                                  · intro w'
                                    go_simp
                                    with_reducible rfl
                                  rotate_left
                                  · simp only [Act.put, List.setIfInBounds_toArray, List.set_cons_zero, List.set_cons_succ, i64_w, i32_w]
                                    rfl
                                  refine pure_ (i := 3) (N := some 39) (v := ?_) (a' := ?_) #[false, true, false, true, false, false, false, false, false, false, false] rfl rfl (any_of HT_.out (by kernel_rfl)) (fun _ _ _ h => h) (Or.inl ⟨by rfl, ?_⟩) ?_ ?_
                                  rotate_left
                                  · intro w'
                                    go_simp
                                    with_reducible rfl
                                  rotate_left
                                  · simp only [Act.put, List.setIfInBounds_toArray, List.set_cons_zero, List.set_cons_succ, i64_w, i32_w]
                                    rfl
                                  refine pure_ (i := 5) (N := some 41) (v := ?_) (a' := ?_) #[false, true, false, true, false, true, false, false, false, false, false] rfl rfl (any_of HT_.out (by kernel_rfl)) (fun _ _ _ h => h) (Or.inl ⟨by rfl, ?_⟩) ?_ ?_
                                  rotate_left
                                  · intro w'
                                    go_simp
                                    with_reducible rfl
                                  rotate_left
                                  · simp only [Act.put, List.setIfInBounds_toArray, List.set_cons_zero, List.set_cons_succ, i64_w, i32_w]
                                    rfl
                                  refine take_ (i := 4) (N := some 40) (v := ?_) (a' := ?_) #[false, true, false, true, true, true, false, false, false, false, false] rfl rfl (take_ofW HT_.out HW_.out (by kernel_rfl)) (fun _ _ _ h => h) (Or.inl ⟨by rfl, ?_⟩) hHeld ?_ ?_
                                  rotate_left
                                  · rintro w' ⟨s0, s1, s2, s3, s4, s5⟩
                                    go_simp
                                    with_reducible rfl
                                  rotate_left
                                  · simp only [Act.put, List.setIfInBounds_toArray, List.set_cons_zero, List.set_cons_succ, i64_w, i32_w]
                                    rfl
                                  refine pure_ (i := 6) (N := some 42) (v := ?_) (a' := ?_) #[false, true, false, true, true, true, true, false, false, false, false] rfl rfl (any_of HT_.out (by kernel_rfl)) (fun _ _ _ h => h) (Or.inl ⟨by rfl, ?_⟩) ?_ ?_
                                  rotate_left
                                  · intro w'
                                    go_simp
                                    with_reducible rfl
                                  rotate_left
                                  · simp only [Act.put, List.setIfInBounds_toArray, List.set_cons_zero, List.set_cons_succ, i64_w, i32_w]
                                    rfl
                                  refine pure_ (i := 7) (N := some 43) (v := ?_) (a' := ?_) #[false, true, false, true, true, true, true, true, false, false, false] rfl rfl (any_of HT_.out (by kernel_rfl)) (fun _ _ _ h => h) (Or.inl ⟨by rfl, ?_⟩) ?_ ?_
                                  rotate_left
                                  · intro w'
                                    go_simp
                                    with_reducible rfl
                                  rotate_left
                                  · simp only [Act.put, List.setIfInBounds_toArray, List.set_cons_zero, List.set_cons_succ, i64_w, i32_w]
                                    rfl
                                  refine take_ (i := 8) (N := some 44) (v := ?_) (a' := ?_) #[false, true, false, true, true, true, true, true, true, false, false] rfl rfl (take_ofW HT_.out HW_.out (by kernel_rfl)) (fun _ _ _ h => h) (Or.inl ⟨by rfl, ?_⟩) hHeld ?_ ?_
                                  rotate_left
                                  · rintro w' ⟨s0, s1, s2, s3, s4, s5⟩
                                    go_simp
                                    with_reducible rfl
                                  rotate_left
                                  · simp only [Act.put, List.setIfInBounds_toArray, List.set_cons_zero, List.set_cons_succ, i64_w, i32_w]
                                    rfl
                                  refine one_ (i := 0) (N := some 36) #[true, true, false, true, true, true, true, true, true, false, false] rfl rfl (one_of HT_.out (by kernel_rfl)) (by decide) (fun K hK => ?_)
                                  refine Kd.R_lit_step (Kd.int .i64) _ 3 ?hg (N := 36) ?hd (xs := ([] : List Int)) (inner := []) (ok := fun _ => True) (okp := fun _ => True) ?hr ?hp (fun _ hk => hk) trivial (Below.refl _ _) (Nat.le_refl _) (by simp) ?_; (case hd => rfl); (case hg => rfl); (case hr => first | (go_simp; done) | (go_simp; rfl)); (case hp => exact (Reps.none _ _))
                                  intro v356 w36 ho37 hb hg_ hnew_
                                  clear hg_ hnew_
                                  (first | rw [← Ny355.out] at ho37 | (simp only [Int.reduceToNat] at ho37; rw [← Ny355.out] at ho37))
                                  have n0_ := Aside0.mk (Kd.R_below (by (with_reducible repeat (first | apply Kd.R_alloc | apply Kd.R_drewN | apply Kd.R_drew)); exact HO_5.out) hb)
                                  have n1_ := Aside0.mk (Kd.Q_elder' (by (with_reducible repeat (first | apply Kd.Q_alloc | apply Kd.Q_drewN | apply Kd.Q_drew)); exact HO352.out) (Kd.R_base ho37) hb)
                                  have n2_ := Aside0.mk (Kd.R_lower (Kd.R_new' ho37 (Kd.Q_lt (by (with_reducible repeat (first | apply Kd.Q_alloc | apply Kd.Q_drewN | apply Kd.Q_drew)); exact HO352.out))) (below_size (by repeat (first | (with_reducible first | exact HB.out | apply below_alloc | apply pw_below_drewN | apply below_drew1 | refine below_set ?_ GE338.out) | exact HB.out))))
                                  have n3_ := Aside0.mk (blk_below (g := gb338) (o := .cells #[.slice (some ad345) l0_0.length c0_0, .int .i64 a0_1] 24 (0, 0)) (by (with_reducible repeat (first | refine blk_drewN ?_ _ | refine blk_drew ?_ | refine blk_alloc ?_ _)); exact BK338.out) hb)
                                  have n4_ := Aside0.mk (below_step (by repeat (first | (with_reducible first | exact HB.out | apply below_alloc | apply pw_below_drewN | apply below_drew1 | refine below_set ?_ GE338.out) | exact HB.out)) hb)
                                  clear HO_5
                                  clear HO352
                                  clear BK338
                                  clear HB
                                  have HO_5 := n0_
                                  have HO352 := n1_
                                  have HO357 := n2_
                                  have BK338 := n3_
                                  have HB := n4_
                                  clear n0_ n1_ n2_ n3_ n4_
                                  clear hb ho37
                                  refine hK.out _ _ ⟨(blk_cell BK338.out 0).trans rfl, (blk_cell BK338.out 1).trans rfl, ((HB.out.cell (World.block_lt_of_cell? w _ hw361_0)).trans hw361_0), ((HB.out.cell (World.block_lt_of_cell? w _ hw361_1)).trans hw361_1), ((HB.out.cell (World.block_lt_of_cell? w _ hw361_2)).trans hw361_2), ((HB.out.cell (World.block_lt_of_cell? w _ hw361_3)).trans hw361_3)⟩ (fun hHeld => ?_)
                                  clear hK K
                                  refine norm_ (a' := ?_) ?_ ?_
                                  rotate_left
                                  · show Act.put _ (some 36) _ = _
                                    simp only [Act.put, List.setIfInBounds_toArray, List.set_cons_zero, List.set_cons_succ, i64_w, i32_w]
                                    rfl
                                  refine one_ (i := 2) (N := some 38) #[true, true, true, true, true, true, true, true, true, false, false] rfl rfl (one_of HT_.out (by kernel_rfl)) (by decide) (fun K hK => ?_)
                                  refine Kd.R_append_rows_step (Kd.int .i64) (w0 := w) w.heap.size (by rfl) (.tmp 36) (.tmp 37) 27 3 (.int .i64 0) 8 rfl Tryd.underlying27 info3 rfl (by decide) (by omega) v356 y355 y350 _ _ _ (fun k_ => some k_ ≠ (.slice A31 y350.length c31 : Value).ownBlock) (fun _ => False) rfl rfl ?aO ?aR (fun _ _ h => h) (fun _ h => h.elim) ?aF ?aB ?aS ?aL ?_
                                  (case aR => repeat (first | exact (Kd.Q_reads' HO352.out).2.2 | (with_reducible refine Kd.C_alloc ?_ _) | (with_reducible refine Kd.C_drewN ?_ _) | (with_reducible refine Kd.C_drew ?_)))
                                  (case aB => exact (by repeat (first | (with_reducible first | exact HB.out | apply below_alloc | apply pw_below_drewN | apply below_drew1 | refine below_set ?_ GE338.out) | exact HB.out)))
                                  (case aF => exact (fun k_ hk => Kd.fresh' (Kd.Q_lt (by (with_reducible repeat (first | apply Kd.Q_alloc | apply Kd.Q_drewN | apply Kd.Q_drew)); exact HO352.out)) k_ hk))
                                  (case aO => exact (by (with_reducible repeat (first | apply Kd.R_alloc | apply Kd.R_drewN | apply Kd.R_drew)); exact Kd.R_mono HO357.out (fun _ hk => hk.2)))
                                  (case aS => exact (below_size (by repeat (first | (with_reducible first | exact HB.out | apply below_alloc | apply pw_below_drewN | apply below_drew1 | refine below_set ?_ GE338.out) | exact HB.out))))
                                  (case aL => have := LMc27.out; omega)
                                  intro v359 w38 ho hb hg hat
                                  rw [← Ny358.out] at ho
                                  have n0_ := Aside0.mk (Kd.R_over' (by (with_reducible repeat (first | apply Kd.R_alloc | apply Kd.R_drewN | apply Kd.R_drew)); exact HO_5.out) (Kd.R_typed (by (with_reducible repeat (first | apply Kd.R_alloc | apply Kd.R_drewN | apply Kd.R_drew)); exact HO357.out)) (by decide) hg)
                                  have n1_ := Aside0.mk (Kd.Q_after (ok := (fun _ => True)) (by (with_reducible repeat (first | apply Kd.Q_alloc | apply Kd.Q_drewN | apply Kd.Q_drew)); exact HO352.out) hg hat)
                                  have n2_ := Aside0.mk (blk_grown (g := gb338) (o := .cells #[.slice (some ad345) l0_0.length c0_0, .int .i64 a0_1] 24 (0, 0)) (by (with_reducible repeat (first | refine blk_drewN ?_ _ | refine blk_drew ?_ | refine blk_alloc ?_ _)); exact BK338.out) hg (Kd.R_ne HO357.out BK338.out (by decide)))
                                  have n3_ := Aside0.mk (hb)
                                  have n4_ := Aside0.mk (ho)
                                  clear HO_5
                                  clear HO352
                                  clear BK338
                                  clear HB
                                  clear HO357
                                  have HO_5 := n0_
                                  have HO352 := n1_
                                  have BK338 := n2_
                                  have HB := n3_
                                  have HO360 := n4_
                                  clear n0_ n1_ n2_ n3_ n4_
                                  clear ho hb hg hat
                                  refine hK.out _ _ ⟨(blk_cell BK338.out 0).trans rfl, (blk_cell BK338.out 1).trans rfl, ((HB.out.cell (World.block_lt_of_cell? w _ hw361_0)).trans hw361_0), ((HB.out.cell (World.block_lt_of_cell? w _ hw361_1)).trans hw361_1), ((HB.out.cell (World.block_lt_of_cell? w _ hw361_2)).trans hw361_2), ((HB.out.cell (World.block_lt_of_cell? w _ hw361_3)).trans hw361_3)⟩ (fun hHeld => ?_)
                                  clear hK K
                                  refine norm_ (a' := ?_) ?_ ?_
                                  rotate_left
                                  · show Act.put _ (some 38) _ = _
                                    simp only [Act.put, List.setIfInBounds_toArray, List.set_cons_zero, List.set_cons_succ, i64_w, i32_w]
                                    rfl
                                  refine one_ (i := 9) (N := some 45) #[true, true, true, true, true, true, true, true, true, true, false] rfl rfl (one_of HT_.out (by kernel_rfl)) (by decide) (fun K hK => ?_)
                                  refine Kd.R_append_rows_step (Kd.int .i64) (w0 := w) w.heap.size (by rfl) (.tmp 38) (.tmp 44) 27 3 (.int .i64 0) 8 rfl Tryd.underlying27 info3 rfl (by decide) (by omega) v359 y358 ((rd_T46 l0_0 (rd x6_1 0)).f3) _ _ _ (fun k_ => some k_ ≠ (.slice A31 y350.length c31 : Value).ownBlock) (fun _ => False) rfl rfl ?aO ?aR (fun _ _ h => h) (fun _ h => h.elim) ?aF ?aB ?aS ?aL ?_
                                  (case aR => repeat (first | exact (Kd.C_below HR361_3.out HB.out) | (with_reducible refine Kd.C_alloc ?_ _) | (with_reducible refine Kd.C_drewN ?_ _) | (with_reducible refine Kd.C_drew ?_)))
                                  (case aB => exact (by repeat (first | (with_reducible first | exact HB.out | apply below_alloc | apply pw_below_drewN | apply below_drew1 | refine below_set ?_ GE338.out) | exact HB.out)))
                                  (case aF => exact (fun k_ hk => Kd.fresh' (Kd.Q_lt (by (with_reducible repeat (first | apply Kd.Q_alloc | apply Kd.Q_drewN | apply Kd.Q_drew)); exact HO352.out)) k_ hk))
                                  (case aO => exact (by (with_reducible repeat (first | apply Kd.R_alloc | apply Kd.R_drewN | apply Kd.R_drew)); exact HO360.out))
                                  (case aS => exact (below_size (by repeat (first | (with_reducible first | exact HB.out | apply below_alloc | apply pw_below_drewN | apply below_drew1 | refine below_set ?_ GE338.out) | exact HB.out))))
                                  (case aL => have := LMc29.out; omega)
                                  intro v363 w39 ho hb hg hat
                                  rw [← Ny362.out] at ho
                                  have n0_ := Aside0.mk (Kd.R_over' (by (with_reducible repeat (first | apply Kd.R_alloc | apply Kd.R_drewN | apply Kd.R_drew)); exact HO_5.out) (Kd.R_typed (by (with_reducible repeat (first | apply Kd.R_alloc | apply Kd.R_drewN | apply Kd.R_drew)); exact HO360.out)) (by decide) hg)
                                  have n1_ := Aside0.mk (Kd.Q_after (ok := (fun _ => True)) (by (with_reducible repeat (first | apply Kd.Q_alloc | apply Kd.Q_drewN | apply Kd.Q_drew)); exact HO352.out) hg hat)
                                  have n2_ := Aside0.mk (blk_grown (g := gb338) (o := .cells #[.slice (some ad345) l0_0.length c0_0, .int .i64 a0_1] 24 (0, 0)) (by (with_reducible repeat (first | refine blk_drewN ?_ _ | refine blk_drew ?_ | refine blk_alloc ?_ _)); exact BK338.out) hg (Kd.R_ne HO360.out BK338.out (by decide)))
                                  have n3_ := Aside0.mk (hb)
                                  have n4_ := Aside0.mk (ho)
                                  clear HO_5
                                  clear HO352
                                  clear BK338
                                  clear HB
                                  clear HO360
                                  have HO_5 := n0_
                                  have HO352 := n1_
                                  have BK338 := n2_
                                  have HB := n3_
                                  have HO364 := n4_
                                  clear n0_ n1_ n2_ n3_ n4_
                                  clear ho hb hg hat
                                  refine hK.out _ _ ⟨(blk_cell BK338.out 0).trans rfl, (blk_cell BK338.out 1).trans rfl, ((HB.out.cell (World.block_lt_of_cell? w _ hw361_0)).trans hw361_0), ((HB.out.cell (World.block_lt_of_cell? w _ hw361_1)).trans hw361_1), ((HB.out.cell (World.block_lt_of_cell? w _ hw361_2)).trans hw361_2), ((HB.out.cell (World.block_lt_of_cell? w _ hw361_3)).trans hw361_3)⟩ (fun hHeld => ?_)
                                  clear hK K
                                  refine norm_ (a' := ?_) ?_ ?_
                                  rotate_left
                                  · show Act.put _ (some 45) _ = _
                                    simp only [Act.put, List.setIfInBounds_toArray, List.set_cons_zero, List.set_cons_succ, i64_w, i32_w]
                                    rfl
                                  refine pure_ (i := 10) (N := some 6) (v := ?_) (a' := ?_) #[true, true, true, true, true, true, true, true, true, true, true] rfl rfl (any_of HT_.out (by kernel_rfl)) (fun _ _ _ h => h) (Or.inl ⟨by rfl, ?_⟩) ?_ ?_
                                  rotate_left
                                  · intro w'
                                    go_simp
                                    with_reducible rfl
                                  rotate_left
                                  · simp only [Act.put, List.setIfInBounds_toArray, List.set_cons_zero, List.set_cons_succ, i64_w, i32_w]
                                    rfl
                                  refine done_ (done_of HT_.out (by kernel_rfl)) ?_
                                  try go_wp2
                                  go_roundg k1
                                  case measure => have := HK1.out; omega
                                  case rel => exact ⟨(y354), (y362), H', ⟨by have := HK1.out; omega⟩, ⟨by (with_reducible repeat (first | apply Kd.R_alloc | apply Kd.R_drewN | apply Kd.R_drew)); exact HO_5.out⟩, ⟨Kd.Q_of_R (by (with_reducible repeat (first | apply Kd.R_alloc | apply Kd.R_drewN | apply Kd.R_drew)); exact Kd.R_mono HO364.out (fun _ hk => trivial))⟩, ⟨by (with_reducible repeat (first | refine blk_drewN ?_ _ | refine blk_drew ?_ | refine blk_alloc ?_ _)); exact BK338.out⟩, ⟨by repeat (first | (with_reducible first | exact HB.out | apply below_alloc | apply pw_below_drewN | apply below_drew1 | refine below_set ?_ GE338.out) | exact HB.out)⟩⟩
                                · rw [if_neg c29] at H
                                  exact absurd H (by simp)
                              · rw [if_neg c28] at H
                                exact absurd H (by simp)
                            · rw [if_neg c27] at H
                              exact absurd H (by simp)
                        · rw [if_neg c20] at H
                          exact absurd H (by simp)
                      · rw [if_neg c19] at H
                        exact absurd H (by simp)
                    · rw [if_neg c18] at H
                      exact absurd H (by simp)
                  · rw [if_neg c17] at H
                    exact absurd H (by simp)
                · rw [if_neg c16] at H
                  have c16b0 : decide (0 < (x6_1.length : Int)) = false := decide_eq_false c16
                  have c16b1 : decide (0 < x6_1.length) = false := decide_eq_false (by omega)
                  clear c16
                  obtain rfl := Option.some.inj H
                  obtain ⟨Ao40, co40, eo40, _⟩ := Kd.Q_slice HO_6.out
                  subst eo40
                  go_wp2
                  go_ret
                  exact ⟨_, by first | rfl | (simp [errW_none, errW_some] <;> rfl) | (simp [*, errW_none, errW_some] <;> rfl), by (with_reducible repeat (first | apply Kd.R_alloc | apply Kd.R_drewN | apply Kd.R_drew)); exact HO_5.out, by repeat (first | (with_reducible first | exact HB.out | apply below_alloc | apply pw_below_drewN | apply below_drew1 | refine below_set ?_ GE338.out) | exact HB.out)⟩
          · rw [if_neg c7] at H
            exact absurd H (by simp)
        · rw [if_neg c6] at H
          exact absurd H (by simp)
      · rw [if_neg c5] at H
        exact absurd H (by simp)
    · rw [if_neg c4] at H
      exact absurd H (by simp)
  · rw [if_neg c3] at H
    exact absurd H (by simp)

end Go.Proofs.YtggldnbhmebcpaaDoor.PMatchPairs
end
section
-- PRINTED BY print.sh 35421559b90ae4d0a3588c463048766b98c2df88dd9212a6774a882060cdf62d: not written by this session
namespace Go.Proofs.YtggldnbhmebcpaaDoor.PMatchPairs
open Go.RowKit Go.Proofs.YtggldnbhmebcpaaDoorW.PrintWords Go.Proofs.YtggldnbhmebcpaaDoorW.PrintLast Go.Proofs.YtggldnbhmebcpaaDoorW.PrintMore
attribute [local go_sem] max2_int min2_int max_two min_two max_three min_three max_four min_four   -- for this text's walks alone
set_option linter.unusedVariables false
set_option linter.unusedSimpArgs false
mutual
def dioramaref09_Check.l0 : Nat → Int → List (S46) → Int → Option (Int × Int)
  | 0, _, _, _ => none
  | k + 1, x5, x366000, x366001 => if x5 < (x366000.length : Int) then ((dioramaref09_Led.f k x366000 x366001 x5).bind fun t368 => (if 0 ≤ x5 then (if x5 < (t368.length : Int) then (if rdOf false t368 x5 = true then (some (14, x5)) else (dioramaref09_Check.l0 k (wrap64 (x5 + 1)) x366000 x366001)) else (none)) else (none))) else ((dioramaref09_Led.f k x366000 x366001 x366001).bind fun t372 => (dioramaref09_Check.l1 k t372 0 x366000 x366001))
def dioramaref09_Check.l1 : Nat → List Bool → Int → List (S46) → Int → Option (Int × Int)
  | 0, _, _, _, _ => none
  | k + 1, x6, x7, x366000, x366001 => if x7 < (x366000.length : Int) then (if x7 = x366001 then (dioramaref09_Check.l1 k x6 (wrap64 (x7 + 1)) x366000 x366001) else (if 0 ≤ x7 then (if x7 < (x6.length : Int) then (if rdOf false x6 x7 = true then (dioramaref09_Check.l1 k x6 (wrap64 (x7 + 1)) x366000 x366001) else (some (15, x7))) else (none)) else (none))) else (some (0, 0))
end
def dioramaref09_Check.f (k : Nat) (l0_0 : List (S46)) (a0_1 : Int) : Option (Int × Int) := (dioramaref09_Place.f l0_0 a0_1 a0_1).bind fun t366 => (if t366 = true then ((dioramaref09_Refs.f k l0_0 a0_1).bind fun t367 => (if t367 ≥ 0 then (some (13, t367)) else (dioramaref09_Check.l0 k 0 l0_0 a0_1))) else (some (13, (-1))))
set_option maxHeartbeats 8000000 in
set_option maxRecDepth 100000 in
theorem dioramaref09_Check.calls (k : Nat) (A0_0 : Option Addr) (c0_0 : Nat) (l0_0 : List (S46)) (a0_1 : Int) (r1 : Int) (r2 : Int) (w : World) (hr0_0 : Kd.C k46 w A0_0 l0_0.length l0_0) (hc0_0 : l0_0.length ≤ c0_0) (h : dioramaref09_Check.f k l0_0 a0_1 = some (r1, r2)) :
    Calls Tryd.prog 39 #[.agg #[.slice A0_0 l0_0.length c0_0, .int .i64 a0_1]] w fun e w' => e = .returned (.tuple #[.int .i64 r1, .int .i64 r2]) ∧ Below w.heap.size w w' := by
  have hu24 := Tryd.underlying24
  have HR0_0 := Aside0.mk hr0_0
  have HC0_0 := Aside0.mk hc0_0
  clear hr0_0 hc0_0
  have HB := Aside0.mk (Below.refl w.heap.size w)
  have H : ((dioramaref09_Place.f l0_0 a0_1 a0_1).bind fun t366 => (if t366 = true then ((dioramaref09_Refs.f k l0_0 a0_1).bind fun t367 => (if t367 ≥ 0 then (some (13, t367)) else (dioramaref09_Check.l0 k 0 l0_0 a0_1))) else (some (13, (-1))))) = some (r1, r2) := h
  clear h
  replace H := Option.bind_eq_some_iff.mp H
  obtain ⟨t366, A20, H⟩ := H
  replace H : (if t366 = true then ((dioramaref09_Refs.f k l0_0 a0_1).bind fun t367 => (if t367 ≥ 0 then (some (13, t367)) else (dioramaref09_Check.l0 k 0 l0_0 a0_1))) else (some (13, (-1)))) = some (r1, r2) := H
  have A2 := Aside0.mk A20
  clear A20
  by_cases c3 : t366 = true
  · subst c3
    have H1 : ((dioramaref09_Refs.f k l0_0 a0_1).bind fun t367 => (if t367 ≥ 0 then (some (13, t367)) else (dioramaref09_Check.l0 k 0 l0_0 a0_1))) = some (r1, r2) := by rw [if_pos rfl] at H; exact H
    clear H
    have H := H1
    clear H1
    replace H := Option.bind_eq_some_iff.mp H
    obtain ⟨t367, A40, H⟩ := H
    replace H : (if t367 ≥ 0 then (some (13, t367)) else (dioramaref09_Check.l0 k 0 l0_0 a0_1)) = some (r1, r2) := H
    have A4 := Aside0.mk A40
    clear A40
    by_cases c5 : t367 ≥ 0
    · rw [if_pos c5] at H
      have c5b0 : decide (0 ≤ t367) = true := decide_eq_true c5
      clear c5
      simp only [Option.some.injEq, Prod.mk.injEq] at H
      obtain ⟨rfl, rfl⟩ := H
      go_enter Tryd.func39, Tryd.ntmps39
      go_wp2_with (first | ((with_reducible refine gate_dst (N := 1) rfl ?_); refine box_event ?hg (N := 1) ?hd (cs := #[.slice A0_0 l0_0.length c0_0, .int .i64 a0_1]) (t := 24) ?hr ?_; (case hd => rfl); (case hg => rfl); (case hr => first | (go_simp; done) | (go_simp; rfl)); intro gb365 hg w6 hbox hb; have n0_ := Aside0.mk (below_step (by repeat (first | (with_reducible first | exact HB.out | apply below_alloc | apply pw_below_drewN | apply below_drew1) | exact HB.out)) hb); have n1_ := Aside0.mk (hbox); have n2_ := Aside0.mk ((by rw [hg]; exact (below_size (by repeat (first | (with_reducible first | exact HB.out | apply below_alloc | apply pw_below_drewN | apply below_drew1) | exact HB.out))) : w.heap.size ≤ gb365)); have n3_ := Aside0.mk ((by rw [hg]; exact (below_size (by repeat (first | (with_reducible first | exact HB.out | apply below_alloc | apply pw_below_drewN | apply below_drew1) | exact HB.out))) : w.heap.size ≤ gb365)); clear HB; have HB := n0_; have BK365 := n1_; have GW365 := n2_; have GE365 := n3_; clear n0_ n1_ n2_ n3_; clear hb hbox hg; have hcz7_0 : w6.cell? ⟨gb365, 0, none⟩ = some (.slice A0_0 l0_0.length c0_0) := (blk_cell BK365.out 0).trans rfl; have hcz7_1 : w6.cell? ⟨gb365, 1, none⟩ = some (.int .i64 a0_1) := (blk_cell BK365.out 1).trans rfl; have hfz7_0 := blk_frozen BK365.out 0; have hfz7_1 := blk_frozen BK365.out 1) | ((with_reducible refine gate_callee (f := 16) rfl ?_); refine goesL_ (some 11) rfl rfl Tryd.func16 (by kernel_rfl) rfl #[.agg #[.slice A0_0 l0_0.length c0_0, .int .i64 a0_1], .int .i64 a0_1] rfl (by (try simp only [List.map_toArray, List.map_cons, List.map_nil]); first | done | rfl | (simp only [List.length_drop, List.length_take]; rfl)) ?_; (with_reducible refine (dioramaref09_Place.calls _ _ l0_0 a0_1 a0_1 true _ ?side1 ?side2 A2.out).mono ?_); (case side1 => repeat (first | exact (Kd.C_below HR0_0.out HB.out) | (with_reducible refine Kd.C_alloc ?_ _) | (with_reducible refine Kd.C_drewN ?_ _) | (with_reducible refine Kd.C_drew ?_))); (case side2 => exact HC0_0.out); rintro e w8 ⟨rfl, hb⟩; refine ⟨_, rfl, ?_⟩; have n0_ := Aside0.mk (blk_below (g := gb365) (o := .cells #[.slice A0_0 l0_0.length c0_0, .int .i64 a0_1] 24 (0, 0)) (by (with_reducible repeat (first | refine blk_drewN ?_ _ | refine blk_drew ?_ | refine blk_alloc ?_ _)); exact BK365.out) hb); have n1_ := Aside0.mk (below_step (by repeat (first | (with_reducible first | exact HB.out | apply below_alloc | apply pw_below_drewN | apply below_drew1 | refine below_set ?_ GE365.out) | exact HB.out)) hb); clear BK365; clear HB; have BK365 := n0_; have HB := n1_; clear n0_ n1_; (try clear hb); (try clear hb2); (try clear hk); (try clear hi); have hcz9_0 : w8.cell? ⟨gb365, 0, none⟩ = some (.slice A0_0 l0_0.length c0_0) := (blk_cell BK365.out 0).trans rfl; have hcz9_1 : w8.cell? ⟨gb365, 1, none⟩ = some (.int .i64 a0_1) := (blk_cell BK365.out 1).trans rfl; have hfz9_0 := blk_frozen BK365.out 0; have hfz9_1 := blk_frozen BK365.out 1) | ((with_reducible refine gate_callee (f := 52) rfl ?_); refine goesL_ (some 14) rfl rfl Tryd.func52 (by kernel_rfl) rfl #[.agg #[.slice A0_0 l0_0.length c0_0, .int .i64 a0_1]] rfl (by (try simp only [List.map_toArray, List.map_cons, List.map_nil]); first | done | rfl | (simp only [List.length_drop, List.length_take]; rfl)) ?_; (with_reducible refine (dioramaref09_Refs.calls k _ _ l0_0 a0_1 t367 _ ?side1 ?side2 A4.out).mono ?_); (case side1 => repeat (first | exact (Kd.C_below HR0_0.out HB.out) | (with_reducible refine Kd.C_alloc ?_ _) | (with_reducible refine Kd.C_drewN ?_ _) | (with_reducible refine Kd.C_drew ?_))); (case side2 => exact HC0_0.out); rintro e w10 ⟨rfl, hb⟩; refine ⟨_, rfl, ?_⟩; have n0_ := Aside0.mk (blk_below (g := gb365) (o := .cells #[.slice A0_0 l0_0.length c0_0, .int .i64 a0_1] 24 (0, 0)) (by (with_reducible repeat (first | refine blk_drewN ?_ _ | refine blk_drew ?_ | refine blk_alloc ?_ _)); exact BK365.out) hb); have n1_ := Aside0.mk (below_step (by repeat (first | (with_reducible first | exact HB.out | apply below_alloc | apply pw_below_drewN | apply below_drew1 | refine below_set ?_ GE365.out) | exact HB.out)) hb); clear BK365; clear HB; have BK365 := n0_; have HB := n1_; clear n0_ n1_; (try clear hb); (try clear hb2); (try clear hk); (try clear hi)))
      go_ret2
      exact ⟨by first | rfl | (simp [errW_none, errW_some] <;> rfl) | (simp [*, errW_none, errW_some] <;> rfl), by repeat (first | (with_reducible first | exact HB.out | apply below_alloc | apply pw_below_drewN | apply below_drew1 | refine below_set ?_ GE365.out) | exact HB.out)⟩
    · rw [if_neg c5] at H
      have c5b0 : decide (0 ≤ t367) = false := decide_eq_false c5
      clear c5
      have H' := Aside0.mk H
      clear H
      go_enter Tryd.func39, Tryd.ntmps39
      go_wp2_with (first | ((with_reducible refine gate_dst (N := 1) rfl ?_); refine box_event ?hg (N := 1) ?hd (cs := #[.slice A0_0 l0_0.length c0_0, .int .i64 a0_1]) (t := 24) ?hr ?_; (case hd => rfl); (case hg => rfl); (case hr => first | (go_simp; done) | (go_simp; rfl)); intro gb365 hg w11 hbox hb; have n0_ := Aside0.mk (below_step (by repeat (first | (with_reducible first | exact HB.out | apply below_alloc | apply pw_below_drewN | apply below_drew1) | exact HB.out)) hb); have n1_ := Aside0.mk (hbox); have n2_ := Aside0.mk ((by rw [hg]; exact (below_size (by repeat (first | (with_reducible first | exact HB.out | apply below_alloc | apply pw_below_drewN | apply below_drew1) | exact HB.out))) : w.heap.size ≤ gb365)); have n3_ := Aside0.mk ((by rw [hg]; exact (below_size (by repeat (first | (with_reducible first | exact HB.out | apply below_alloc | apply pw_below_drewN | apply below_drew1) | exact HB.out))) : w.heap.size ≤ gb365)); clear HB; have HB := n0_; have BK365 := n1_; have GW365 := n2_; have GE365 := n3_; clear n0_ n1_ n2_ n3_; clear hb hbox hg; have hcz12_0 : w11.cell? ⟨gb365, 0, none⟩ = some (.slice A0_0 l0_0.length c0_0) := (blk_cell BK365.out 0).trans rfl; have hcz12_1 : w11.cell? ⟨gb365, 1, none⟩ = some (.int .i64 a0_1) := (blk_cell BK365.out 1).trans rfl; have hfz12_0 := blk_frozen BK365.out 0; have hfz12_1 := blk_frozen BK365.out 1) | ((with_reducible refine gate_callee (f := 16) rfl ?_); refine goesL_ (some 11) rfl rfl Tryd.func16 (by kernel_rfl) rfl #[.agg #[.slice A0_0 l0_0.length c0_0, .int .i64 a0_1], .int .i64 a0_1] rfl (by (try simp only [List.map_toArray, List.map_cons, List.map_nil]); first | done | rfl | (simp only [List.length_drop, List.length_take]; rfl)) ?_; (with_reducible refine (dioramaref09_Place.calls _ _ l0_0 a0_1 a0_1 true _ ?side1 ?side2 A2.out).mono ?_); (case side1 => repeat (first | exact (Kd.C_below HR0_0.out HB.out) | (with_reducible refine Kd.C_alloc ?_ _) | (with_reducible refine Kd.C_drewN ?_ _) | (with_reducible refine Kd.C_drew ?_))); (case side2 => exact HC0_0.out); rintro e w13 ⟨rfl, hb⟩; refine ⟨_, rfl, ?_⟩; have n0_ := Aside0.mk (blk_below (g := gb365) (o := .cells #[.slice A0_0 l0_0.length c0_0, .int .i64 a0_1] 24 (0, 0)) (by (with_reducible repeat (first | refine blk_drewN ?_ _ | refine blk_drew ?_ | refine blk_alloc ?_ _)); exact BK365.out) hb); have n1_ := Aside0.mk (below_step (by repeat (first | (with_reducible first | exact HB.out | apply below_alloc | apply pw_below_drewN | apply below_drew1 | refine below_set ?_ GE365.out) | exact HB.out)) hb); clear BK365; clear HB; have BK365 := n0_; have HB := n1_; clear n0_ n1_; (try clear hb); (try clear hb2); (try clear hk); (try clear hi); have hcz14_0 : w13.cell? ⟨gb365, 0, none⟩ = some (.slice A0_0 l0_0.length c0_0) := (blk_cell BK365.out 0).trans rfl; have hcz14_1 : w13.cell? ⟨gb365, 1, none⟩ = some (.int .i64 a0_1) := (blk_cell BK365.out 1).trans rfl; have hfz14_0 := blk_frozen BK365.out 0; have hfz14_1 := blk_frozen BK365.out 1) | ((with_reducible refine gate_callee (f := 52) rfl ?_); refine goesL_ (some 14) rfl rfl Tryd.func52 (by kernel_rfl) rfl #[.agg #[.slice A0_0 l0_0.length c0_0, .int .i64 a0_1]] rfl (by (try simp only [List.map_toArray, List.map_cons, List.map_nil]); first | done | rfl | (simp only [List.length_drop, List.length_take]; rfl)) ?_; (with_reducible refine (dioramaref09_Refs.calls k _ _ l0_0 a0_1 t367 _ ?side1 ?side2 A4.out).mono ?_); (case side1 => repeat (first | exact (Kd.C_below HR0_0.out HB.out) | (with_reducible refine Kd.C_alloc ?_ _) | (with_reducible refine Kd.C_drewN ?_ _) | (with_reducible refine Kd.C_drew ?_))); (case side2 => exact HC0_0.out); rintro e w15 ⟨rfl, hb⟩; refine ⟨_, rfl, ?_⟩; have n0_ := Aside0.mk (blk_below (g := gb365) (o := .cells #[.slice A0_0 l0_0.length c0_0, .int .i64 a0_1] 24 (0, 0)) (by (with_reducible repeat (first | refine blk_drewN ?_ _ | refine blk_drew ?_ | refine blk_alloc ?_ _)); exact BK365.out) hb); have n1_ := Aside0.mk (below_step (by repeat (first | (with_reducible first | exact HB.out | apply below_alloc | apply pw_below_drewN | apply below_drew1 | refine below_set ?_ GE365.out) | exact HB.out)) hb); clear BK365; clear HB; have BK365 := n0_; have HB := n1_; clear n0_ n1_; (try clear hb); (try clear hb2); (try clear hk); (try clear hi)))
      go_loopg [5] k (fun kq v5 w' => ∃ (x5_1 : Int), v5 = .int .i64 x5_1 ∧ Aside0 (dioramaref09_Check.l0 kq x5_1 l0_0 a0_1 = some (r1, r2)) ∧ Aside0 (kq ≤ k) ∧ Aside0 (w'.heap[gb365]? = some (.cells #[(.slice A0_0 l0_0.length c0_0), .int .i64 a0_1] 24 (0, 0))) ∧ Aside0 (Below w.heap.size w w'))
      case atStart => exact ⟨(0), (by first | rfl | (simp; done) | (simp [*]; done)), H', ⟨Nat.le_refl _⟩, ⟨by (with_reducible repeat (first | refine blk_drewN ?_ _ | refine blk_drew ?_ | refine blk_alloc ?_ _)); exact BK365.out⟩, ⟨by repeat (first | (with_reducible first | exact HB.out | apply below_alloc | apply pw_below_drewN | apply below_drew1 | refine below_set ?_ GE365.out) | exact HB.out)⟩⟩
      case round =>
        clear H'
        try clear c1
        try clear p2
        try clear c3
        try clear c5
        try clear c5b0
        try clear hcz12_0
        try clear hcz12_1
        try clear hcz14_0
        try clear hcz14_1
        try clear hcz7_0
        try clear hcz7_1
        try clear hcz9_0
        try clear hcz9_1
        try clear hfz12_0
        try clear hfz12_1
        try clear hfz14_0
        try clear hfz14_1
        try clear hfz7_0
        try clear hfz7_1
        try clear hfz9_0
        try clear hfz9_1
        obtain ⟨x5_1, rfl, HA, HK1, BK365, HB⟩ := hrel
        cases gk with
        | zero => exact absurd HA.out (by simp [dioramaref09_Check.l0])
        | succ k1 =>
          have H := HA.out
          clear HA
          simp only [dioramaref09_Check.l0] at H
          by_cases c16 : x5_1 < (l0_0.length : Int)
          · rw [if_pos c16] at H
            have c16b0 : decide (x5_1 < (l0_0.length : Int)) = true := decide_eq_true c16
            clear c16
            replace H := Option.bind_eq_some_iff.mp H
            obtain ⟨t368, A170, H⟩ := H
            replace H : (if 0 ≤ x5_1 then (if x5_1 < (t368.length : Int) then (if rdOf false t368 x5_1 = true then (some (14, x5_1)) else (dioramaref09_Check.l0 k1 (wrap64 (x5_1 + 1)) l0_0 a0_1)) else (none)) else (none)) = some (r1, r2) := H
            have A17 := Aside0.mk A170
            clear A170
            by_cases c18 : 0 ≤ x5_1
            · rw [if_pos c18] at H
              have c18b0 : decide (0 ≤ x5_1) = true := decide_eq_true c18
              clear c18
              by_cases c19 : x5_1 < (t368.length : Int)
              · rw [if_pos c19] at H
                have c19b0 : decide (x5_1 < (t368.length : Int)) = true := decide_eq_true c19
                clear c19
                obtain ⟨bq20, hbq20⟩ : ∃ b_ : Bool, b_ = (rdOf false t368 x5_1) := ⟨_, rfl⟩
                replace H : (if bq20 = true then (some (14, x5_1)) else (dioramaref09_Check.l0 k1 (wrap64 (x5_1 + 1)) l0_0 a0_1)) = some (r1, r2) := by rw [← hbq20] at H; exact H
                have Nbq20 := Aside0.mk hbq20
                clear hbq20
                by_cases c21 : bq20 = true
                · subst c21
                  have H1 : (some (14, x5_1)) = some (r1, r2) := by rw [if_pos rfl] at H; exact H
                  clear H
                  have H := H1
                  clear H1
                  simp only [Option.some.injEq, Prod.mk.injEq] at H
                  obtain ⟨rfl, rfl⟩ := H
                  have hcz22_0 : wr.cell? ⟨gb365, 0, none⟩ = some (.slice A0_0 l0_0.length c0_0) := (blk_cell BK365.out 0).trans rfl
                  have hcz22_1 : wr.cell? ⟨gb365, 1, none⟩ = some (.int .i64 a0_1) := (blk_cell BK365.out 1).trans rfl
                  have hfz22_0 := blk_frozen BK365.out 0
                  have hfz22_1 := blk_frozen BK365.out 1
                  go_wp2_with (first | ((with_reducible refine gate_callee (f := 53) rfl ?_); refine goesL_ (some 27) rfl rfl Tryd.func53 (by kernel_rfl) rfl #[.agg #[.slice A0_0 l0_0.length c0_0, .int .i64 a0_1], .int .i64 x5_1] rfl (by (try simp only [List.map_toArray, List.map_cons, List.map_nil]); first | done | rfl | (simp only [List.length_drop, List.length_take]; rfl)) ?_; (with_reducible refine (dioramaref09_Led.calls k1 _ _ l0_0 a0_1 x5_1 t368 _ ?side1 ?side2 A17.out).mono ?_); (case side1 => repeat (first | exact (Kd.C_below HR0_0.out HB.out) | (with_reducible refine Kd.C_alloc ?_ _) | (with_reducible refine Kd.C_drewN ?_ _) | (with_reducible refine Kd.C_drew ?_))); (case side2 => exact HC0_0.out); rintro e w23 ⟨v369, rfl, ho0, hb⟩; refine ⟨_, rfl, ?_⟩; have n0_ := Aside0.mk (Kd.R_lower ho0 (below_size (by repeat (first | (with_reducible first | exact HB.out | apply below_alloc | apply pw_below_drewN | apply below_drew1 | refine below_set ?_ GE365.out) | exact HB.out)))); have n1_ := Aside0.mk (blk_below (g := gb365) (o := .cells #[.slice A0_0 l0_0.length c0_0, .int .i64 a0_1] 24 (0, 0)) (by (with_reducible repeat (first | refine blk_drewN ?_ _ | refine blk_drew ?_ | refine blk_alloc ?_ _)); exact BK365.out) hb); have n2_ := Aside0.mk (below_step (by repeat (first | (with_reducible first | exact HB.out | apply below_alloc | apply pw_below_drewN | apply below_drew1 | refine below_set ?_ GE365.out) | exact HB.out)) hb); clear BK365; clear HB; have HO370 := n0_; have BK365 := n1_; have HB := n2_; clear n0_ n1_ n2_; (try clear hb); (try clear hb2); (try clear hk); (try clear hi); (try clear ho0); obtain ⟨Ao24, co24, eo24⟩ := Kd.R_slice HO370.out; subst eo24; have p371 : 0 ≤ (x5_1 : Int) := of_decide_eq_true (by first | (with_reducible assumption) | assumption); have q371 : x5_1 < (t368.length : Int) := of_decide_eq_true (by first | (with_reducible assumption) | assumption); obtain ⟨ad371, e371, hx371_0⟩ := Kd.at_bool (Kd.R_reads' HO370.out).2.2 x5_1 p371 q371; (try rw [← Nbq20.out] at hx371_0); cases e371; replace p371 := eq_true p371; replace q371 := eq_true q371))
                  go_ret2
                  exact ⟨by first | rfl | (simp [errW_none, errW_some] <;> rfl) | (simp [*, errW_none, errW_some] <;> rfl), by repeat (first | (with_reducible first | exact HB.out | apply below_alloc | apply pw_below_drewN | apply below_drew1 | refine below_set ?_ GE365.out) | exact HB.out)⟩
                · replace c21 := Bool.eq_false_iff.mpr c21
                  subst c21
                  have H1 : (dioramaref09_Check.l0 k1 (wrap64 (x5_1 + 1)) l0_0 a0_1) = some (r1, r2) := by rw [if_neg (show ¬ (false = true) by decide)] at H; exact H
                  clear H
                  have H := H1
                  clear H1
                  have H' := Aside0.mk H
                  clear H
                  have hcz25_0 : wr.cell? ⟨gb365, 0, none⟩ = some (.slice A0_0 l0_0.length c0_0) := (blk_cell BK365.out 0).trans rfl
                  have hcz25_1 : wr.cell? ⟨gb365, 1, none⟩ = some (.int .i64 a0_1) := (blk_cell BK365.out 1).trans rfl
                  have hfz25_0 := blk_frozen BK365.out 0
                  have hfz25_1 := blk_frozen BK365.out 1
                  go_wp2_with (first | ((with_reducible refine gate_callee (f := 53) rfl ?_); refine goesL_ (some 27) rfl rfl Tryd.func53 (by kernel_rfl) rfl #[.agg #[.slice A0_0 l0_0.length c0_0, .int .i64 a0_1], .int .i64 x5_1] rfl (by (try simp only [List.map_toArray, List.map_cons, List.map_nil]); first | done | rfl | (simp only [List.length_drop, List.length_take]; rfl)) ?_; (with_reducible refine (dioramaref09_Led.calls k1 _ _ l0_0 a0_1 x5_1 t368 _ ?side1 ?side2 A17.out).mono ?_); (case side1 => repeat (first | exact (Kd.C_below HR0_0.out HB.out) | (with_reducible refine Kd.C_alloc ?_ _) | (with_reducible refine Kd.C_drewN ?_ _) | (with_reducible refine Kd.C_drew ?_))); (case side2 => exact HC0_0.out); rintro e w26 ⟨v369, rfl, ho0, hb⟩; refine ⟨_, rfl, ?_⟩; have n0_ := Aside0.mk (Kd.R_lower ho0 (below_size (by repeat (first | (with_reducible first | exact HB.out | apply below_alloc | apply pw_below_drewN | apply below_drew1 | refine below_set ?_ GE365.out) | exact HB.out)))); have n1_ := Aside0.mk (blk_below (g := gb365) (o := .cells #[.slice A0_0 l0_0.length c0_0, .int .i64 a0_1] 24 (0, 0)) (by (with_reducible repeat (first | refine blk_drewN ?_ _ | refine blk_drew ?_ | refine blk_alloc ?_ _)); exact BK365.out) hb); have n2_ := Aside0.mk (below_step (by repeat (first | (with_reducible first | exact HB.out | apply below_alloc | apply pw_below_drewN | apply below_drew1 | refine below_set ?_ GE365.out) | exact HB.out)) hb); clear BK365; clear HB; have HO370 := n0_; have BK365 := n1_; have HB := n2_; clear n0_ n1_ n2_; (try clear hb); (try clear hb2); (try clear hk); (try clear hi); (try clear ho0); obtain ⟨Ao27, co27, eo27⟩ := Kd.R_slice HO370.out; subst eo27; have p371 : 0 ≤ (x5_1 : Int) := of_decide_eq_true (by first | (with_reducible assumption) | assumption); have q371 : x5_1 < (t368.length : Int) := of_decide_eq_true (by first | (with_reducible assumption) | assumption); obtain ⟨ad371, e371, hx371_0⟩ := Kd.at_bool (Kd.R_reads' HO370.out).2.2 x5_1 p371 q371; (try rw [← Nbq20.out] at hx371_0); cases e371; replace p371 := eq_true p371; replace q371 := eq_true q371))
                  go_roundg k1
                  case measure => have := HK1.out; omega
                  case rel => exact ⟨(wrap64 (x5_1 + 1)), (by first | rfl | (simp; done) | (simp [*]; done)), H', ⟨by have := HK1.out; omega⟩, ⟨by (with_reducible repeat (first | refine blk_drewN ?_ _ | refine blk_drew ?_ | refine blk_alloc ?_ _)); exact BK365.out⟩, ⟨by repeat (first | (with_reducible first | exact HB.out | apply below_alloc | apply pw_below_drewN | apply below_drew1 | refine below_set ?_ GE365.out) | exact HB.out)⟩⟩
              · rw [if_neg c19] at H
                exact absurd H (by simp)
            · rw [if_neg c18] at H
              exact absurd H (by simp)
          · rw [if_neg c16] at H
            have c16b0 : decide (x5_1 < (l0_0.length : Int)) = false := decide_eq_false c16
            clear c16
            replace H := Option.bind_eq_some_iff.mp H
            obtain ⟨t372, A280, H⟩ := H
            replace H : (dioramaref09_Check.l1 k1 t372 0 l0_0 a0_1) = some (r1, r2) := H
            have A28 := Aside0.mk A280
            clear A280
            have H' := Aside0.mk H
            clear H
            have hcz29_0 : wr.cell? ⟨gb365, 0, none⟩ = some (.slice A0_0 l0_0.length c0_0) := (blk_cell BK365.out 0).trans rfl
            have hcz29_1 : wr.cell? ⟨gb365, 1, none⟩ = some (.int .i64 a0_1) := (blk_cell BK365.out 1).trans rfl
            have hfz29_0 := blk_frozen BK365.out 0
            have hfz29_1 := blk_frozen BK365.out 1
            go_wp2_with (first | ((with_reducible refine gate_callee (f := 53) rfl ?_); refine goesL_ (some 35) rfl rfl Tryd.func53 (by kernel_rfl) rfl #[.agg #[.slice A0_0 l0_0.length c0_0, .int .i64 a0_1], .int .i64 a0_1] rfl (by (try simp only [List.map_toArray, List.map_cons, List.map_nil]); first | done | rfl | (simp only [List.length_drop, List.length_take]; rfl)) ?_; (with_reducible refine (dioramaref09_Led.calls k1 _ _ l0_0 a0_1 a0_1 t372 _ ?side1 ?side2 A28.out).mono ?_); (case side1 => repeat (first | exact (Kd.C_below HR0_0.out HB.out) | (with_reducible refine Kd.C_alloc ?_ _) | (with_reducible refine Kd.C_drewN ?_ _) | (with_reducible refine Kd.C_drew ?_))); (case side2 => exact HC0_0.out); rintro e w30 ⟨v373, rfl, ho0, hb⟩; refine ⟨_, rfl, ?_⟩; have n0_ := Aside0.mk (Kd.R_lower ho0 (below_size (by repeat (first | (with_reducible first | exact HB.out | apply below_alloc | apply pw_below_drewN | apply below_drew1 | refine below_set ?_ GE365.out) | exact HB.out)))); have n1_ := Aside0.mk (blk_below (g := gb365) (o := .cells #[.slice A0_0 l0_0.length c0_0, .int .i64 a0_1] 24 (0, 0)) (by (with_reducible repeat (first | refine blk_drewN ?_ _ | refine blk_drew ?_ | refine blk_alloc ?_ _)); exact BK365.out) hb); have n2_ := Aside0.mk (below_step (by repeat (first | (with_reducible first | exact HB.out | apply below_alloc | apply pw_below_drewN | apply below_drew1 | refine below_set ?_ GE365.out) | exact HB.out)) hb); clear BK365; clear HB; have HO374 := n0_; have BK365 := n1_; have HB := n2_; clear n0_ n1_ n2_; (try clear hb); (try clear hb2); (try clear hk); (try clear hi); (try clear ho0)))
            go_loopg [7] k1 (fun kq v7 w' => ∃ (x7_2 : Int), v7 = .int .i64 x7_2 ∧ Aside0 (dioramaref09_Check.l1 kq t372 x7_2 l0_0 a0_1 = some (r1, r2)) ∧ Aside0 (kq ≤ k1) ∧ Aside0 (Kd.R Kd.bool 4 w' w.heap.size (fun _ => True) v373 t372) ∧ Aside0 (w'.heap[gb365]? = some (.cells #[(.slice A0_0 l0_0.length c0_0), .int .i64 a0_1] 24 (0, 0))) ∧ Aside0 (Below w.heap.size w w'))
            case atStart => exact ⟨(0), (by first | rfl | (simp; done) | (simp [*]; done)), H', ⟨Nat.le_refl _⟩, ⟨by (with_reducible repeat (first | apply Kd.R_alloc | apply Kd.R_drewN | apply Kd.R_drew)); exact HO374.out⟩, ⟨by (with_reducible repeat (first | refine blk_drewN ?_ _ | refine blk_drew ?_ | refine blk_alloc ?_ _)); exact BK365.out⟩, ⟨by repeat (first | (with_reducible first | exact HB.out | apply below_alloc | apply pw_below_drewN | apply below_drew1 | refine below_set ?_ GE365.out) | exact HB.out)⟩⟩
            case round =>
              clear H'
              try clear c1
              try clear c2
              try clear p2
              try clear q2
              try clear c3
              try clear p3
              try clear q3
              try clear hx3
              try clear c5
              try clear c5b0
              try clear p6
              try clear c16
              try clear c16b0
              try clear c18
              try clear c18b0
              try clear c19
              try clear c19b0
              try clear q20
              try clear c21
              try clear hcz12_0
              try clear hcz12_1
              try clear hcz14_0
              try clear hcz14_1
              try clear hcz22_0
              try clear hcz22_1
              try clear hcz25_0
              try clear hcz25_1
              try clear hcz29_0
              try clear hcz29_1
              try clear hcz7_0
              try clear hcz7_1
              try clear hcz9_0
              try clear hcz9_1
              try clear hfz12_0
              try clear hfz12_1
              try clear hfz14_0
              try clear hfz14_1
              try clear hfz22_0
              try clear hfz22_1
              try clear hfz25_0
              try clear hfz25_1
              try clear hfz29_0
              try clear hfz29_1
              try clear hfz7_0
              try clear hfz7_1
              try clear hfz9_0
              try clear hfz9_1
              try clear hx371_0
              try clear p2
              try clear p371
              try clear q371
              obtain ⟨x7_2, rfl, HA, HK2, HO_6, BK365, HB⟩ := hrel
              cases gk with
              | zero => exact absurd HA.out (by simp [dioramaref09_Check.l1])
              | succ k2 =>
                have H := HA.out
                clear HA
                simp only [dioramaref09_Check.l1] at H
                by_cases c31 : x7_2 < (l0_0.length : Int)
                · rw [if_pos c31] at H
                  have c31b0 : decide (x7_2 < (l0_0.length : Int)) = true := decide_eq_true c31
                  clear c31
                  by_cases c32 : x7_2 = a0_1
                  · rw [if_pos c32] at H
                    have c32b0 : (x7_2 == a0_1) = true := beq_iff_eq.mpr c32
                    have c32b1 : (x7_2 != a0_1) = false := bne_eq_false_iff_eq.mpr c32
                    clear c32
                    have H' := Aside0.mk H
                    clear H
                    have hcz33_0 : wr.cell? ⟨gb365, 0, none⟩ = some (.slice A0_0 l0_0.length c0_0) := (blk_cell BK365.out 0).trans rfl
                    have hcz33_1 : wr.cell? ⟨gb365, 1, none⟩ = some (.int .i64 a0_1) := (blk_cell BK365.out 1).trans rfl
                    have hfz33_0 := blk_frozen BK365.out 0
                    have hfz33_1 := blk_frozen BK365.out 1
                    go_wp2
                    go_roundg k2
                    case measure => have := HK1.out; have := HK2.out; omega
                    case rel => exact ⟨(wrap64 (x7_2 + 1)), (by first | rfl | (simp; done) | (simp [*]; done)), H', ⟨by have := HK1.out; have := HK2.out; omega⟩, ⟨by (with_reducible repeat (first | apply Kd.R_alloc | apply Kd.R_drewN | apply Kd.R_drew)); exact HO_6.out⟩, ⟨by (with_reducible repeat (first | refine blk_drewN ?_ _ | refine blk_drew ?_ | refine blk_alloc ?_ _)); exact BK365.out⟩, ⟨by repeat (first | (with_reducible first | exact HB.out | apply below_alloc | apply pw_below_drewN | apply below_drew1 | refine below_set ?_ GE365.out) | exact HB.out)⟩⟩
                  · rw [if_neg c32] at H
                    have c32b0 : (x7_2 == a0_1) = false := beq_eq_false_iff_ne.mpr c32
                    have c32b1 : (x7_2 != a0_1) = true := bne_iff_ne.mpr c32
                    by_cases c34 : 0 ≤ x7_2
                    · rw [if_pos c34] at H
                      have c34b0 : decide (0 ≤ x7_2) = true := decide_eq_true c34
                      clear c34
                      by_cases c35 : x7_2 < (t372.length : Int)
                      · rw [if_pos c35] at H
                        have c35b0 : decide (x7_2 < (t372.length : Int)) = true := decide_eq_true c35
                        clear c35
                        obtain ⟨bq36, hbq36⟩ : ∃ b_ : Bool, b_ = (rdOf false t372 x7_2) := ⟨_, rfl⟩
                        replace H : (if bq36 = true then (dioramaref09_Check.l1 k2 t372 (wrap64 (x7_2 + 1)) l0_0 a0_1) else (some (15, x7_2))) = some (r1, r2) := by rw [← hbq36] at H; exact H
                        have Nbq36 := Aside0.mk hbq36
                        clear hbq36
                        by_cases c37 : bq36 = true
                        · subst c37
                          have H1 : (dioramaref09_Check.l1 k2 t372 (wrap64 (x7_2 + 1)) l0_0 a0_1) = some (r1, r2) := by rw [if_pos rfl] at H; exact H
                          clear H
                          have H := H1
                          clear H1
                          have H' := Aside0.mk H
                          clear H
                          have hcz38_0 : wr.cell? ⟨gb365, 0, none⟩ = some (.slice A0_0 l0_0.length c0_0) := (blk_cell BK365.out 0).trans rfl
                          have hcz38_1 : wr.cell? ⟨gb365, 1, none⟩ = some (.int .i64 a0_1) := (blk_cell BK365.out 1).trans rfl
                          have hfz38_0 := blk_frozen BK365.out 0
                          have hfz38_1 := blk_frozen BK365.out 1
                          obtain ⟨Ao39, co39, eo39⟩ := Kd.R_slice HO_6.out
                          subst eo39
                          have p375 : 0 ≤ (x7_2 : Int) := of_decide_eq_true (by first | (with_reducible assumption) | assumption)
                          have q375 : x7_2 < (t372.length : Int) := of_decide_eq_true (by first | (with_reducible assumption) | assumption)
                          obtain ⟨ad375, e375, hx375_0⟩ := Kd.at_bool (Kd.R_reads' HO_6.out).2.2 x7_2 p375 q375
                          (try rw [← Nbq36.out] at hx375_0)
                          cases e375
                          replace p375 := eq_true p375
                          replace q375 := eq_true q375
                          go_wp2
                          go_roundg k2
                          case measure => have := HK1.out; have := HK2.out; omega
                          case rel => exact ⟨(wrap64 (x7_2 + 1)), (by first | rfl | (simp; done) | (simp [*]; done)), H', ⟨by have := HK1.out; have := HK2.out; omega⟩, ⟨by (with_reducible repeat (first | apply Kd.R_alloc | apply Kd.R_drewN | apply Kd.R_drew)); exact HO_6.out⟩, ⟨by (with_reducible repeat (first | refine blk_drewN ?_ _ | refine blk_drew ?_ | refine blk_alloc ?_ _)); exact BK365.out⟩, ⟨by repeat (first | (with_reducible first | exact HB.out | apply below_alloc | apply pw_below_drewN | apply below_drew1 | refine below_set ?_ GE365.out) | exact HB.out)⟩⟩
                        · replace c37 := Bool.eq_false_iff.mpr c37
                          subst c37
                          have H1 : (some (15, x7_2)) = some (r1, r2) := by rw [if_neg (show ¬ (false = true) by decide)] at H; exact H
                          clear H
                          have H := H1
                          clear H1
                          simp only [Option.some.injEq, Prod.mk.injEq] at H
                          obtain ⟨rfl, rfl⟩ := H
                          have hcz40_0 : wr.cell? ⟨gb365, 0, none⟩ = some (.slice A0_0 l0_0.length c0_0) := (blk_cell BK365.out 0).trans rfl
                          have hcz40_1 : wr.cell? ⟨gb365, 1, none⟩ = some (.int .i64 a0_1) := (blk_cell BK365.out 1).trans rfl
                          have hfz40_0 := blk_frozen BK365.out 0
                          have hfz40_1 := blk_frozen BK365.out 1
                          obtain ⟨Ao41, co41, eo41⟩ := Kd.R_slice HO_6.out
                          subst eo41
                          have p375 : 0 ≤ (x7_2 : Int) := of_decide_eq_true (by first | (with_reducible assumption) | assumption)
                          have q375 : x7_2 < (t372.length : Int) := of_decide_eq_true (by first | (with_reducible assumption) | assumption)
                          obtain ⟨ad375, e375, hx375_0⟩ := Kd.at_bool (Kd.R_reads' HO_6.out).2.2 x7_2 p375 q375
                          (try rw [← Nbq36.out] at hx375_0)
                          cases e375
                          replace p375 := eq_true p375
                          replace q375 := eq_true q375
                          go_wp2
                          go_ret2
                          exact ⟨by first | rfl | (simp [errW_none, errW_some] <;> rfl) | (simp [*, errW_none, errW_some] <;> rfl), by repeat (first | (with_reducible first | exact HB.out | apply below_alloc | apply pw_below_drewN | apply below_drew1 | refine below_set ?_ GE365.out) | exact HB.out)⟩
                      · rw [if_neg c35] at H
                        exact absurd H (by simp)
                    · rw [if_neg c34] at H
                      exact absurd H (by simp)
                · rw [if_neg c31] at H
                  have c31b0 : decide (x7_2 < (l0_0.length : Int)) = false := decide_eq_false c31
                  clear c31
                  simp only [Option.some.injEq, Prod.mk.injEq] at H
                  obtain ⟨rfl, rfl⟩ := H
                  have hcz42_0 : wr.cell? ⟨gb365, 0, none⟩ = some (.slice A0_0 l0_0.length c0_0) := (blk_cell BK365.out 0).trans rfl
                  have hcz42_1 : wr.cell? ⟨gb365, 1, none⟩ = some (.int .i64 a0_1) := (blk_cell BK365.out 1).trans rfl
                  have hfz42_0 := blk_frozen BK365.out 0
                  have hfz42_1 := blk_frozen BK365.out 1
                  go_wp2
                  go_ret2
                  exact ⟨by first | rfl | (simp [errW_none, errW_some] <;> rfl) | (simp [*, errW_none, errW_some] <;> rfl), by repeat (first | (with_reducible first | exact HB.out | apply below_alloc | apply pw_below_drewN | apply below_drew1 | refine below_set ?_ GE365.out) | exact HB.out)⟩
  · replace c3 := Bool.eq_false_iff.mpr c3
    subst c3
    have H1 : (some (13, (-1))) = some (r1, r2) := by rw [if_neg (show ¬ (false = true) by decide)] at H; exact H
    clear H
    have H := H1
    clear H1
    simp only [Option.some.injEq, Prod.mk.injEq] at H
    obtain ⟨rfl, rfl⟩ := H
    go_enter Tryd.func39, Tryd.ntmps39
    go_wp2_with (first | ((with_reducible refine gate_dst (N := 1) rfl ?_); refine box_event ?hg (N := 1) ?hd (cs := #[.slice A0_0 l0_0.length c0_0, .int .i64 a0_1]) (t := 24) ?hr ?_; (case hd => rfl); (case hg => rfl); (case hr => first | (go_simp; done) | (go_simp; rfl)); intro gb365 hg w43 hbox hb; have n0_ := Aside0.mk (below_step (by repeat (first | (with_reducible first | exact HB.out | apply below_alloc | apply pw_below_drewN | apply below_drew1) | exact HB.out)) hb); have n1_ := Aside0.mk (hbox); have n2_ := Aside0.mk ((by rw [hg]; exact (below_size (by repeat (first | (with_reducible first | exact HB.out | apply below_alloc | apply pw_below_drewN | apply below_drew1) | exact HB.out))) : w.heap.size ≤ gb365)); have n3_ := Aside0.mk ((by rw [hg]; exact (below_size (by repeat (first | (with_reducible first | exact HB.out | apply below_alloc | apply pw_below_drewN | apply below_drew1) | exact HB.out))) : w.heap.size ≤ gb365)); clear HB; have HB := n0_; have BK365 := n1_; have GW365 := n2_; have GE365 := n3_; clear n0_ n1_ n2_ n3_; clear hb hbox hg; have hcz44_0 : w43.cell? ⟨gb365, 0, none⟩ = some (.slice A0_0 l0_0.length c0_0) := (blk_cell BK365.out 0).trans rfl; have hcz44_1 : w43.cell? ⟨gb365, 1, none⟩ = some (.int .i64 a0_1) := (blk_cell BK365.out 1).trans rfl; have hfz44_0 := blk_frozen BK365.out 0; have hfz44_1 := blk_frozen BK365.out 1) | ((with_reducible refine gate_callee (f := 16) rfl ?_); refine goesL_ (some 11) rfl rfl Tryd.func16 (by kernel_rfl) rfl #[.agg #[.slice A0_0 l0_0.length c0_0, .int .i64 a0_1], .int .i64 a0_1] rfl (by (try simp only [List.map_toArray, List.map_cons, List.map_nil]); first | done | rfl | (simp only [List.length_drop, List.length_take]; rfl)) ?_; (with_reducible refine (dioramaref09_Place.calls _ _ l0_0 a0_1 a0_1 false _ ?side1 ?side2 A2.out).mono ?_); (case side1 => repeat (first | exact (Kd.C_below HR0_0.out HB.out) | (with_reducible refine Kd.C_alloc ?_ _) | (with_reducible refine Kd.C_drewN ?_ _) | (with_reducible refine Kd.C_drew ?_))); (case side2 => exact HC0_0.out); rintro e w45 ⟨rfl, hb⟩; refine ⟨_, rfl, ?_⟩; have n0_ := Aside0.mk (blk_below (g := gb365) (o := .cells #[.slice A0_0 l0_0.length c0_0, .int .i64 a0_1] 24 (0, 0)) (by (with_reducible repeat (first | refine blk_drewN ?_ _ | refine blk_drew ?_ | refine blk_alloc ?_ _)); exact BK365.out) hb); have n1_ := Aside0.mk (below_step (by repeat (first | (with_reducible first | exact HB.out | apply below_alloc | apply pw_below_drewN | apply below_drew1 | refine below_set ?_ GE365.out) | exact HB.out)) hb); clear BK365; clear HB; have BK365 := n0_; have HB := n1_; clear n0_ n1_; (try clear hb); (try clear hb2); (try clear hk); (try clear hi)))
    go_ret2
    exact ⟨by first | rfl | (simp [errW_none, errW_some] <;> rfl) | (simp [*, errW_none, errW_some] <;> rfl), by repeat (first | (with_reducible first | exact HB.out | apply below_alloc | apply pw_below_drewN | apply below_drew1 | refine below_set ?_ GE365.out) | exact HB.out)⟩

end Go.Proofs.YtggldnbhmebcpaaDoor.PMatchPairs
end
section
-- PRINTED BY print.sh 35421559b90ae4d0a3588c463048766b98c2df88dd9212a6774a882060cdf62d: not written by this session
namespace Go.Proofs.YtggldnbhmebcpaaDoor.PMatchPairs
open Go.RowKit Go.Proofs.YtggldnbhmebcpaaDoorW.PrintWords Go.Proofs.YtggldnbhmebcpaaDoorW.PrintLast Go.Proofs.YtggldnbhmebcpaaDoorW.PrintMore
attribute [local go_sem] max2_int min2_int max_two min_two max_three min_three max_four min_four   -- for this text's walks alone
set_option linter.unusedVariables false
set_option linter.unusedSimpArgs false
mutual
def dioramaref10_meet.l0 : Nat → Int → List Int → Int → List (S46) → Int → Option (List Int)
  | 0, _, _, _, _, _ => none
  | k + 1, x1, x2, x7, x414000, x414001 => if x7 < (x2.length : Int) then (if 0 ≤ x7 then (if (rd x2 x7) = x1 then (some x2) else (dioramaref10_meet.l0 k x1 x2 (wrap64 (x7 + 1)) x414000 x414001)) else (none)) else (dioramaref10_meet.l1 k x1 x2 0 x414000 x414001)
def dioramaref10_meet.l1 : Nat → Int → List Int → Int → List (S46) → Int → Option (List Int)
  | 0, _, _, _, _, _ => none
  | k + 1, x1, x2, x8, x414000, x414001 => if 0 ≤ x1 then (if x1 < (x414000.length : Int) then (if x8 < (((rd_T46 x414000 x1).f3).length : Int) then (if 0 ≤ x8 then ((dioramaref10_meet.f k x414000 x414001 (rd ((rd_T46 x414000 x1).f3) x8) x2).bind fun t418 => (dioramaref10_meet.l1 k x1 t418 (wrap64 (x8 + 1)) x414000 x414001)) else (none)) else ((some (([] : List Int) : List Int)).bind fun y421 => (if y421.length + x2.length < 17592186044416 then ((some (y421 ++ x2 : List Int)).bind fun y424 => (if y424.length < 17592186044416 then (some (y424 ++ [x1])) else (none))) else (none)))) else (none)) else (none)
def dioramaref10_meet.f : Nat → List (S46) → Int → Int → List Int → Option (List Int)
  | 0, _, _, _, _ => none
  | k + 1, l0_0, a0_1, a1, l2 => dioramaref10_meet.l0 k a1 l2 0 l0_0 a0_1
end
def dioramaref10_meet.T9 : Bool × List (List Nat × List Nat) := (true, [([], []), ([], []), ([1], [1]), ([], []), ([2, 3], [2, 3]), ([4], [4]), ([5], [5]), ([], []), ([6, 7], [6, 7]), ([8], [8]), ([], []), ([0, 9, 10], [0, 9, 10]), ([11, 11, 0, 1, 2, 3, 4, 5, 6, 7, 8, 9, 10, 11], [10, 11])])
def dioramaref10_meet.B9 : List Nat := [0, 0, 2, 0, 14, 30, 62, 0, 254, 510, 0, 2047, 4095]
theorem dioramaref10_meet.tab9 : rtab .any (opsOf Tryd.f54 9) = dioramaref10_meet.T9 := by kernel_rfl
theorem dioramaref10_meet.bits9 : waitsOk dioramaref10_meet.T9.2 dioramaref10_meet.B9 = true := by kernel_rfl
set_option maxHeartbeats 8000000 in
set_option maxRecDepth 100000 in
theorem dioramaref10_meet.calls (k : Nat) : ∀ (A0_0 : Option Addr) (c0_0 : Nat) (l0_0 : List (S46)) (a0_1 : Int) (a1 : Int) (P2_ : Nat → Prop) (A2 : Option Addr) (c2 : Nat) (l2 : List Int) (r : List Int) (w : World) (hr0_0 : Kd.C k46 w A0_0 l0_0.length l0_0) (hc0_0 : l0_0.length ≤ c0_0) (hs2 : Kd.V (Kd.int .i64) 3 w w.heap.size (fun k_ => P2_ k_) (.slice A2 l2.length c2) l2) (h : dioramaref10_meet.f k l0_0 a0_1 a1 l2 = some r),
    Calls Tryd.prog 54 #[.agg #[.slice A0_0 l0_0.length c0_0, .int .i64 a0_1], .int .i64 a1, .slice A2 l2.length c2] w fun e w' => ∃ v0_ : Value, e = .returned (v0_) ∧ Kd.V (Kd.int .i64) 3 w' w.heap.size (fun k_ => (P2_ k_ ∨ w.heap.size ≤ k_)) v0_ r ∧ Below w.heap.size w w' := by
  induction k using Nat.strongRecOn with
  | _ k ih =>
  intro A0_0 c0_0 l0_0 a0_1 a1 P2_ A2 c2 l2 r w hr0_0 hc0_0 hs2 h
  cases k with
  | zero => exact absurd h (by simp [dioramaref10_meet.f])
  | succ k =>
  simp only [dioramaref10_meet.f] at h
  have hu24 := Tryd.underlying24
  have HR0_0 := Aside0.mk hr0_0
  have HC0_0 := Aside0.mk hc0_0
  clear hr0_0 hc0_0
  have HO2 := Aside0.mk (show Kd.V (Kd.int .i64) 3 w w.heap.size (fun k_ => (P2_ k_ ∨ w.heap.size ≤ k_)) (.slice A2 l2.length c2) l2 from Kd.V_mono hs2 (fun k_ hk => .inl hk))
  have HB := Aside0.mk (Below.refl w.heap.size w)
  have H : (dioramaref10_meet.l0 k a1 l2 0 l0_0 a0_1) = some r := h
  clear h
  have H' := Aside0.mk H
  clear H
  go_enter Tryd.func54, Tryd.ntmps54
  go_wp2_with (first | ((with_reducible refine gate_dst (N := 3) rfl ?_); refine box_event ?hg (N := 3) ?hd (cs := #[.slice A0_0 l0_0.length c0_0, .int .i64 a0_1]) (t := 24) ?hr ?_; (case hd => rfl); (case hg => rfl); (case hr => first | (go_simp; done) | (go_simp; rfl)); intro gb413 hg w4 hbox hb; have n0_ := Aside0.mk (Kd.V_below (Kd.V_elderB (by (with_reducible repeat (first | apply Kd.V_alloc | apply Kd.V_drewN | apply Kd.V_drew)); exact HO2.out) gb413 (Nat.le_of_eq hg.symm)) hb); have n1_ := Aside0.mk (below_step (by repeat (first | (with_reducible first | exact HB.out | apply below_alloc | apply pw_below_drewN | apply below_drew1) | exact HB.out)) hb); have n2_ := Aside0.mk (hbox); have n3_ := Aside0.mk ((by rw [hg]; exact (below_size (by repeat (first | (with_reducible first | exact HB.out | apply below_alloc | apply pw_below_drewN | apply below_drew1) | exact HB.out))) : w.heap.size ≤ gb413)); have n4_ := Aside0.mk ((by rw [hg]; exact (below_size (by repeat (first | (with_reducible first | exact HB.out | apply below_alloc | apply pw_below_drewN | apply below_drew1) | exact HB.out))) : w.heap.size ≤ gb413)); clear HO2; clear HB; have HO2 := n0_; have HB := n1_; have BK413 := n2_; have GW413 := n3_; have GE413 := n4_; clear n0_ n1_ n2_ n3_ n4_; clear hb hbox hg))
  go_loopg [7] k (fun kq v7 w' => ∃ (x7_1 : Int), v7 = .int .i64 x7_1 ∧ Aside0 (dioramaref10_meet.l0 kq a1 l2 x7_1 l0_0 a0_1 = some r) ∧ Aside0 (kq ≤ k) ∧ Aside0 (Kd.V (Kd.int .i64) 3 w' w.heap.size (fun k_ => (P2_ k_ ∨ w.heap.size ≤ k_) ∧ k_ ≠ gb413) (.slice A2 l2.length c2) l2) ∧ Aside0 (w'.heap[gb413]? = some (.cells #[(.slice A0_0 l0_0.length c0_0), .int .i64 a0_1] 24 (0, 0))) ∧ Aside0 (Below w.heap.size w w'))
  case atStart => exact ⟨(0), (by first | rfl | (simp; done) | (simp [*]; done)), H', ⟨Nat.le_refl _⟩, ⟨by (with_reducible repeat (first | apply Kd.V_alloc | apply Kd.V_drewN | apply Kd.V_drew)); exact HO2.out⟩, ⟨by (with_reducible repeat (first | refine blk_drewN ?_ _ | refine blk_drew ?_ | refine blk_alloc ?_ _)); exact BK413.out⟩, ⟨by repeat (first | (with_reducible first | exact HB.out | apply below_alloc | apply pw_below_drewN | apply below_drew1 | refine below_set ?_ GE413.out) | exact HB.out)⟩⟩
  case round =>
    clear H'
    try clear c2
    try clear p2
    obtain ⟨x7_1, rfl, HA, HK1, HO_2, BK413, HB⟩ := hrel
    cases gk with
    | zero => exact absurd HA.out (by simp [dioramaref10_meet.l0])
    | succ k1 =>
      have H := HA.out
      clear HA
      simp only [dioramaref10_meet.l0] at H
      by_cases c5 : x7_1 < (l2.length : Int)
      · rw [if_pos c5] at H
        have c5b0 : decide (x7_1 < (l2.length : Int)) = true := decide_eq_true c5
        clear c5
        by_cases c6 : 0 ≤ x7_1
        · rw [if_pos c6] at H
          have c6b0 : decide (0 ≤ x7_1) = true := decide_eq_true c6
          clear c6
          by_cases c7 : (rd l2 x7_1) = a1
          · rw [if_pos c7] at H
            have c7b0 : ((rd l2 x7_1) == a1) = true := beq_iff_eq.mpr c7
            have c7b1 : ((rd l2 x7_1) != a1) = false := bne_eq_false_iff_eq.mpr c7
            clear c7
            obtain rfl := Option.some.inj H
            have p414 : 0 ≤ (x7_1 : Int) := of_decide_eq_true (by first | (with_reducible assumption) | assumption)
            have q414 : x7_1 < (l2.length : Int) := of_decide_eq_true (by first | (with_reducible assumption) | assumption)
            obtain ⟨ad414, e414, hx414_0⟩ := Kd.at_int (Kd.V_reads' HO_2.out).2.2 x7_1 p414 q414
            cases e414
            replace p414 := eq_true p414
            replace q414 := eq_true q414
            go_wp2
            go_ret
            exact ⟨_, by first | rfl | (simp [errW_none, errW_some] <;> rfl) | (simp [*, errW_none, errW_some] <;> rfl), by (with_reducible repeat (first | apply Kd.V_alloc | apply Kd.V_drewN | apply Kd.V_drew)); exact Kd.V_mono HO_2.out (fun _ hk => hk.1), by repeat (first | (with_reducible first | exact HB.out | apply below_alloc | apply pw_below_drewN | apply below_drew1 | refine below_set ?_ GE413.out) | exact HB.out)⟩
          · rw [if_neg c7] at H
            have c7b0 : ((rd l2 x7_1) == a1) = false := beq_eq_false_iff_ne.mpr c7
            have c7b1 : ((rd l2 x7_1) != a1) = true := bne_iff_ne.mpr c7
            have H' := Aside0.mk H
            clear H
            have p414 : 0 ≤ (x7_1 : Int) := of_decide_eq_true (by first | (with_reducible assumption) | assumption)
            have q414 : x7_1 < (l2.length : Int) := of_decide_eq_true (by first | (with_reducible assumption) | assumption)
            obtain ⟨ad414, e414, hx414_0⟩ := Kd.at_int (Kd.V_reads' HO_2.out).2.2 x7_1 p414 q414
            cases e414
            replace p414 := eq_true p414
            replace q414 := eq_true q414
            go_wp2
            go_roundg k1
            case measure => have := HK1.out; omega
            case rel => exact ⟨(wrap64 (x7_1 + 1)), (by first | rfl | (simp; done) | (simp [*]; done)), H', ⟨by have := HK1.out; omega⟩, ⟨by (with_reducible repeat (first | apply Kd.V_alloc | apply Kd.V_drewN | apply Kd.V_drew)); exact HO_2.out⟩, ⟨by (with_reducible repeat (first | refine blk_drewN ?_ _ | refine blk_drew ?_ | refine blk_alloc ?_ _)); exact BK413.out⟩, ⟨by repeat (first | (with_reducible first | exact HB.out | apply below_alloc | apply pw_below_drewN | apply below_drew1 | refine below_set ?_ GE413.out) | exact HB.out)⟩⟩
        · rw [if_neg c6] at H
          exact absurd H (by simp)
      · rw [if_neg c5] at H
        have c5b0 : decide (x7_1 < (l2.length : Int)) = false := decide_eq_false c5
        clear c5
        have H' := Aside0.mk H
        clear H
        go_wp2
        go_loopg [2, 8] k1 (fun kq v2 v8 w' => ∃ (x2_2 : List Int) (x8_2 : Int), v8 = .int .i64 x8_2 ∧ Aside0 (dioramaref10_meet.l1 kq a1 x2_2 x8_2 l0_0 a0_1 = some r) ∧ Aside0 (kq ≤ k1) ∧ Aside0 (Kd.V (Kd.int .i64) 3 w' w.heap.size (fun k_ => (P2_ k_ ∨ w.heap.size ≤ k_) ∧ k_ ≠ gb413) v2 x2_2) ∧ Aside0 (w'.heap[gb413]? = some (.cells #[(.slice A0_0 l0_0.length c0_0), .int .i64 a0_1] 24 (0, 0))) ∧ Aside0 (Below w.heap.size w w'))
        case atStart => exact ⟨(l2), (0), (by first | rfl | (simp; done) | (simp [*]; done)), H', ⟨Nat.le_refl _⟩, ⟨by (with_reducible repeat (first | apply Kd.V_alloc | apply Kd.V_drewN | apply Kd.V_drew)); exact HO_2.out⟩, ⟨by (with_reducible repeat (first | refine blk_drewN ?_ _ | refine blk_drew ?_ | refine blk_alloc ?_ _)); exact BK413.out⟩, ⟨by repeat (first | (with_reducible first | exact HB.out | apply below_alloc | apply pw_below_drewN | apply below_drew1 | refine below_set ?_ GE413.out) | exact HB.out)⟩⟩
        case round =>
          clear H'
          try clear c2
          try clear p2
          try clear p4
          try clear q4
          try clear hx4
          try clear c5
          try clear c5b0
          try clear c6
          try clear c6b0
          try clear p6
          try clear c7
          try clear c7b0
          try clear c7b1
          try clear hx414_0
          try clear p2
          try clear p414
          try clear q414
          obtain ⟨x2_2, x8_2, rfl, HA, HK2, HO_2, BK413, HB⟩ := hrel
          cases gk with
          | zero => exact absurd HA.out (by simp [dioramaref10_meet.l1])
          | succ k2 =>
            have H := HA.out
            clear HA
            simp only [dioramaref10_meet.l1] at H
            by_cases c8 : 0 ≤ a1
            · rw [if_pos c8] at H
              have c8b0 : decide (0 ≤ a1) = true := decide_eq_true c8
              clear c8
              by_cases c9 : a1 < (l0_0.length : Int)
              · rw [if_pos c9] at H
                have c9b0 : decide (a1 < (l0_0.length : Int)) = true := decide_eq_true c9
                clear c9
                by_cases c10 : x8_2 < (((rd_T46 l0_0 a1).f3).length : Int)
                · rw [if_pos c10] at H
                  have c10b0 : decide (x8_2 < (((rd_T46 l0_0 a1).f3).length : Int)) = true := decide_eq_true c10
                  clear c10
                  by_cases c11 : 0 ≤ x8_2
                  · rw [if_pos c11] at H
                    have c11b0 : decide (0 ≤ x8_2) = true := decide_eq_true c11
                    clear c11
                    replace H := Option.bind_eq_some_iff.mp H
                    obtain ⟨t418, A120, H⟩ := H
                    replace H : (dioramaref10_meet.l1 k2 a1 t418 (wrap64 (x8_2 + 1)) l0_0 a0_1) = some r := H
                    have A12 := Aside0.mk A120
                    clear A120
                    have H' := Aside0.mk H
                    clear H
                    have hcz13_0 : wr.cell? ⟨gb413, 0, none⟩ = some (.slice A0_0 l0_0.length c0_0) := (blk_cell BK413.out 0).trans rfl
                    have hcz13_1 : wr.cell? ⟨gb413, 1, none⟩ = some (.int .i64 a0_1) := (blk_cell BK413.out 1).trans rfl
                    have hfz13_0 := blk_frozen BK413.out 0
                    have hfz13_1 := blk_frozen BK413.out 1
                    have p415 : 0 ≤ (a1 : Int) := of_decide_eq_true (by first | (with_reducible assumption) | assumption)
                    have q415 : a1 < (l0_0.length : Int) := of_decide_eq_true (by first | (with_reducible assumption) | assumption)
                    obtain ⟨ad415, A415_1, c415_1, A415_2, c415_2, A415_3, c415_3, e415, hx415_0, hx415_1, hx415_2, hx415_3, hl415_1, hi415_1, hl415_2, hi415_2, hl415_3, hi415_3⟩ := at_T46 HR0_0.out a1 p415 q415
                    cases e415
                    replace hx415_0 := (HB.out.cell (World.block_lt_of_cell? w _ hx415_0)).trans hx415_0
                    replace hx415_1 := (HB.out.cell (World.block_lt_of_cell? w _ hx415_1)).trans hx415_1
                    replace hx415_2 := (HB.out.cell (World.block_lt_of_cell? w _ hx415_2)).trans hx415_2
                    replace hx415_3 := (HB.out.cell (World.block_lt_of_cell? w _ hx415_3)).trans hx415_3
                    have HR415_1 := Aside0.mk hi415_1
                    have HC415_1 := Aside0.mk hl415_1
                    clear hi415_1 hl415_1
                    have HR415_2 := Aside0.mk hi415_2
                    have HC415_2 := Aside0.mk hl415_2
                    clear hi415_2 hl415_2
                    have HR415_3 := Aside0.mk hi415_3
                    have HC415_3 := Aside0.mk hl415_3
                    clear hi415_3 hl415_3
                    replace p415 := eq_true p415
                    replace q415 := eq_true q415
                    try go_wp2
                    have n0_ := Aside0.mk (Kd.V_drew HO_2.out)
                    have n1_ := Aside0.mk (blk_drew BK413.out)
                    have n2_ := Aside0.mk (below_drew1 HB.out)
                    clear HO_2
                    clear BK413
                    clear HB
                    have HO_2 := n0_
                    have BK413 := n1_
                    have HB := n2_
                    clear n0_ n1_ n2_
                    have p416 : 0 ≤ (a1 : Int) := of_decide_eq_true (by first | (with_reducible assumption) | assumption)
                    have q416 : a1 < (l0_0.length : Int) := of_decide_eq_true (by first | (with_reducible assumption) | assumption)
                    obtain ⟨ad416, A416_1, c416_1, A416_2, c416_2, A416_3, c416_3, e416, hx416_0, hx416_1, hx416_2, hx416_3, hl416_1, hi416_1, hl416_2, hi416_2, hl416_3, hi416_3⟩ := at_T46 HR0_0.out a1 p416 q416
                    have hw416_3 := hx416_3
                    have hw416_2 := hx416_2
                    have hw416_1 := hx416_1
                    have hw416_0 := hx416_0
                    obtain rfl : ad415 = ad416 := (by injection e416)
                    replace hx416_0 := (HB.out.cell (World.block_lt_of_cell? w _ hx416_0)).trans hx416_0
                    replace hx416_1 := (HB.out.cell (World.block_lt_of_cell? w _ hx416_1)).trans hx416_1
                    replace hx416_2 := (HB.out.cell (World.block_lt_of_cell? w _ hx416_2)).trans hx416_2
                    replace hx416_3 := (HB.out.cell (World.block_lt_of_cell? w _ hx416_3)).trans hx416_3
                    have HR416_1 := Aside0.mk hi416_1
                    have HC416_1 := Aside0.mk hl416_1
                    clear hi416_1 hl416_1
                    have HR416_2 := Aside0.mk hi416_2
                    have HC416_2 := Aside0.mk hl416_2
                    clear hi416_2 hl416_2
                    have HR416_3 := Aside0.mk hi416_3
                    have HC416_3 := Aside0.mk hl416_3
                    clear hi416_3 hl416_3
                    replace p416 := eq_true p416
                    replace q416 := eq_true q416
                    have p417 : 0 ≤ (x8_2 : Int) := of_decide_eq_true (by first | (with_reducible assumption) | assumption)
                    have q417 : x8_2 < (((rd_T46 l0_0 a1).f3).length : Int) := of_decide_eq_true (by first | (with_reducible assumption) | assumption)
                    obtain ⟨ad417, e417, hx417_0⟩ := Kd.at_int HR416_3.out x8_2 p417 q417
                    have hw417_0 := hx417_0
                    cases e417
                    replace hx417_0 := (HB.out.cell (World.block_lt_of_cell? w _ hx417_0)).trans hx417_0
                    replace p417 := eq_true p417
                    replace q417 := eq_true q417
                    obtain ⟨Ao15, co15, eo15⟩ := Kd.V_slice HO_2.out
                    (first | subst eo15 | (injection eo15 with f1_ f2_ f3_; have f4_ := f1_.symm; have f5_ := f3_.symm; clear f1_ f2_ f3_; subst f4_; subst f5_))
                    refine start_ (n := 13) (S := fun w' => w'.cell? ⟨gb413, 0, none⟩ = some (.slice (some ad415) l0_0.length c0_0) ∧ w'.cell? ⟨gb413, 1, none⟩ = some (.int .i64 a0_1) ∧ w'.cell? (ad415.add ((a1).toNat * 4)) = some (.int .i64 ((rd_T46 l0_0 a1).f0)) ∧ w'.cell? ⟨(ad415.add ((a1).toNat * 4)).block, (ad415.add ((a1).toNat * 4)).off + 1, none⟩ = some (.slice A416_1 ((rd_T46 l0_0 a1).f1).length c416_1) ∧ w'.cell? ⟨(ad415.add ((a1).toNat * 4)).block, (ad415.add ((a1).toNat * 4)).off + 2, none⟩ = some (.slice A416_2 ((rd_T46 l0_0 a1).f2).length c416_2) ∧ w'.cell? ⟨(ad415.add ((a1).toNat * 4)).block, (ad415.add ((a1).toNat * 4)).off + 3, none⟩ = some (.slice (some ad417) ((rd_T46 l0_0 a1).f3).length c416_3) ∧ w'.cell? (ad417.add (x8_2).toNat) = some (.int .i64 (rd ((rd_T46 l0_0 a1).f3) x8_2))) (ds := []) #[false, false, false, false, false, false, false, false, false, false, false, false, false] (by kernel_rfl) rfl rfl ⟨(blk_cell BK413.out 0).trans rfl, (blk_cell BK413.out 1).trans rfl, ((HB.out.cell (World.block_lt_of_cell? w _ hw416_0)).trans hw416_0), ((HB.out.cell (World.block_lt_of_cell? w _ hw416_1)).trans hw416_1), ((HB.out.cell (World.block_lt_of_cell? w _ hw416_2)).trans hw416_2), ((HB.out.cell (World.block_lt_of_cell? w _ hw416_3)).trans hw416_3), ((HB.out.cell (World.block_lt_of_cell? w _ hw417_0)).trans hw417_0)⟩ (fun hHeld => ?_); refine with_tabW dioramaref10_meet.tab9 dioramaref10_meet.bits9 (fun HT_ HW_ => ?_)
                    generalize wr.drew = w14 at HO_2 BK413 HB HR416_1 HR416_2 HR416_3 hx416_0 hx416_1 hx416_2 hx416_3 hx417_0 hHeld ⊢
                    refine pure_ (i := 1) (N := some 34) (v := ?_) (a' := ?_) #[false, true, false, false, false, false, false, false, false, false, false, false, false] rfl rfl (any_of HT_.out (by kernel_rfl)) (fun _ _ _ h => h) (Or.inl ⟨by rfl, ?_⟩) ?_ ?_
                    rotate_left
                    · intro w'
                      go_simp
                      with_reducible rfl
                    rotate_left
                    · simp only [Act.put, List.setIfInBounds_toArray, List.set_cons_zero, List.set_cons_succ, i64_w, i32_w]
                      rfl
                    refine pure_ (i := 3) (N := some 36) (v := ?_) (a' := ?_) #[false, true, false, true, false, false, false, false, false, false, false, false, false] rfl rfl (any_of HT_.out (by kernel_rfl)) (fun _ _ _ h => h) (Or.inl ⟨by rfl, ?_⟩) ?_ ?_
                    rotate_left
                    · intro w'
                      go_simp
                      with_reducible rfl
                    rotate_left
                    · simp only [Act.put, List.setIfInBounds_toArray, List.set_cons_zero, List.set_cons_succ, i64_w, i32_w]
                      rfl
                    refine pure_ (i := 7) (N := some 40) (v := ?_) (a' := ?_) #[false, true, false, true, false, false, false, true, false, false, false, false, false] rfl rfl (any_of HT_.out (by kernel_rfl)) (fun _ _ _ h => h) (Or.inl ⟨by rfl, ?_⟩) ?_ ?_
                    rotate_left
                    · intro w'
                      go_simp
                      with_reducible rfl
                    rotate_left
                    · simp only [Act.put, List.setIfInBounds_toArray, List.set_cons_zero, List.set_cons_succ, i64_w, i32_w]
                      rfl
                    refine pure_ (i := 10) (N := some 43) (v := ?_) (a' := ?_) #[false, true, false, true, false, false, false, true, false, false, true, false, false] rfl rfl (any_of HT_.out (by kernel_rfl)) (fun _ _ _ h => h) (Or.inl ⟨by rfl, ?_⟩) ?_ ?_
                    rotate_left
                    · intro w'
                      go_simp
                      with_reducible rfl
                    rotate_left
                    · simp only [Act.put, List.setIfInBounds_toArray, List.set_cons_zero, List.set_cons_succ, i64_w, i32_w]
                      rfl
                    refine take_ (i := 0) (N := some 33) (v := ?_) (a' := ?_) #[true, true, false, true, false, false, false, true, false, false, true, false, false] rfl rfl (take_ofW HT_.out HW_.out (by kernel_rfl)) (fun _ _ _ h => h) (Or.inl ⟨by rfl, ?_⟩) hHeld ?_ ?_
                    rotate_left
                    · rintro w' ⟨s0, s1, s2, s3, s4, s5, s6⟩
                      go_simp
                      with_reducible rfl
                    rotate_left
                    · simp only [Act.put, List.setIfInBounds_toArray, List.set_cons_zero, List.set_cons_succ, i64_w, i32_w]
                      rfl
                    refine take_ (i := 2) (N := some 35) (v := ?_) (a' := ?_) #[true, true, true, true, false, false, false, true, false, false, true, false, false] rfl rfl (take_ofW HT_.out HW_.out (by kernel_rfl)) (fun _ _ _ h => h) (Or.inl ⟨by rfl, ?_⟩) hHeld ?_ ?_
                    rotate_left
                    · rintro w' ⟨s0, s1, s2, s3, s4, s5, s6⟩
                      go_simp
                      with_reducible rfl
                    rotate_left
                    · simp only [Act.put, List.setIfInBounds_toArray, List.set_cons_zero, List.set_cons_succ, i64_w, i32_w]
                      rfl
                    refine pure_ (i := 4) (N := some 37) (v := ?_) (a' := ?_) #[true, true, true, true, true, false, false, true, false, false, true, false, false] rfl rfl (any_of HT_.out (by kernel_rfl)) (fun _ _ _ h => h) (Or.inl ⟨by rfl, ?_⟩) ?_ ?_
                    rotate_left
                    · intro w'
                      go_simp
                      with_reducible rfl
                    rotate_left
                    · simp only [Act.put, List.setIfInBounds_toArray, List.set_cons_zero, List.set_cons_succ, i64_w, i32_w]
                      rfl
                    refine pure_ (i := 5) (N := some 38) (v := ?_) (a' := ?_) #[true, true, true, true, true, true, false, true, false, false, true, false, false] rfl rfl (any_of HT_.out (by kernel_rfl)) (fun _ _ _ h => h) (Or.inl ⟨by rfl, ?_⟩) ?_ ?_
                    rotate_left
                    · intro w'
                      go_simp
                      with_reducible rfl
                    rotate_left
                    · simp only [Act.put, List.setIfInBounds_toArray, List.set_cons_zero, List.set_cons_succ, i64_w, i32_w]
                      rfl
                    refine take_ (i := 6) (N := some 39) (v := ?_) (a' := ?_) #[true, true, true, true, true, true, true, true, false, false, true, false, false] rfl rfl (take_ofW HT_.out HW_.out (by kernel_rfl)) (fun _ _ _ h => h) (Or.inl ⟨by rfl, ?_⟩) hHeld ?_ ?_
                    rotate_left
                    · rintro w' ⟨s0, s1, s2, s3, s4, s5, s6⟩
                      go_simp
                      with_reducible rfl
                    rotate_left
                    · simp only [Act.put, List.setIfInBounds_toArray, List.set_cons_zero, List.set_cons_succ, i64_w, i32_w]
                      rfl
                    refine pure_ (i := 8) (N := some 41) (v := ?_) (a' := ?_) #[true, true, true, true, true, true, true, true, true, false, true, false, false] rfl rfl (any_of HT_.out (by kernel_rfl)) (fun _ _ _ h => h) (Or.inl ⟨by rfl, ?_⟩) ?_ ?_
                    rotate_left
                    · intro w'
                      go_simp
                      with_reducible rfl
                    rotate_left
                    · simp only [Act.put, List.setIfInBounds_toArray, List.set_cons_zero, List.set_cons_succ, i64_w, i32_w]
                      rfl
                    refine take_ (i := 9) (N := some 42) (v := ?_) (a' := ?_) #[true, true, true, true, true, true, true, true, true, true, true, false, false] rfl rfl (take_ofW HT_.out HW_.out (by kernel_rfl)) (fun _ _ _ h => h) (Or.inl ⟨by rfl, ?_⟩) hHeld ?_ ?_
                    rotate_left
                    · rintro w' ⟨s0, s1, s2, s3, s4, s5, s6⟩
                      go_simp
                      with_reducible rfl
                    rotate_left
                    · simp only [Act.put, List.setIfInBounds_toArray, List.set_cons_zero, List.set_cons_succ, i64_w, i32_w]
                      rfl
                    refine one_ (i := 11) (N := some 44) #[true, true, true, true, true, true, true, true, true, true, true, true, false] rfl rfl (one_of HT_.out (by kernel_rfl)) (by decide) (fun K hK => ?_)
                    refine goes_ Tryd.func54 (by kernel_rfl) rfl #[.agg #[.slice (some ad415) l0_0.length c0_0, .int .i64 a0_1], .int .i64 (rd ((rd_T46 l0_0 a1).f3) x8_2), .slice Ao15 x2_2.length co15] (by rfl) rfl rfl (by (try simp only [List.map_toArray, List.map_cons, List.map_nil]); first | done | rfl | (simp only [List.length_drop, List.length_take]; rfl)) ?_
                    with_reducible refine (ih k2 (by have := HK1.out; have := HK2.out; omega) _ _ l0_0 a0_1 (rd ((rd_T46 l0_0 a1).f3) x8_2) (fun k_ => ((P2_ k_ ∨ w.heap.size ≤ k_) ∧ k_ ≠ gb413)) _ _ x2_2 t418 _ ?side1 ?side2 ?side3 A12.out).mono ?_
                    (case side1 => repeat (first | exact (Kd.C_below HR0_0.out HB.out) | (with_reducible refine Kd.C_alloc ?_ _) | (with_reducible refine Kd.C_drewN ?_ _) | (with_reducible refine Kd.C_drew ?_)))
                    (case side2 => exact HC0_0.out)
                    (case side3 => exact HO_2.out)
                    rintro e w16 ⟨v419, rfl, ho0, hb⟩
                    refine ⟨_, rfl, ?_⟩
                    have n0_ := Aside0.mk (Kd.V_below (by (with_reducible repeat (first | apply Kd.V_alloc | apply Kd.V_drewN | apply Kd.V_drew)); exact HO_2.out) hb)
                    have n1_ := Aside0.mk (Kd.V_lower (Kd.V_mono (ok' := fun k_ => (P2_ k_ ∨ w.heap.size ≤ k_) ∧ k_ ≠ gb413) ho0 (fun k_ hk_ => ⟨Or.elim hk_ (fun hs_ => hs_.1) (fun hn_ => (.inr (Nat.le_trans (below_size (by repeat (first | (with_reducible first | exact HB.out | apply below_alloc | apply pw_below_drewN | apply below_drew1 | refine below_set ?_ GE413.out) | exact HB.out))) hn_))), Or.elim hk_ (fun hs_ => hs_.2) (fun hn_ => (Kd.freshB (g := gb413) (o := .cells #[.slice (some ad415) l0_0.length c0_0, .int .i64 a0_1] 24 (0, 0)) (by (with_reducible repeat (first | refine blk_drewN ?_ _ | refine blk_drew ?_ | refine blk_alloc ?_ _)); exact BK413.out) k_ hn_))⟩)) (below_size (by repeat (first | (with_reducible first | exact HB.out | apply below_alloc | apply pw_below_drewN | apply below_drew1 | refine below_set ?_ GE413.out) | exact HB.out))))
                    have n2_ := Aside0.mk (blk_below (g := gb413) (o := .cells #[.slice (some ad415) l0_0.length c0_0, .int .i64 a0_1] 24 (0, 0)) (by (with_reducible repeat (first | refine blk_drewN ?_ _ | refine blk_drew ?_ | refine blk_alloc ?_ _)); exact BK413.out) hb)
                    have n3_ := Aside0.mk (below_step (by repeat (first | (with_reducible first | exact HB.out | apply below_alloc | apply pw_below_drewN | apply below_drew1 | refine below_set ?_ GE413.out) | exact HB.out)) hb)
                    clear HO_2
                    clear BK413
                    clear HB
                    have HO_2 := n0_
                    have HO420 := n1_
                    have BK413 := n2_
                    have HB := n3_
                    clear n0_ n1_ n2_ n3_
                    (try clear hb)
                    (try clear hb2)
                    (try clear hk)
                    (try clear hi)
                    (try clear ho0)
                    refine hK.out _ _ ⟨(blk_cell BK413.out 0).trans rfl, (blk_cell BK413.out 1).trans rfl, ((HB.out.cell (World.block_lt_of_cell? w _ hw416_0)).trans hw416_0), ((HB.out.cell (World.block_lt_of_cell? w _ hw416_1)).trans hw416_1), ((HB.out.cell (World.block_lt_of_cell? w _ hw416_2)).trans hw416_2), ((HB.out.cell (World.block_lt_of_cell? w _ hw416_3)).trans hw416_3), ((HB.out.cell (World.block_lt_of_cell? w _ hw417_0)).trans hw417_0)⟩ (fun hHeld => ?_)
                    clear hK K
                    refine norm_ (a' := ?_) ?_ ?_
                    rotate_left
                    · show Act.put _ (some 44) _ = _
                      simp only [Act.put, List.setIfInBounds_toArray, List.set_cons_zero, List.set_cons_succ, i64_w, i32_w]
                      rfl
                    refine pure_ (i := 12) (N := some 2) (v := ?_) (a' := ?_) #[true, true, true, true, true, true, true, true, true, true, true, true, true] rfl rfl (any_of HT_.out (by kernel_rfl)) (fun _ _ _ h => h) (Or.inl ⟨by rfl, ?_⟩) ?_ ?_
                    rotate_left
                    · intro w'
                      go_simp
                      with_reducible rfl
                    rotate_left
                    · simp only [Act.put, List.setIfInBounds_toArray, List.set_cons_zero, List.set_cons_succ, i64_w, i32_w]
                      rfl
                    refine done_ (done_of HT_.out (by kernel_rfl)) ?_
                    try go_wp2
                    go_roundg k2
                    case measure => have := HK1.out; have := HK2.out; omega
                    case rel => exact ⟨(t418), (wrap64 (x8_2 + 1)), (by first | rfl | (simp; done) | (simp [*]; done)), H', ⟨by have := HK1.out; have := HK2.out; omega⟩, ⟨by (with_reducible repeat (first | apply Kd.V_alloc | apply Kd.V_drewN | apply Kd.V_drew)); exact HO420.out⟩, ⟨by (with_reducible repeat (first | refine blk_drewN ?_ _ | refine blk_drew ?_ | refine blk_alloc ?_ _)); exact BK413.out⟩, ⟨by repeat (first | (with_reducible first | exact HB.out | apply below_alloc | apply pw_below_drewN | apply below_drew1 | refine below_set ?_ GE413.out) | exact HB.out)⟩⟩
                  · rw [if_neg c11] at H
                    exact absurd H (by simp)
                · rw [if_neg c10] at H
                  have c10b0 : decide (x8_2 < (((rd_T46 l0_0 a1).f3).length : Int)) = false := decide_eq_false c10
                  clear c10
                  obtain ⟨y421, hy421⟩ : ∃ y_ : List Int, y_ = (([] : List Int)) := ⟨_, rfl⟩
                  replace H : (if y421.length + x2_2.length < 17592186044416 then ((some (y421 ++ x2_2 : List Int)).bind fun y424 => (if y424.length < 17592186044416 then (some (y424 ++ [a1])) else (none))) else (none)) = some r := by first | (rw [hy421]; with_reducible exact H) | (have H2_ := (Option.bind_some _ _).symm.trans H; rw [hy421]; with_reducible exact H2_) | (have H2_ := (Option.bind_some _ _).symm.trans H; with_reducible exact H2_) | with_reducible exact H | (rw [hy421]; exact H) | exact H
                  have Ny421 := Aside0.mk hy421
                  clear hy421
                  by_cases c17 : y421.length + x2_2.length < 17592186044416
                  · rw [if_pos c17] at H
                    have LMc17 := Aside0.mk c17
                    clear c17
                    obtain ⟨y424, hy424⟩ : ∃ y_ : List Int, y_ = (y421 ++ x2_2) := ⟨_, rfl⟩
                    replace H : (if y424.length < 17592186044416 then (some (y424 ++ [a1])) else (none)) = some r := by first | (rw [hy424]; with_reducible exact H) | (have H2_ := (Option.bind_some _ _).symm.trans H; rw [hy424]; with_reducible exact H2_) | (have H2_ := (Option.bind_some _ _).symm.trans H; with_reducible exact H2_) | with_reducible exact H | (rw [hy424]; exact H) | exact H
                    have Ny424 := Aside0.mk hy424
                    clear hy424
                    by_cases c18 : y424.length < 17592186044416
                    · rw [if_pos c18] at H
                      have LMc18 := Aside0.mk c18
                      clear c18
                      obtain ⟨y427, hy427⟩ : ∃ y_ : List Int, y_ = (y424 ++ [a1]) := ⟨_, rfl⟩
                      replace H : (some y427) = some r := by first | (rw [hy427]; with_reducible exact H) | (have H2_ := (Option.bind_some _ _).symm.trans H; rw [hy427]; with_reducible exact H2_) | (have H2_ := (Option.bind_some _ _).symm.trans H; with_reducible exact H2_) | with_reducible exact H | (rw [hy427]; exact H) | exact H
                      have Ny427 := Aside0.mk hy427
                      clear hy427
                      obtain rfl := Option.some.inj H
                      have hcz19_0 : wr.cell? ⟨gb413, 0, none⟩ = some (.slice A0_0 l0_0.length c0_0) := (blk_cell BK413.out 0).trans rfl
                      have hcz19_1 : wr.cell? ⟨gb413, 1, none⟩ = some (.int .i64 a0_1) := (blk_cell BK413.out 1).trans rfl
                      have hfz19_0 := blk_frozen BK413.out 0
                      have hfz19_1 := blk_frozen BK413.out 1
                      have p415 : 0 ≤ (a1 : Int) := of_decide_eq_true (by first | (with_reducible assumption) | assumption)
                      have q415 : a1 < (l0_0.length : Int) := of_decide_eq_true (by first | (with_reducible assumption) | assumption)
                      obtain ⟨ad415, A415_1, c415_1, A415_2, c415_2, A415_3, c415_3, e415, hx415_0, hx415_1, hx415_2, hx415_3, hl415_1, hi415_1, hl415_2, hi415_2, hl415_3, hi415_3⟩ := at_T46 HR0_0.out a1 p415 q415
                      cases e415
                      replace hx415_0 := (HB.out.cell (World.block_lt_of_cell? w _ hx415_0)).trans hx415_0
                      replace hx415_1 := (HB.out.cell (World.block_lt_of_cell? w _ hx415_1)).trans hx415_1
                      replace hx415_2 := (HB.out.cell (World.block_lt_of_cell? w _ hx415_2)).trans hx415_2
                      replace hx415_3 := (HB.out.cell (World.block_lt_of_cell? w _ hx415_3)).trans hx415_3
                      have HR415_1 := Aside0.mk hi415_1
                      have HC415_1 := Aside0.mk hl415_1
                      clear hi415_1 hl415_1
                      have HR415_2 := Aside0.mk hi415_2
                      have HC415_2 := Aside0.mk hl415_2
                      clear hi415_2 hl415_2
                      have HR415_3 := Aside0.mk hi415_3
                      have HC415_3 := Aside0.mk hl415_3
                      clear hi415_3 hl415_3
                      replace p415 := eq_true p415
                      replace q415 := eq_true q415
                      go_wp2_with (first | ((with_reducible refine gate_dst (N := 45) rfl ?_); refine Kd.R_lit (Kd.int .i64) _ 3 ?hg (N := 45) ?hd (xs := ([] : List Int)) (inner := []) (ok := fun _ => True) (okp := fun _ => True) ?hr ?hp (fun _ hk => hk) trivial (Below.refl _ _) (Nat.le_refl _) (by simp) ?_; (case hd => rfl); (case hg => rfl); (case hr => first | (go_simp; done) | (go_simp; rfl)); (case hp => exact (Reps.none _ _)); intro v422 w20 ho21 hb hg_ hnew_; clear hg_ hnew_; (first | rw [← Ny421.out] at ho21 | (simp only [Int.reduceToNat] at ho21; rw [← Ny421.out] at ho21)); have n0_ := Aside0.mk (Kd.V_elder' (by (with_reducible repeat (first | apply Kd.V_alloc | apply Kd.V_drewN | apply Kd.V_drew)); exact HO_2.out) (Kd.R_base ho21) hb); have n1_ := Aside0.mk (Kd.R_lower (Kd.R_newM (M := fun k_ => (w.heap.size ≤ k_)) ho21 (below_size (by repeat (first | (with_reducible first | exact HB.out | apply below_alloc | apply pw_below_drewN | apply below_drew1 | refine below_set ?_ GE413.out) | exact HB.out))) (fun k_ h_ => h_)) (below_size (by repeat (first | (with_reducible first | exact HB.out | apply below_alloc | apply pw_below_drewN | apply below_drew1 | refine below_set ?_ GE413.out) | exact HB.out)))); have n2_ := Aside0.mk (blk_below (g := gb413) (o := .cells #[.slice (some ad415) l0_0.length c0_0, .int .i64 a0_1] 24 (0, 0)) (by (with_reducible repeat (first | refine blk_drewN ?_ _ | refine blk_drew ?_ | refine blk_alloc ?_ _)); exact BK413.out) hb); have n3_ := Aside0.mk (below_step (by repeat (first | (with_reducible first | exact HB.out | apply below_alloc | apply pw_below_drewN | apply below_drew1 | refine below_set ?_ GE413.out) | exact HB.out)) hb); clear HO_2; clear BK413; clear HB; have HO_2 := n0_; have HO423 := n1_; have BK413 := n2_; have HB := n3_; clear n0_ n1_ n2_ n3_; clear hb ho21; obtain ⟨Ao23, co23, eo23⟩ := Kd.V_slice HO_2.out; subst eo23) | ((with_reducible refine gate_builtin (b := .append) (xs := #[.tmp 45, .tmp 46]) rfl ?_); at_builtin; refine Kd.R_append_rows (Kd.int .i64) (w0 := w) w.heap.size rfl (.tmp 45) (.tmp 46) 27 3 (.int .i64 0) 8 rfl Tryd.underlying27 info3 rfl (by decide) (by omega) v422 y421 x2_2 _ _ _ (fun k_ => (w.heap.size ≤ k_)) (fun _ => False) rfl rfl ?aO ?aR (fun _ _ h => h) (fun _ h => h.elim) ?aF ?aB ?aS ?aL ?_; (case aR => repeat (first | exact (Kd.V_reads' HO_2.out).2.2 | (with_reducible refine Kd.C_alloc ?_ _) | (with_reducible refine Kd.C_drewN ?_ _) | (with_reducible refine Kd.C_drew ?_))); (case aB => exact (by repeat (first | (with_reducible first | exact HB.out | apply below_alloc | apply pw_below_drewN | apply below_drew1 | refine below_set ?_ GE413.out) | exact HB.out))); (case aF => exact (fun k_ hk => (Nat.le_trans (below_size (by repeat (first | (with_reducible first | exact HB.out | apply below_alloc | apply pw_below_drewN | apply below_drew1 | refine below_set ?_ GE413.out) | exact HB.out))) hk))); (case aO => exact (by (with_reducible repeat (first | apply Kd.R_alloc | apply Kd.R_drewN | apply Kd.R_drew)); exact Kd.R_mono HO423.out (fun _ hk => hk.1))); (case aS => exact (below_size (by repeat (first | (with_reducible first | exact HB.out | apply below_alloc | apply pw_below_drewN | apply below_drew1 | refine below_set ?_ GE413.out) | exact HB.out)))); (case aL => have := LMc17.out; omega); intro v425 w22 ho hb hg hat; rw [← Ny424.out] at ho; have n0_ := Aside0.mk (Kd.V_afterv (ok := (fun k_ => (P2_ k_ ∨ w.heap.size ≤ k_) ∧ k_ ≠ gb413)) (by (with_reducible repeat (first | apply Kd.V_alloc | apply Kd.V_drewN | apply Kd.V_drew)); exact HO_2.out) hg hat); have n1_ := Aside0.mk (blk_grown (g := gb413) (o := .cells #[.slice (some ad415) l0_0.length c0_0, .int .i64 a0_1] 24 (0, 0)) (by (with_reducible repeat (first | refine blk_drewN ?_ _ | refine blk_drew ?_ | refine blk_alloc ?_ _)); exact BK413.out) hg (Kd.R_ne HO423.out BK413.out (by decide))); have n2_ := Aside0.mk (hb); have n3_ := Aside0.mk (ho); clear HO_2; clear BK413; clear HB; clear HO423; have HO_2 := n0_; have BK413 := n1_; have HB := n2_; have HO426 := n3_; clear n0_ n1_ n2_ n3_; clear ho hb hg hat) | ((with_reducible refine gate_builtin (b := .append) (xs := #[.tmp 47, .tmp 49]) rfl ?_); at_builtin; refine Kd.R_append (Kd.int .i64) (w0 := w) w.heap.size rfl (.tmp 47) (.tmp 49) 27 3 (.int .i64 0) 8 rfl Tryd.underlying27 info3 rfl (by decide) (by omega) v425 y424 a1 [.int .i64 a1] (fun k_ => (w.heap.size ≤ k_)) (fun _ => False) rfl rfl ?aP (fun _ hk => hk.elim) ?aF ?aO ?aB ?aS ?aL ?_; (case aP => exact rfl); (case aB => exact (by repeat (first | (with_reducible first | exact HB.out | apply below_alloc | apply pw_below_drewN | apply below_drew1 | refine below_set ?_ GE413.out) | exact HB.out))); (case aF => exact (fun k_ hk => (Nat.le_trans (below_size (by repeat (first | (with_reducible first | exact HB.out | apply below_alloc | apply pw_below_drewN | apply below_drew1 | refine below_set ?_ GE413.out) | exact HB.out))) hk))); (case aO => exact (by (with_reducible repeat (first | apply Kd.R_alloc | apply Kd.R_drewN | apply Kd.R_drew)); exact HO426.out)); (case aS => exact (below_size (by repeat (first | (with_reducible first | exact HB.out | apply below_alloc | apply pw_below_drewN | apply below_drew1 | refine below_set ?_ GE413.out) | exact HB.out)))); (case aL => have := LMc18.out; omega); intro v428 w24 ho hb hg hat; rw [← Ny427.out] at ho; have n0_ := Aside0.mk (Kd.V_afterv (ok := (fun k_ => (P2_ k_ ∨ w.heap.size ≤ k_) ∧ k_ ≠ gb413)) (by (with_reducible repeat (first | apply Kd.V_alloc | apply Kd.V_drewN | apply Kd.V_drew)); exact HO_2.out) hg hat); have n1_ := Aside0.mk (blk_grown (g := gb413) (o := .cells #[.slice (some ad415) l0_0.length c0_0, .int .i64 a0_1] 24 (0, 0)) (by (with_reducible repeat (first | refine blk_drewN ?_ _ | refine blk_drew ?_ | refine blk_alloc ?_ _)); exact BK413.out) hg (Kd.R_ne HO426.out BK413.out (by decide))); have n2_ := Aside0.mk (hb); have n3_ := Aside0.mk (ho); clear HO_2; clear BK413; clear HB; clear HO426; have HO_2 := n0_; have BK413 := n1_; have HB := n2_; have HO429 := n3_; clear n0_ n1_ n2_ n3_; clear ho hb hg hat))
                      go_ret
                      exact ⟨_, by first | rfl | (simp [errW_none, errW_some] <;> rfl) | (simp [*, errW_none, errW_some] <;> rfl), Kd.V_mono (Kd.R_V (by (with_reducible repeat (first | apply Kd.R_alloc | apply Kd.R_drewN | apply Kd.R_drew)); exact HO429.out)) (fun k_ hk => by first | exact ⟨(.inr (hk.1)), hk.2⟩ | exact (.inr (hk))), by repeat (first | (with_reducible first | exact HB.out | apply below_alloc | apply pw_below_drewN | apply below_drew1 | refine below_set ?_ GE413.out) | exact HB.out)⟩
                    · rw [if_neg c18] at H
                      exact absurd H (by simp)
                  · rw [if_neg c17] at H
                    exact absurd H (by simp)
              · rw [if_neg c9] at H
                exact absurd H (by simp)
            · rw [if_neg c8] at H
              exact absurd H (by simp)

def dioramaref10_Order.f (k : Nat) (l0_0 : List (S46)) (a0_1 : Int) : Option (List Int) := (dioramaref10_meet.f k l0_0 a0_1 a0_1 ([] : List Int)).bind fun t431 => (some t431)
set_option maxHeartbeats 8000000 in
set_option maxRecDepth 100000 in
theorem dioramaref10_Order.calls (k : Nat) (A0_0 : Option Addr) (c0_0 : Nat) (l0_0 : List (S46)) (a0_1 : Int) (r : List Int) (w : World) (hr0_0 : Kd.C k46 w A0_0 l0_0.length l0_0) (hc0_0 : l0_0.length ≤ c0_0) (h : dioramaref10_Order.f k l0_0 a0_1 = some r) :
    Calls Tryd.prog 41 #[.agg #[.slice A0_0 l0_0.length c0_0, .int .i64 a0_1]] w fun e w' => ∃ v0_ : Value, e = .returned (v0_) ∧ Kd.V (Kd.int .i64) 3 w' w.heap.size (fun k_ => (w.heap.size ≤ k_)) v0_ r ∧ Below w.heap.size w w' := by
  have hu24 := Tryd.underlying24
  have HR0_0 := Aside0.mk hr0_0
  have HC0_0 := Aside0.mk hc0_0
  clear hr0_0 hc0_0
  have HB := Aside0.mk (Below.refl w.heap.size w)
  have H : ((dioramaref10_meet.f k l0_0 a0_1 a0_1 ([] : List Int)).bind fun t431 => (some t431)) = some r := h
  clear h
  replace H := Option.bind_eq_some_iff.mp H
  obtain ⟨t431, A20, H⟩ := H
  replace H : (some t431) = some r := H
  have A2 := Aside0.mk A20
  clear A20
  obtain rfl := Option.some.inj H
  go_enter Tryd.func41, Tryd.ntmps41
  go_wp2_with (first | ((with_reducible refine gate_dst (N := 1) rfl ?_); refine box_event ?hg (N := 1) ?hd (cs := #[.slice A0_0 l0_0.length c0_0, .int .i64 a0_1]) (t := 24) ?hr ?_; (case hd => rfl); (case hg => rfl); (case hr => first | (go_simp; done) | (go_simp; rfl)); intro gb430 hg w3 hbox hb; have n0_ := Aside0.mk (below_step (by repeat (first | (with_reducible first | exact HB.out | apply below_alloc | apply pw_below_drewN | apply below_drew1) | exact HB.out)) hb); have n1_ := Aside0.mk (hbox); have n2_ := Aside0.mk ((by rw [hg]; exact (below_size (by repeat (first | (with_reducible first | exact HB.out | apply below_alloc | apply pw_below_drewN | apply below_drew1) | exact HB.out))) : w.heap.size ≤ gb430)); have n3_ := Aside0.mk ((by rw [hg]; exact (below_size (by repeat (first | (with_reducible first | exact HB.out | apply below_alloc | apply pw_below_drewN | apply below_drew1) | exact HB.out))) : w.heap.size ≤ gb430)); clear HB; have HB := n0_; have BK430 := n1_; have GW430 := n2_; have GE430 := n3_; clear n0_ n1_ n2_ n3_; clear hb hbox hg; have hcz4_0 : w3.cell? ⟨gb430, 0, none⟩ = some (.slice A0_0 l0_0.length c0_0) := (blk_cell BK430.out 0).trans rfl; have hcz4_1 : w3.cell? ⟨gb430, 1, none⟩ = some (.int .i64 a0_1) := (blk_cell BK430.out 1).trans rfl; have hfz4_0 := blk_frozen BK430.out 0; have hfz4_1 := blk_frozen BK430.out 1) | ((with_reducible refine gate_callee (f := 54) rfl ?_); refine goesL_ (some 6) rfl rfl Tryd.func54 (by kernel_rfl) rfl #[.agg #[.slice A0_0 l0_0.length c0_0, .int .i64 a0_1], .int .i64 a0_1, .slice none 0 0] rfl (by (try simp only [List.map_toArray, List.map_cons, List.map_nil]); first | done | rfl | (simp only [List.length_drop, List.length_take]; rfl)) ?_; (refine (dioramaref10_meet.calls k _ _ l0_0 a0_1 a0_1 (fun k_ => False) _ _ ([] : List Int) t431 _ ?side1 ?side2 ?side3 A2.out).mono ?_); (case side1 => repeat (first | exact (Kd.C_below HR0_0.out HB.out) | (with_reducible refine Kd.C_alloc ?_ _) | (with_reducible refine Kd.C_drewN ?_ _) | (with_reducible refine Kd.C_drew ?_))); (case side2 => exact HC0_0.out); (case side3 => exact Kd.V_nil _ _ _ _ _); rintro e w5 ⟨v432, rfl, ho0, hb⟩; refine ⟨_, rfl, ?_⟩; have n0_ := Aside0.mk (Kd.V_lower (Kd.V_mono (ok' := fun k_ => (w.heap.size ≤ k_) ∧ k_ ≠ gb430) ho0 (fun k_ hk_ => ⟨Or.elim hk_ (fun hs_ => (hs_).elim) (fun hn_ => (Nat.le_trans (below_size (by repeat (first | (with_reducible first | exact HB.out | apply below_alloc | apply pw_below_drewN | apply below_drew1 | refine below_set ?_ GE430.out) | exact HB.out))) hn_)), Or.elim hk_ (fun hs_ => (hs_).elim) (fun hn_ => (Kd.freshB (g := gb430) (o := .cells #[.slice A0_0 l0_0.length c0_0, .int .i64 a0_1] 24 (0, 0)) (by (with_reducible repeat (first | refine blk_drewN ?_ _ | refine blk_drew ?_ | refine blk_alloc ?_ _)); exact BK430.out) k_ hn_))⟩)) (below_size (by repeat (first | (with_reducible first | exact HB.out | apply below_alloc | apply pw_below_drewN | apply below_drew1 | refine below_set ?_ GE430.out) | exact HB.out)))); have n1_ := Aside0.mk (blk_below (g := gb430) (o := .cells #[.slice A0_0 l0_0.length c0_0, .int .i64 a0_1] 24 (0, 0)) (by (with_reducible repeat (first | refine blk_drewN ?_ _ | refine blk_drew ?_ | refine blk_alloc ?_ _)); exact BK430.out) hb); have n2_ := Aside0.mk (below_step (by repeat (first | (with_reducible first | exact HB.out | apply below_alloc | apply pw_below_drewN | apply below_drew1 | refine below_set ?_ GE430.out) | exact HB.out)) hb); clear BK430; clear HB; have HO433 := n0_; have BK430 := n1_; have HB := n2_; clear n0_ n1_ n2_; (try clear hb); (try clear hb2); (try clear hk); (try clear hi); (try clear ho0)))
  go_ret
  exact ⟨_, by first | rfl | (simp [errW_none, errW_some] <;> rfl) | (simp [*, errW_none, errW_some] <;> rfl), by (with_reducible repeat (first | apply Kd.V_alloc | apply Kd.V_drewN | apply Kd.V_drew)); exact Kd.V_mono HO433.out (fun _ hk => hk.1), by repeat (first | (with_reducible first | exact HB.out | apply below_alloc | apply pw_below_drewN | apply below_drew1 | refine below_set ?_ GE430.out) | exact HB.out)⟩

end Go.Proofs.YtggldnbhmebcpaaDoor.PMatchPairs
end
section
-- PRINTED BY print.sh 35421559b90ae4d0a3588c463048766b98c2df88dd9212a6774a882060cdf62d: not written by this session
namespace Go.Proofs.YtggldnbhmebcpaaDoor.PMatchPairs
open Go.RowKit Go.Proofs.YtggldnbhmebcpaaDoorW.PrintWords Go.Proofs.YtggldnbhmebcpaaDoorW.PrintLast Go.Proofs.YtggldnbhmebcpaaDoorW.PrintMore
attribute [local go_sem] max2_int min2_int max_two min_two max_three min_three max_four min_four   -- for this text's walks alone
set_option linter.unusedVariables false
set_option linter.unusedSimpArgs false
def dioramaref10_Find.l0 : Nat → List Int → Int → Int → Option (Int)
  | 0, _, _, _ => none
  | k + 1, x0, x1, x5 => if x5 < (x0.length : Int) then (if 0 ≤ x5 then (if (rd x0 x5) = x1 then (some x5) else (dioramaref10_Find.l0 k x0 x1 (wrap64 (x5 + 1)))) else (none)) else (some (-1))
def dioramaref10_Find.f (k : Nat) (l0 : List Int) (a1 : Int) : Option (Int) := dioramaref10_Find.l0 k l0 a1 0
set_option maxHeartbeats 8000000 in
set_option maxRecDepth 100000 in
theorem dioramaref10_Find.calls (k : Nat) (A0 : Option Addr) (c0 : Nat) (l0 : List Int) (a1 : Int) (r : Int) (w : World) (hr0 : Kd.C (Kd.int .i64) w A0 l0.length l0) (hc0 : l0.length ≤ c0) (h : dioramaref10_Find.f k l0 a1 = some r) :
    Calls Tryd.prog 31 #[.slice A0 l0.length c0, .int .i64 a1] w fun e w' => e = .returned (.int .i64 r) ∧ Drawn0 w w' := by
  have HR0 := Aside0.mk hr0
  have HC0 := Aside0.mk hc0
  clear hr0 hc0
  have H : (dioramaref10_Find.l0 k l0 a1 0) = some r := h
  clear h
  have H' := Aside0.mk H
  clear H
  go_enter Tryd.func31, Tryd.ntmps31
  go_wp2
  go_loopg [5] k (fun kq v5 w' => ∃ (x5_1 : Int), v5 = .int .i64 x5_1 ∧ Aside0 (dioramaref10_Find.l0 kq l0 a1 x5_1 = some r) ∧ Aside0 (kq ≤ k) ∧ Drawn0 w w')
  case atStart => exact ⟨(0), (by first | rfl | (simp; done) | (simp [*]; done)), H', ⟨Nat.le_refl _⟩, by repeat (first | exact Drawn0.refl _ | apply Drawn0.step)⟩
  case round =>
    clear H'
    try clear p2
    obtain ⟨x5_1, rfl, HA, HK1, ⟨m1, rfl⟩⟩ := hrel
    cases gk with
    | zero => exact absurd HA.out (by simp [dioramaref10_Find.l0])
    | succ k1 =>
      have H := HA.out
      clear HA
      simp only [dioramaref10_Find.l0] at H
      by_cases c3 : x5_1 < (l0.length : Int)
      · rw [if_pos c3] at H
        have c3b0 : decide (x5_1 < (l0.length : Int)) = true := decide_eq_true c3
        clear c3
        by_cases c4 : 0 ≤ x5_1
        · rw [if_pos c4] at H
          have c4b0 : decide (0 ≤ x5_1) = true := decide_eq_true c4
          clear c4
          by_cases c5 : (rd l0 x5_1) = a1
          · rw [if_pos c5] at H
            have c5b0 : ((rd l0 x5_1) == a1) = true := beq_iff_eq.mpr c5
            have c5b1 : ((rd l0 x5_1) != a1) = false := bne_eq_false_iff_eq.mpr c5
            clear c5
            obtain rfl := Option.some.inj H
            have p412 : 0 ≤ (x5_1 : Int) := of_decide_eq_true (by first | (with_reducible assumption) | assumption)
            have q412 : x5_1 < (l0.length : Int) := of_decide_eq_true (by first | (with_reducible assumption) | assumption)
            obtain ⟨ad412, e412, hx412_0⟩ := Kd.at_int HR0.out x5_1 p412 q412
            cases e412
            replace p412 := eq_true p412
            replace q412 := eq_true q412
            go_wp2
            go_ret
            exact ⟨by first | rfl | (simp; done) | (simp [*]; done), by repeat (first | exact Drawn0.refl _ | apply Drawn0.step)⟩
          · rw [if_neg c5] at H
            have c5b0 : ((rd l0 x5_1) == a1) = false := beq_eq_false_iff_ne.mpr c5
            have c5b1 : ((rd l0 x5_1) != a1) = true := bne_iff_ne.mpr c5
            have H' := Aside0.mk H
            clear H
            have p412 : 0 ≤ (x5_1 : Int) := of_decide_eq_true (by first | (with_reducible assumption) | assumption)
            have q412 : x5_1 < (l0.length : Int) := of_decide_eq_true (by first | (with_reducible assumption) | assumption)
            obtain ⟨ad412, e412, hx412_0⟩ := Kd.at_int HR0.out x5_1 p412 q412
            cases e412
            replace p412 := eq_true p412
            replace q412 := eq_true q412
            go_wp2
            go_roundg k1
            case measure => have := HK1.out; omega
            case rel => exact ⟨(wrap64 (x5_1 + 1)), (by first | rfl | (simp; done) | (simp [*]; done)), H', ⟨by have := HK1.out; omega⟩, by repeat (first | exact Drawn0.refl _ | apply Drawn0.step)⟩
        · rw [if_neg c4] at H
          exact absurd H (by simp)
      · rw [if_neg c3] at H
        have c3b0 : decide (x5_1 < (l0.length : Int)) = false := decide_eq_false c3
        clear c3
        obtain rfl := Option.some.inj H
        go_wp2
        go_ret
        exact ⟨by first | rfl | (simp; done) | (simp [*]; done), by repeat (first | exact Drawn0.refl _ | apply Drawn0.step)⟩

end Go.Proofs.YtggldnbhmebcpaaDoor.PMatchPairs
end
section
namespace Go.Proofs.YtggldnbhmebcpaaDoor.L
open Go.RowKit Go.ChangeShapes Go.WideShapes Go.Proofs.YtggldnbhmebcpaaDoorW.PrintWords Go.Proofs.YtggldnbhmebcpaaDoorW.PrintLast Go.Proofs.YtggldnbhmebcpaaDoorW.PrintMore
attribute [local go_sem] max2_int min2_int max_two min_two max_three min_three max_four min_four
open Go.Proofs.YtggldnbhmebcpaaDoor.PMatchPairs
def findI (l : List Int) (a : Int) : Int := if a ∈ l then (l.idxOf a : Int) else -1
theorem find_l0 (l : List Int) (a : Int) (hl : l.length ≤ 1000000) : ∀ (m i : Nat), l.length ≤ i + m → i ≤ l.length → (∀ j : Nat, j < i → ¬ rd l (j : Int) = a) → dioramaref10_Find.l0 (m + 1) l a (i : Int) = some (findI l a)
  | 0, i, h1, h2, h3 => by
    rw [dioramaref10_Find.l0, if_neg (by omega)]
    have : ¬ a ∈ l := fun hm => by
      obtain ⟨j, hj⟩ := List.getElem?_of_mem hm
      have hjl := (List.getElem?_eq_some_iff.1 hj).1
      refine h3 j (by omega) ?_
      unfold rd
      rw [Int.toNat_natCast, List.getD_eq_getElem?_getD, hj]; rfl
    unfold findI
    rw [if_neg this]
  | m + 1, i, h1, h2, h3 => by
    by_cases hi : i < l.length
    · rw [dioramaref10_Find.l0, if_pos (by omega), if_pos (Int.natCast_nonneg i)]
      by_cases he : rd l (i : Int) = a
      · rw [if_pos he]
        have hg : l[i] = a := by rw [← he, rd_eq hi]
        have hm : a ∈ l := by rw [← hg]; exact List.getElem_mem hi
        unfold findI
        rw [if_pos hm]
        have h4 : l.idxOf a ≤ i := by
          refine Nat.le_of_not_lt (fun hlt => ?_)
          have := List.not_of_lt_findIdx (p := fun x => x == a) (xs := l) hlt
          simp [hg] at this
        have h5 : l.idxOf a = i := by
          refine Nat.le_antisymm h4 (Nat.le_of_not_lt (fun hlt => ?_))
          have h6 : l.idxOf a < l.length := by omega
          refine h3 _ hlt ?_
          rw [rd_eq h6]
          exact List.getElem_idxOf h6
        rw [h5]
      · rw [if_neg he, wrap64_in ((i : Int) + 1) (by omega), show (i : Int) + 1 = ((i + 1 : Nat) : Int) from rfl]
        exact find_l0 l a hl m (i + 1) (by omega) (by omega) (ext_lt (P := fun j : Nat => ¬ rd l (j : Int) = a) h3 he)
    · have := find_l0 l a hl m i (by omega) h2 h3
      rw [dioramaref10_Find.l0, if_neg (by omega)]
      rw [dioramaref10_Find.l0.eq_def] at this
      cases m with
      | zero => simpa [show ¬ ((i : Int) < (l.length : Int)) by omega] using this
      | succ m => simpa [show ¬ ((i : Int) < (l.length : Int)) by omega] using this
theorem find_C (A : Option Addr) (c : Nat) (l : List Int) (a : Int) (w : World) (h : (Kd.int .i64).C w A l.length l) (hc : l.length ≤ c) (hl : l.length ≤ 1000000) :
    Calls Tryd.prog 31 #[.slice A l.length c, .int .i64 a] w fun e w' => e = .returned (.int .i64 (findI l a)) ∧ Drawn0 w w' :=
  dioramaref10_Find.calls (l.length + 1) A c l a (findI l a) w h hc (by
    unfold dioramaref10_Find.f
    exact find_l0 l a hl l.length 0 (by omega) (by omega) (fun j hj => by omega))
def refN (ns : List Node) (l : List Int) (a : Int) : Node := ⟨(nd ns a.toNat).kind, (nd ns a.toNat).ints, (nd ns a.toNat).texts, (nd ns a.toNat).kids.map (findI l)⟩
def refCanL (ns : List Node) (l : List Int) : List Node := l.map (refN ns l)
def SceneRPost (t : Scene) (w : World) (e : Ending) (w' : World) : Prop := ∃ A c, e = .returned (.agg #[.slice A t.nodes.length c, .int .i64 t.root]) ∧ kNode.R 46 w' w.heap.size (fun _ => True) (.slice A t.nodes.length c) t.nodes ∧ Below w.heap.size w w'
structure KidB (f : Int → Int) (n : Node) (v1 v2 v3 : Value) (j g : Nat) (W0 W : World) : Prop where
  below : Below W0.heap.size W0 W
  gb : W0.heap.size ≤ g
  box : W.heap[g]? = some (.cells #[.int .i64 n.kind, v1, v2, v3] 46 (0, 0))
  r1 : (Kd.int .i64).R 2 W W0.heap.size (fun _ => True) v1 n.ints
  r2 : Kd.string.R 9 W W0.heap.size (fun _ => True) v2 n.texts
  r3 : (Kd.int .i64).R 3 W W0.heap.size (fun _ => True) v3 (mapTake f n.kids j)
theorem KidB.drewN {f : Int → Int} {n : Node} {v1 v2 v3 : Value} {j g : Nat} {W0 W : World} (h : KidB f n v1 v2 v3 j g W0 W) (m : Nat) : KidB f n v1 v2 v3 j g W0 (W.drewN m) :=
  ⟨pw_below_drewN h.below m, h.gb, h.box, Kd.R_drewN h.r1 m, Kd.R_drewN h.r2 m, Kd.R_drewN h.r3 m⟩
theorem KidB.set {f : Int → Int} {n : Node} {v1 v2 : Value} {g' g c m : Nat} {j : Nat} {W0 W : World} (h : KidB f n v1 v2 (.slice (some ⟨g, 0, none⟩) m c) j g' W0 W) (hj : j < n.kids.length) :
    W.cell? ⟨g, j, none⟩ = some (.int .i64 (rd n.kids (j : Int))) ∧ W.frozen? ⟨g, j, none⟩ = false ∧ g ≠ g' ∧ KidB f n v1 v2 (.slice (some ⟨g, 0, none⟩) m c) (j + 1) g' W0 (W.setCell ⟨g, j, none⟩ (.int .i64 (f (rd n.kids (j : Int))))) := by
  have hm := (Kd.R_reads' h.r3).1
  rw [mapTake_len] at hm
  obtain ⟨c1, c2⟩ := ints_cell h.r3 j (by omega)
  obtain ⟨s1, s2, s3⟩ := ints_store h.r3 j (by omega) (f (rd n.kids (j : Int)))
  rw [mapTake_rd f _ _ hj] at c1
  rw [mapTake_set f _ _ hj] at s1
  obtain ⟨cells, hc⟩ := Kd.R_typed h.r3 g rfl
  have hne : g ≠ g' := fun e => by
    rw [e, h.box] at hc
    cases hc
  refine ⟨c1, c2, hne, below_set h.below s3, h.gb, blk_grown h.box s2 (fun e => ?_), Kd.R_grown1 h.r1 rfl s2 (Kd.R_ne h.r1 hc (by decide)), Kd.R_grown1 h.r2 rfl s2 (Kd.R_ne h.r2 hc (by decide)), s1⟩
  injection e with e
  exact hne e.symm
theorem KidB.drew {f : Int → Int} {n : Node} {v1 v2 v3 : Value} {j g : Nat} {W0 W : World} (h : KidB f n v1 v2 v3 j g W0 W) : KidB f n v1 v2 v3 j g W0 W.drew := h.drewN 1
end Go.Proofs.YtggldnbhmebcpaaDoor.L
end
section
namespace Go.Proofs.YtggldnbhmebcpaaDoor.L
open Go.RowKit Go.ChangeShapes Go.WideShapes Go.Proofs.YtggldnbhmebcpaaDoorW.PrintWords Go.Proofs.YtggldnbhmebcpaaDoorW.PrintLast Go.Proofs.YtggldnbhmebcpaaDoorW.PrintMore
attribute [local go_sem] max2_int min2_int max_two min_two max_three min_three max_four min_four
structure R21S (w5 : World) (v : Value) (out : List Int) (W : World) : Prop where
  row : (Kd.int .i64).R 3 W w5.heap.size (fun _ => True) v out
  below : Below w5.heap.size w5 W
theorem R21S.later {w5 W W1 : World} {v : Value} {out : List Int} (h : R21S w5 v out W) (hb : Below W.heap.size W W1) : R21S w5 v out W1 := ⟨Kd.R_below h.row hb, below_step h.below hb⟩
theorem R21S.put {w5 W : World} {g n c i : Nat} {out : List Int} (h : R21S w5 (.slice (some ⟨g, 0, none⟩) n c) out W) (hi : i < n) (x : Int) : R21S w5 (.slice (some ⟨g, 0, none⟩) n c) (out.set i x) (W.setCell ⟨g, i, none⟩ (.int .i64 x)) := by
  obtain ⟨h1, -, h3⟩ := ints_store h.row i hi x
  exact ⟨h1, below_set h.below h3⟩
theorem negs_snoc (i : Nat) : negs i ++ [-1] = negs (i + 1) := by
  unfold negs
  rw [List.replicate_succ']
def Open21 (R : Nat → Bool) (o : List Int) (i n k : Nat) (out : List Int) : Prop := (0 ≤ rd o (i : Int) ∧ out = o) ∨ (rd o (i : Int) < 0 ∧ Look R o i n k out)
theorem Open21.start (R : Nat → Bool) (o : List Int) (i n : Nat) : Open21 R o i n 0 o := by
  by_cases h : 0 ≤ rd o (i : Int)
  · exact .inl ⟨h, rfl⟩
  · exact .inr ⟨by omega, Look.start⟩
theorem Open21.open' {R : Nat → Bool} {o out : List Int} {i n k : Nat} (h : Open21 R o i n k out) (hz : rd out (i : Int) < 0) : out = o ∧ Look R o i n k out := by
  rcases h with ⟨h1, h2⟩ | ⟨h1, h2⟩
  · subst h2; omega
  · exact ⟨(h2.no hz).1, h2⟩
theorem Open21.next {R : Nat → Bool} {o out : List Int} {i n k : Nat} (h : Open21 R o i n k out) (hz : rd out (i : Int) < 0) (hk : ¬ (R k = true ∧ ¬ (k : Int) ∈ out)) : Open21 R o i n (k + 1) out := by
  obtain ⟨h1, h2⟩ := h.open' hz
  exact .inr ⟨h1 ▸ hz, h2.next hz (h1 ▸ hk)⟩
theorem Open21.found {R : Nat → Bool} {o out : List Int} {i n k : Nat} (h : Open21 R o i n k out) (hz : rd out (i : Int) < 0) (hi : i < out.length) (hkn : k < n) (hr : R k = true) (hn : ¬ (k : Int) ∈ out) : Open21 R o i n (k + 1) (out.set i (k : Int)) := by
  obtain ⟨h1, h2⟩ := h.open' hz
  exact .inr ⟨h1 ▸ hz, h2.found hz (h1 ▸ hi) hkn hr (h1 ▸ hn)⟩
theorem Open21.done {Q : Nat → Nat → Bool} {o0 out : List Int} {i n k : Nat} (h : Open21 (Q i) (rndB Q n o0 i) i n k out) (hi : i < o0.length) (hO : Once n o0) (hd : n ≤ k ∨ 0 ≤ rd out (i : Int)) : out = rndB Q n o0 (i + 1) := by
  rcases h with ⟨h1, h2⟩ | ⟨h1, h2⟩
  · rw [B_step hi, if_neg (by omega)]; exact h2
  · exact h2.done hi hO h1 hd
theorem Open21.len {R : Nat → Bool} {o out : List Int} {i n k : Nat} (h : Open21 R o i n k out) : out.length = o.length := by
  rcases h with ⟨-, h2⟩ | ⟨-, ⟨h2, -⟩ | ⟨-, h2⟩⟩
  · rw [h2]
  · rw [h2]
  · rw [h2, List.length_set]
theorem findI_neg {l : List Int} {a : Int} (h : ¬ a ∈ l) : findI l a = -1 := by unfold findI; rw [if_neg h]
theorem findI_pos {l : List Int} {a : Int} (h : a ∈ l) : ¬ findI l a < 0 := by unfold findI; rw [if_pos h]; omega
theorem drawn_below {W W1 : World} (h : Drawn0 W W1) : Below W.heap.size W W1 := by
  obtain ⟨n, rfl⟩ := h
  exact pw_below_drewN (Below.refl _ _) n
def R21Post (a t : Scene) (w : World) (e : Ending) (w' : World) : Prop :=
  ∃ A c, e = .returned (.slice A t.nodes.length c) ∧ (Kd.int .i64).R 3 w' w.heap.size (fun _ => True) (.slice A t.nodes.length c) (matS a.nodes t.nodes) ∧ Below w.heap.size w w'
set_option maxRecDepth 100000 in
set_option maxHeartbeats 8000000 in
theorem rmatch_any (A : Option Addr) (c : Nat) (a : Scene) (B : Option Addr) (d : Nat) (t : Scene) (w : World) (h : kNode.C w A a.nodes.length a.nodes) (hc : a.nodes.length ≤ c) (h' : kNode.C w B t.nodes.length t.nodes) (hd : t.nodes.length ≤ d)
    (hSt : ∀ i : Nat, i < t.nodes.length → Small (nd t.nodes i)) (hka : ∀ i : Nat, i < a.nodes.length → ∀ k ∈ (nd a.nodes i).kids, 0 ≤ k) (hkt : ∀ i : Nat, i < t.nodes.length → ∀ k ∈ (nd t.nodes i).kids, 0 ≤ k) (hla : a.nodes.length ≤ 1000000) (hlt' : t.nodes.length ≤ 1000000) :
    Calls Tryd.prog 14 #[.agg #[.slice A a.nodes.length c, .int .i64 a.root], .agg #[.slice B t.nodes.length d, .int .i64 t.root]] w (R21Post a t w) := by
  have HR := Aside0.mk h
  have HR' := Aside0.mk h'
  have HSt := Aside0.mk hSt
  have HKa := Aside0.mk hka
  have HKt := Aside0.mk hkt
  have hA0 := below_alloc (Below.refl w.heap.size w) (.cells #[.slice A a.nodes.length c, .int .i64 a.root] 24)
  have hA1 := below_alloc (Below.refl (w.alloc (.cells #[.slice A a.nodes.length c, .int .i64 a.root] 24)).heap.size (w.alloc (.cells #[.slice A a.nodes.length c, .int .i64 a.root] 24))) (.cells #[.slice B t.nodes.length d, .int .i64 t.root] 24)
  have HB := Aside0.mk (below_step hA0 hA1)
  have k0 := pw_cell_below hA1 (box_cell w _ rfl #[.slice A a.nodes.length c, .int .i64 a.root] 24 0 (.slice A a.nodes.length c) rfl)
  have k1 := pw_cell_below hA1 (box_cell w _ rfl #[.slice A a.nodes.length c, .int .i64 a.root] 24 1 (.int .i64 a.root) rfl)
  have q0 := box_cell (w.alloc (.cells #[.slice A a.nodes.length c, .int .i64 a.root] 24)) (w.heap.size + 1) (by simp) #[.slice B t.nodes.length d, .int .i64 t.root] 24 0 (.slice B t.nodes.length d) rfl
  have q1 := box_cell (w.alloc (.cells #[.slice A a.nodes.length c, .int .i64 a.root] 24)) (w.heap.size + 1) (by simp) #[.slice B t.nodes.length d, .int .i64 t.root] 24 1 (.int .i64 t.root) rfl
  have hu := Tryd.underlying24
  have hun := Tryd.underlying46
  clear h h' hA0 hA1 hSt hka hkt
  go_enter Tryd.func14, Tryd.ntmps14
  go_wp2_with fail
  generalize (w.alloc (.cells #[.slice A a.nodes.length c, .int .i64 a.root] 24)).alloc (.cells #[.slice B t.nodes.length d, .int .i64 t.root] 24) = w4 at HB k0 k1 q0 q1 ⊢
  refine (alike_any B d t A c a w4 (Kd.C_below HR'.out HB.out) hd (Kd.C_below HR.out HB.out) hc HSt.out HKt.out HKa.out hlt' hla).mono ?_
  rintro e w5 ⟨A5, c5, rfl, hc5, hTab, hB5⟩
  have HK0 := Aside0.mk (pw_cell_below hB5 k0)
  have HQ0 := Aside0.mk (pw_cell_below hB5 q0)
  have HB5 := Aside0.mk (below_step HB.out hB5)
  have HTab := Aside0.mk hTab
  have HTc := Aside0.mk (fun (i k : Nat) (hi : i < t.nodes.length) (hk : k < a.nodes.length) => (show ((alkT t.nodes a.nodes t.nodes.length).getD i []).getD k false = PT a.nodes t.nodes i k from alk_cell _ _ hi hk))
  have HTs := Aside0.mk (fun (p : Nat) (hp : p < t.nodes.length) => (show ((alkT t.nodes a.nodes t.nodes.length).getD p []).length = a.nodes.length from by rw [alkT_row _ _ hp]; simp))
  have HO0 : Aside0 (R21S w5 (.slice (some ⟨w5.heap.size, 0, none⟩) 0 0) (negs 0) (w5.alloc (.cells #[] 3))) := ⟨R_empty (Kd.int .i64) 3 w5 w5.heap.size (Nat.le_refl _), below_alloc (Below.refl _ _) _⟩
  clear hB5 hTab HB k0 k1 q0 q1
  generalize alkT t.nodes a.nodes t.nodes.length = tab at HTab HTc HTs
  go_wp2
  generalize w5.alloc (.cells #[] 3) = W5 at HO0 ⊢
  go_loopw [7, 6] (fun v7 v6 W => ∃ (i : Nat) (vo : Value), i ≤ t.nodes.length ∧ v7 = .int .i64 i ∧ vo = v6 ∧ Aside0 (R21S w5 vo (negs i) W)) (fun v7 _ _ => t.nodes.length - (intOf v7).toNat)
  case atStart => exact ⟨0, _, by omega, rfl, rfl, HO0⟩
  case round =>
    clear HO0
    obtain ⟨i, vo, hi, rfl, rfl, HO⟩ := hrel
    have k0 := pw_cell_below HO.out.below HK0.out
    have q0 := pw_cell_below HO.out.below HQ0.out
    obtain ⟨Ao, co, hv⟩ := Kd.R_slice HO.out.row
    rw [show (negs i).length = i from by simp [negs]] at hv
    subst hv
    by_cases hlt : i < t.nodes.length
    · go_wp2_with (at_builtin; refine Kd.R_append (Kd.int .i64) (w0 := w5) w5.heap.size rfl (.tmp 25) (.tmp 26) 27 3 (.int .i64 0) 8 rfl Tryd.underlying27 info_int rfl (by decide) (by omega) (.slice Ao i co) (negs i) (-1) [.int .i64 (-1)] (fun _ => True) (fun _ => False) rfl (by go_simp) rfl (fun _ h => h.elim) (fun _ _ => trivial) HO.out.row HO.out.below HO.out.below.size (by simp [negs]; omega) ?_; intro v7 w7 hR7 hB7 _ _; have HL := Aside0.mk (show R21S w5 v7 (negs (i + 1)) w7 from ⟨negs_snoc i ▸ hR7, hB7⟩); clear hR7 hB7)
      go_roundw
      case rel => exact ⟨i + 1, _, by omega, by go_num, rfl, HL⟩
      case measure => simp [intOf]; omega
    · obtain rfl : i = t.nodes.length := by omega
      have HO : Aside0 (R21S w5 (.slice Ao t.nodes.length co) (RS a.nodes t.nodes 0) wr) := HO
      go_wp2
      clear k0 q0
      go_loopw [8] (fun v8 W => ∃ r : Nat, r ≤ 2 ∧ v8 = .int .i64 r ∧ Aside0 (R21S w5 (.slice Ao t.nodes.length co) (RS a.nodes t.nodes r) W)) (fun v8 _ => 2 - (intOf v8).toNat)
      case atStart => exact ⟨0, by omega, rfl, HO⟩
      case round =>
        clear HO
        obtain ⟨r, hr, rfl, HO⟩ := hrel
        by_cases hr2 : r < 2
        · have hrl : (r : Int) < 2 := by omega
          have HNx := Aside0.mk (RS_next a.nodes t.nodes hr2)
          have HOn := Aside0.mk (RS_once a.nodes t.nodes hr2)
          have HOl := Aside0.mk (RS_len a.nodes t.nodes r)
          generalize RS a.nodes t.nodes r = o0 at HO HNx HOn HOl
          have HO : Aside0 (R21S w5 (.slice Ao t.nodes.length co) (rndB (RQ a.nodes t.nodes r) a.nodes.length o0 0) wr) := HO
          go_wp2
          go_loopw [9] (fun v9 W => ∃ i : Nat, i ≤ t.nodes.length ∧ v9 = .int .i64 i ∧ Aside0 (R21S w5 (.slice Ao t.nodes.length co) (rndB (RQ a.nodes t.nodes r) a.nodes.length o0 i) W)) (fun v9 _ => t.nodes.length - (intOf v9).toNat)
          case atStart => exact ⟨0, by omega, rfl, HO⟩
          case round =>
            clear HO
            obtain ⟨i, hi, rfl, HO⟩ := hrel
            have k0 := pw_cell_below HO.out.below HK0.out
            have q0 := pw_cell_below HO.out.below HQ0.out
            by_cases hlt : i < t.nodes.length
            · obtain ⟨g, hgA⟩ : ∃ g, Ao = some ⟨g, 0, none⟩ := by
                obtain ⟨g, cap, e, -⟩ := Kd.R_form HO.out.row (by rw [rndB_len, HOl.out]; omega)
                injection e with e1
                exact ⟨g, e1⟩
              subst hgA
              go_wp2
              clear k0 q0
              go_loopw [10] (fun v10 W => ∃ (k : Nat) (out : List Int), k ≤ a.nodes.length ∧ v10 = .int .i64 k ∧ Aside0 (R21S w5 (.slice (some ⟨g, 0, none⟩) t.nodes.length co) out W) ∧ Aside0 (Open21 (RQ a.nodes t.nodes r i) (rndB (RQ a.nodes t.nodes r) a.nodes.length o0 i) i a.nodes.length k out)) (fun v10 _ => a.nodes.length - (intOf v10).toNat)
              case atStart => exact ⟨0, _, by omega, rfl, HO, ⟨Open21.start _ _ _ _⟩⟩
              case round =>
                clear HO
                obtain ⟨k, out, hk, rfl, HO, HP⟩ := hrel
                have k0 := pw_cell_below HO.out.below HK0.out
                have q0 := pw_cell_below HO.out.below HQ0.out
                have hol : out.length = t.nodes.length := by rw [HP.out.len, rndB_len, HOl.out]
                have HC := Aside0.mk (ints_cell HO.out.row i hlt)
                have x6 := HC.out.1
                by_cases hkl : k < a.nodes.length
                · by_cases hz : rd out (i : Int) < 0
                  · have d1 : decide (rd out (i : Int) < 0) = true := decide_eq_true hz
                    have HNext := Aside0.mk (fun hh => HP.out.next hz (k := k) hh)
                    have HFound := Aside0.mk (fun hr hn => HP.out.found hz (by rw [hol]; exact hlt) hkl hr hn)
                    obtain ⟨tad, TB, td, rfl, y0, -, hTC⟩ := at_bools HTab.out i hlt
                    rw [HTs.out i hlt] at y0 hTC
                    obtain ⟨bad, rfl, y1⟩ := at_bool hTC k hkl
                    rw [HTc.out i k hlt hkl] at y1
                    replace y0 := pw_cell_below HO.out.below y0
                    replace y1 := pw_cell_below HO.out.below y1
                    have HFc := Aside0.mk (fun (W : World) (hW : Below wr.heap.size wr W) => (show Calls Tryd.prog 31 #[.slice (some ⟨g, 0, none⟩) t.nodes.length co, .int .i64 (k : Int)] W fun e w' => e = .returned (.int .i64 (findI out (k : Int))) ∧ Drawn0 W w' from by
                      have h1 := Kd.R_reads' (Kd.R_below HO.out.row hW)
                      have h2 := find_C (some ⟨g, 0, none⟩) co out (k : Int) W h1.2.2 (by rw [hol]; exact h1.2.1) (by rw [hol]; exact hlt')
                      rw [hol] at h2
                      exact h2))
                    have hr01 : r = 0 ∨ r = 1 := by omega
                    rcases hr01 with hr0 | hr0
                    · have e81 : ((r : Int) == 1) = false := by rw [hr0]; rfl
                      have hrq : RQ a.nodes t.nodes r i k = PT a.nodes t.nodes i k := by unfold RQ; rw [if_pos hr0]
                      by_cases hq : PT a.nodes t.nodes i k = true
                      · have HQ := Aside0.mk (show RQ a.nodes t.nodes r i k = true from hrq.trans hq)
                        rw [hq] at y1
                        clear hq hrq hr0
                        by_cases hm : (k : Int) ∈ out
                        · have hf0 : decide (findI out (k : Int) < 0) = false := decide_eq_false (findI_pos hm)
                          have HNx2 := Aside0.mk (HNext.out (fun hh => hh.2 hm))
                          clear hm
                          generalize findI out (k : Int) = z at HFc hf0
                          go_wp2_with (go_at_call 31; refine (HFc.out _ (Below.refl _ _)).mono ?_; rintro e w8 ⟨rfl, hD⟩; have HS8 := Aside0.mk ((HO.out.later (Below.refl _ _)).later (drawn_below hD)); clear hD)
                          go_roundw
                          case rel => exact ⟨k + 1, out, by omega, by go_num, HS8, HNx2⟩
                          case measure => simp [intOf]; omega
                        · have hf0 : decide (findI out (k : Int) < 0) = true := decide_eq_true (by rw [findI_neg hm]; omega)
                          have HFo := Aside0.mk (HFound.out HQ.out hm)
                          clear hm
                          generalize findI out (k : Int) = z at HFc hf0
                          go_wp2_with (go_at_call 31; refine (HFc.out _ (Below.refl _ _)).mono ?_; rintro e w8 ⟨rfl, hD⟩; have HS8 := Aside0.mk ((HO.out.later (Below.refl _ _)).later (drawn_below hD)); have hc8 := ints_cell HS8.out.row i hlt; have c8 := hc8.1; have f8 := hc8.2; clear hc8; clear hD)
                          go_roundw
                          case rel => exact ⟨k + 1, _, by omega, by go_num, ⟨HS8.out.put hlt (k : Int)⟩, HFo⟩
                          case measure => simp [intOf]; omega
                      · have HNx2 := Aside0.mk (HNext.out (fun hh => hq (hrq.symm.trans hh.1)))
                        rw [Bool.eq_false_iff.2 hq] at y1
                        clear hq hrq hr0
                        go_wp2
                        go_roundw
                        case rel => exact ⟨k + 1, out, by omega, by go_num, HO, HNx2⟩
                        case measure => simp [intOf]; omega
                    · have e81 : ((r : Int) == 1) = true := by rw [hr0]; rfl
                      obtain ⟨an, A1, c1, A2, c2, A3, c3, rfl, z0, z1, z2, z3, hN⟩ := at_node HR.out k hkl
                      obtain ⟨bn, B1, d1', B2, d2, B3, d3, rfl, u0, u1, u2, u3, hM⟩ := at_node HR'.out i hlt
                      have HW := Aside0.mk (below_step HB5.out HO.out.below)
                      replace z0 := pw_cell_below HW.out z0
                      replace z1 := pw_cell_below HW.out z1
                      replace z2 := pw_cell_below HW.out z2
                      replace z3 := pw_cell_below HW.out z3
                      replace u0 := pw_cell_below HW.out u0
                      replace u1 := pw_cell_below HW.out u1
                      replace u2 := pw_cell_below HW.out u2
                      replace u3 := pw_cell_below HW.out u3
                      have e0 := World.block_lt_of_cell? wr _ u0
                      have e1 := World.block_lt_of_cell? wr _ q0
                      have HQi := Aside0.mk (show RQ a.nodes t.nodes r i k = true ↔ (nd a.nodes k).kind = (nd t.nodes i).kind ∧ (nd a.nodes k).ints.length = (nd t.nodes i).ints.length ∧ (nd a.nodes k).texts.length = (nd t.nodes i).texts.length from by
                        unfold RQ
                        rw [if_neg (by omega)]
                        exact (QK_iff (a := a.nodes) (t := t.nodes)).trans (by unfold alike; exact decide_eq_true_iff))
                      clear hN hM hr0
                      generalize PT a.nodes t.nodes i k = pq at y1
                      generalize hn1 : nd a.nodes k = n at z0 z1 z2 z3 HQi
                      generalize hm1 : nd t.nodes i = m at u0 u1 u2 u3 HQi
                      clear hn1 hm1
                      by_cases h1 : n.kind = m.kind
                      · have g1 : (n.kind == m.kind) = true := by simpa using h1
                        by_cases h2 : n.ints.length = m.ints.length
                        · have g2 : ((n.ints.length : Int) == (m.ints.length : Int)) = true := by rw [h2]; simp
                          by_cases h3 : n.texts.length = m.texts.length
                          · have g3 : ((n.texts.length : Int) == (m.texts.length : Int)) = true := by rw [h3]; simp
                            have HQ := Aside0.mk (HQi.out.2 ⟨h1, h2, h3⟩)
                            clear h1 h2 h3 HQi
                            by_cases hm : (k : Int) ∈ out
                            · have hf0 : decide (findI out (k : Int) < 0) = false := decide_eq_false (findI_pos hm)
                              have HNx2 := Aside0.mk (HNext.out (fun hh => hh.2 hm))
                              clear hm
                              generalize findI out (k : Int) = z at HFc hf0
                              go_wp2_with (go_at_call 31; refine (HFc.out _ (below_alloc (below_alloc (Below.refl _ _) _) _)).mono ?_; rintro e w8 ⟨rfl, hD⟩; have HS8 := Aside0.mk ((HO.out.later (below_alloc (below_alloc (Below.refl _ _) _) _)).later (drawn_below hD)); clear hD)
                              go_roundw
                              case rel => exact ⟨k + 1, out, by omega, by go_num, HS8, HNx2⟩
                              case measure => simp [intOf]; omega
                            · have hf0 : decide (findI out (k : Int) < 0) = true := decide_eq_true (by rw [findI_neg hm]; omega)
                              have HFo := Aside0.mk (HFound.out HQ.out hm)
                              clear hm
                              generalize findI out (k : Int) = z at HFc hf0
                              go_wp2_with (go_at_call 31; refine (HFc.out _ (below_alloc (below_alloc (Below.refl _ _) _) _)).mono ?_; rintro e w8 ⟨rfl, hD⟩; have HS8 := Aside0.mk ((HO.out.later (below_alloc (below_alloc (Below.refl _ _) _) _)).later (drawn_below hD)); have hc8 := ints_cell HS8.out.row i hlt; have c8 := hc8.1; have f8 := hc8.2; clear hc8; clear hD)
                              go_roundw
                              case rel => exact ⟨k + 1, _, by omega, by go_num, ⟨HS8.out.put hlt (k : Int)⟩, HFo⟩
                              case measure => simp [intOf]; omega
                          · have g3 : ((n.texts.length : Int) == (m.texts.length : Int)) = false := by simp; omega
                            have HNx2 := Aside0.mk (HNext.out (fun hh => h3 ((HQi.out.1 hh.1 |>.2.2))))
                            clear HQi h3
                            go_wp2
                            go_roundw
                            case rel => exact ⟨k + 1, out, by omega, by go_num, ⟨HO.out.later (below_alloc (below_alloc (Below.refl _ _) _) _)⟩, HNx2⟩
                            case measure => simp [intOf]; omega
                        · have g2 : ((n.ints.length : Int) == (m.ints.length : Int)) = false := by simp; omega
                          have HNx2 := Aside0.mk (HNext.out (fun hh => h2 ((HQi.out.1 hh.1 |>.2.1))))
                          clear HQi h2
                          go_wp2
                          go_roundw
                          case rel => exact ⟨k + 1, out, by omega, by go_num, ⟨HO.out.later (below_alloc (below_alloc (Below.refl _ _) _) _)⟩, HNx2⟩
                          case measure => simp [intOf]; omega
                      · have g1 : (n.kind == m.kind) = false := by simpa using h1
                        have HNx2 := Aside0.mk (HNext.out (fun hh => h1 ((HQi.out.1 hh.1 |>.1))))
                        clear HQi h1
                        go_wp2
                        go_roundw
                        case rel => exact ⟨k + 1, out, by omega, by go_num, ⟨HO.out.later (below_alloc (below_alloc (Below.refl _ _) _) _)⟩, HNx2⟩
                        case measure => simp [intOf]; omega
                  · have d1 : decide (rd out (i : Int) < 0) = false := decide_eq_false hz
                    have HD := Aside0.mk (HP.out.done (by rw [HOl.out]; exact hlt) HOn.out (.inr (by omega)))
                    rw [HD.out] at HO
                    go_wp2
                    go_roundw
                    case rel => exact ⟨i + 1, by omega, by go_num, HO⟩
                    case measure => simp [intOf]; omega
                · obtain rfl : k = a.nodes.length := by omega
                  have HD := Aside0.mk (HP.out.done (by rw [HOl.out]; exact hlt) HOn.out (.inl (Nat.le_refl _)))
                  rw [HD.out] at HO
                  go_wp2
                  go_roundw
                  case rel => exact ⟨i + 1, by omega, by go_num, HO⟩
                  case measure => simp [intOf]; omega
            · obtain rfl : i = t.nodes.length := by omega
              rw [HNx.out] at HO
              go_wp2
              go_roundw
              case rel => exact ⟨r + 1, by omega, by go_num, HO⟩
              case measure => simp [intOf]; omega
        · obtain rfl : r = 2 := by omega
          go_wp2
          go_ret
          exact ⟨_, _, rfl, Kd.R_mono (Kd.R_lower HO.out.row HB5.out.size) (fun _ _ => trivial), below_step HB5.out HO.out.below⟩
end Go.Proofs.YtggldnbhmebcpaaDoor.L
end
section
namespace Go.Proofs.YtggldnbhmebcpaaDoor.L
open Go.RowKit Go.ChangeShapes Go.WideShapes Go.Proofs.YtggldnbhmebcpaaDoorW.PrintWords Go.Proofs.YtggldnbhmebcpaaDoorW.PrintLast Go.Proofs.YtggldnbhmebcpaaDoorW.PrintMore
attribute [local go_sem] max2_int min2_int max_two min_two max_three min_three max_four min_four
open Go.Proofs.YtggldnbhmebcpaaDoor.PMatchPairs
structure LedInv (ns : List Node) (K : List Int) (met : List Bool) (vs work : List Int) : Prop where
  len : met.length = ns.length
  tell : ∀ i : Nat, i < ns.length → rdOf false met (i : Int) = decide ((i : Int) ∈ vs)
  vpl : ∀ x ∈ vs, 0 ≤ x ∧ x < (ns.length : Int)
  wpl : ∀ x ∈ work, 0 ≤ x ∧ x < (ns.length : Int)
  vin : ∀ x ∈ vs, Rch ns K x
  win : ∀ x ∈ work, Rch ns K x
  k0 : ∀ k ∈ K, k ∈ vs ∨ k ∈ work
  clo : ∀ x ∈ vs, ∀ k ∈ kids ns x, k ∈ vs ∨ k ∈ work
theorem LedInv.done {ns : List Node} {K : List Int} {met : List Bool} {vs : List Int} (h : LedInv ns K met vs []) (x : Int) : Rch ns K x ↔ x ∈ vs := by
  refine ⟨fun hr => ?_, h.vin x⟩
  induction hr with
  | base hk => exact (h.k0 _ hk).resolve_right (by simp)
  | step _ hk ih => exact (h.clo _ ih _ hk).resolve_right (by simp)
theorem LedInv.skip {ns : List Node} {K : List Int} {met : List Bool} {vs work : List Int} {x : Int} (h : LedInv ns K met vs (x :: work)) (hx : x ∈ vs) : LedInv ns K met vs work :=
  ⟨h.len, h.tell, h.vpl, fun y hy => h.wpl y (by simp [hy]), h.vin, fun y hy => h.win y (by simp [hy]),
    fun k hk => (h.k0 k hk).elim .inl (fun hm => by
      rcases List.mem_cons.1 hm with rfl | hm
      · exact .inl hx
      · exact .inr hm),
    fun y hy k hk => (h.clo y hy k hk).elim .inl (fun hm => by
      rcases List.mem_cons.1 hm with rfl | hm
      · exact .inl hx
      · exact .inr hm)⟩
theorem LedInv.meet {ns : List Node} {K : List Int} {met : List Bool} {vs work : List Int} {x : Int} (hP : Places ns) (h : LedInv ns K met vs (x :: work)) (hx : ¬ x ∈ vs) : LedInv ns K (met.set x.toNat true) (x :: vs) (work ++ kids ns x) := by
  have hxp := h.wpl x (by simp)
  obtain ⟨q, rfl⟩ : ∃ q : Nat, x = (q : Int) := ⟨x.toNat, by omega⟩
  have hkp : ∀ k ∈ kids ns q, 0 ≤ k ∧ k < (ns.length : Int) := fun k hk => hP q (by omega) k hk
  refine ⟨by rw [List.length_set]; exact h.len, fun i hi => ?_, fun y hy => ?_, fun y hy => ?_, fun y hy => ?_, fun y hy => ?_, fun k hk => ?_, fun y hy k hk => ?_⟩
  · have ht := h.tell i hi
    unfold rdOf at ht ⊢
    rw [Int.toNat_natCast] at ht ⊢
    rw [Int.toNat_natCast, List.getD_eq_getElem?_getD, List.getElem?_set]
    rw [List.getD_eq_getElem?_getD] at ht
    by_cases e : q = i
    · subst e
      rw [if_pos rfl, if_pos (by rw [h.len]; exact hi)]
      simp
    · rw [if_neg e, ht]
      have : ((i : Int) ∈ (q : Int) :: vs) ↔ (i : Int) ∈ vs := by
        rw [List.mem_cons]
        exact ⟨fun h => h.resolve_left (fun e' => e (by omega)), .inr⟩
      exact decide_eq_decide.2 this.symm
  · rcases List.mem_cons.1 hy with rfl | hy
    · exact hxp
    · exact h.vpl y hy
  · rcases List.mem_append.1 hy with hy | hy
    · exact h.wpl y (by simp [hy])
    · exact hkp y hy
  · rcases List.mem_cons.1 hy with rfl | hy
    · exact h.win _ (by simp)
    · exact h.vin y hy
  · rcases List.mem_append.1 hy with hy | hy
    · exact h.win y (by simp [hy])
    · exact .step (h.win _ (List.mem_cons_self)) hy
  · rcases h.k0 k hk with hm | hm
    · exact .inl (by simp [hm])
    · rcases List.mem_cons.1 hm with rfl | hm
      · exact .inl (by simp)
      · exact .inr (by simp [hm])
  · rcases List.mem_cons.1 hy with rfl | hy
    · exact .inr (by simp [hk])
    · rcases h.clo y hy k hk with hm | hm
      · exact .inl (by simp [hm])
      · rcases List.mem_cons.1 hm with rfl | hm
        · exact .inl (by simp)
        · exact .inr (by simp [hm])
def Tells (ns : List Node) (K : List Int) (r : List Bool) : Prop := r.length = ns.length ∧ ∀ i : Nat, i < ns.length → (rdOf false r (i : Int) = true ↔ Rch ns K (i : Int))
theorem led_l0 {ns : List Node} (hP : Places ns) (K : List Int) (root : Int) (hM : rows ns ≤ 1000000) : ∀ (m : Nat) (met : List Bool) (vs work : List Int), LedInv ns K met vs work → left ns vs + work.length < m → work.length ≤ 3000000 →
    (work.length + left ns vs ≤ 3000000) → ∃ r, dioramaref09_Led.l0 m met work (ns.map toS) root = some r ∧ Tells ns K r
  | 0, _, _, _, _, h, _, _ => by omega
  | m + 1, met, vs, [], h, _, _, _ => by
    rw [dioramaref09_Led.l0, if_neg (by simp)]
    refine ⟨_, rfl, h.len, fun i hi => ?_⟩
    rw [h.tell i hi, decide_eq_true_iff]
    exact (h.done _).symm
  | m + 1, met, vs, x :: work, h, hl, hw, hs => by
    have hxp := h.wpl x (by simp)
    have hrd : rd (x :: work) 0 = x := rfl
    have hlen : (((x :: work).length : Nat) : Int) = (work.length : Int) + 1 := by simp
    rw [dioramaref09_Led.l0, if_pos (by rw [hlen]; omega), if_pos (by rw [hlen]; omega), if_pos (by rw [hlen]; omega), Option.bind_some, hrd, if_pos hxp.1, if_pos (by rw [h.len]; exact hxp.2)]
    rw [show (x :: work).drop (1 : Int).toNat = work from rfl]
    have hlen' : (x :: work).length = work.length + 1 := rfl
    obtain ⟨q, rfl⟩ : ∃ q : Nat, x = (q : Int) := ⟨x.toNat, by omega⟩
    have ht := h.tell q (by omega)
    by_cases hx : (q : Int) ∈ vs
    · rw [if_pos (by rw [ht]; exact decide_eq_true hx)]
      exact led_l0 hP K root hM m met vs work (h.skip hx) (by omega) (by omega) (by omega)
    · rw [if_neg (by rw [ht, decide_eq_false hx]; decide), Option.bind_some, if_pos (by simp; omega), Option.bind_some, if_pos (by rw [List.length_map]; exact hxp.2)]
      have hk := kids_to ns (q : Int)
      have hlc := left_cons (ns := ns) (vs := vs) (x := q) (by omega) hx
      have hwt : wt ns q = (kids ns (q : Int)).length + 1 := rfl
      rw [hk, if_pos (by simp; omega), List.nil_append]
      exact led_l0 hP K root hM m _ _ _ (h.meet hP hx) (by rw [List.length_append]; omega) (by rw [List.length_append]; omega) (by rw [List.length_append]; omega)
theorem wt_le {ns : List Node} {p : Nat} (hp : p < ns.length) : wt ns p ≤ rows ns := by
  have := left_cons (ns := ns) (vs := []) (x := p) hp (by simp)
  rw [left_nil] at this
  omega
theorem led_f {ns : List Node} (hP : Places ns) (root : Int) (hM : rows ns ≤ 1000000) (p : Nat) (hp : p < ns.length) (k : Nat) (hk : 2 * rows ns < k) :
    ∃ r, dioramaref09_Led.f k (ns.map toS) root (p : Int) = some r ∧ Tells ns (kids ns (p : Int)) r := by
  unfold dioramaref09_Led.f
  have hlr := len_rows ns
  have hl : (((ns.map toS).length : Nat) : Int) = (ns.length : Int) := by rw [List.length_map]
  have hwt : wt ns p = (kids ns (p : Int)).length + 1 := rfl
  have hle := wt_le hp
  rw [hl, if_pos (by omega), if_pos (by rw [Int.toNat_natCast]; omega), Option.bind_some, if_pos (by omega), if_pos (by omega), kids_to, if_pos (by simp; omega), List.nil_append, Int.toNat_natCast]
  refine led_l0 hP (kids ns (p : Int)) root hM k _ [] _ ⟨by simp, fun i hi => ?_, by simp, fun x hx => hP p hp x hx, by simp, fun x hx => .base hx, fun k hk => .inr hk, by simp⟩ ?_ (by omega) ?_
  · unfold rdOf
    rw [Int.toNat_natCast, List.getD_eq_getElem?_getD, List.getElem?_replicate, if_pos hi]
    simp
  · rw [left_nil]; omega
  · rw [left_nil]; omega
theorem rch_root {ns : List Node} {r x : Int} : Rch ns [r] x ↔ x = r ∨ Rch ns (kids ns r) x := by
  refine ⟨fun h => ?_, fun h => ?_⟩
  · induction h with
    | base hk => exact .inl (List.mem_singleton.1 hk)
    | step _ hk ih =>
      rcases ih with rfl | ih
      · exact .inr (.base hk)
      · exact .inr (.step ih hk)
  · rcases h with rfl | h
    · exact .base (by simp)
    · exact h.under
theorem chk_l1 (s : Scene) (led : List Bool) (hn : s.nodes.length ≤ 1000000) (hT : Tells s.nodes (kids s.nodes s.root) led) : ∀ (m i K : Nat), s.nodes.length ≤ i + m → i ≤ s.nodes.length → (∀ j : Nat, j < i → Rch s.nodes [s.root] (j : Int)) →
    dioramaref09_Check.l1 (K + 1 + m) led (i : Int) (s.nodes.map toS) s.root = some (if 0 ≤ looseAt s then (15, looseAt s) else (0, 0))
  | 0, i, K, h1, h2, h3 => by
    rw [show K + 1 + 0 = K + 1 by omega, dioramaref09_Check.l1, if_neg (by rw [List.length_map]; omega)]
    have : looseAt s = -1 := firstP_no _ 0 (fun j hj h => h (by rw [Nat.zero_add]; exact h3 j (by omega)))
    rw [this]; rfl
  | m + 1, i, K, h1, h2, h3 => by
    by_cases hi : i < s.nodes.length
    · rw [show K + 1 + (m + 1) = (K + 1 + m) + 1 by omega, dioramaref09_Check.l1, if_pos (by rw [List.length_map]; omega), wrap64_in ((i : Int) + 1) (by omega), show (i : Int) + 1 = ((i + 1 : Nat) : Int) from rfl]
      have next : Rch s.nodes [s.root] (i : Int) → dioramaref09_Check.l1 (K + 1 + m) led ((i + 1 : Nat) : Int) (s.nodes.map toS) s.root = some (if 0 ≤ looseAt s then (15, looseAt s) else (0, 0)) := fun hr =>
        chk_l1 s led hn hT m (i + 1) K (by omega) (by omega) (ext_lt (P := fun j : Nat => Rch s.nodes [s.root] (j : Int)) h3 hr)
      by_cases hr : (i : Int) = s.root
      · rw [if_pos hr]
        exact next (rch_root.2 (.inl hr))
      · rw [if_neg hr, if_pos (Int.natCast_nonneg i), if_pos (by rw [hT.1]; omega)]
        have ht := hT.2 i hi
        by_cases hl : rdOf false led (i : Int) = true
        · rw [if_pos hl]
          exact next (rch_root.2 (.inr (ht.1 hl)))
        · rw [if_neg hl]
          have : looseAt s = (i : Int) := by
            have := firstP_at (p := fun i => ¬ Rch s.nodes [s.root] (i : Int)) s.nodes.length 0 i hi (fun j hj h => h (by rw [Nat.zero_add]; exact h3 j hj)) (by rw [Nat.zero_add]; exact fun h => hl (ht.2 ((rch_root.1 h).resolve_left hr)))
            rw [Nat.zero_add] at this
            exact this
          rw [this, if_pos (Int.natCast_nonneg i)]
    · have := chk_l1 s led hn hT m i (K + 1) (by omega) h2 h3
      rw [show K + 1 + 1 + m = K + 1 + (m + 1) by omega] at this
      exact this
theorem chk_l0 (s : Scene) (hM : rows s.nodes ≤ 1000000) (hP : Places s.nodes) (h0 : 0 ≤ s.root) (h1 : s.root < s.nodes.length) : ∀ (m i K : Nat), s.nodes.length ≤ i + m → i ≤ s.nodes.length → (∀ j : Nat, j < i → ¬ Cyc s.nodes (j : Int)) →
    dioramaref09_Check.l0 (K + 2 * rows s.nodes + s.nodes.length + 3 + m) (i : Int) (s.nodes.map toS) s.root = some (if 0 ≤ cycAt s.nodes then (14, cycAt s.nodes) else if 0 ≤ looseAt s then (15, looseAt s) else (0, 0))
  | 0, i, K, k1, k2, k3 => by
    have hlr := len_rows s.nodes
    rw [show K + 2 * rows s.nodes + s.nodes.length + 3 + 0 = (K + 2 * rows s.nodes + s.nodes.length + 2) + 1 by omega, dioramaref09_Check.l0, if_neg (by rw [List.length_map]; omega)]
    obtain ⟨q, hq⟩ : ∃ q : Nat, s.root = (q : Int) := ⟨s.root.toNat, by omega⟩
    obtain ⟨r, hr, hT⟩ := led_f hP s.root hM q (by omega) (K + 2 * rows s.nodes + s.nodes.length + 2) (by omega)
    rw [← hq] at hr hT
    rw [hr, Option.bind_some]
    have hc : cycAt s.nodes = -1 := firstP_no _ 0 (fun j hj h => k3 j (by omega) (by rwa [Nat.zero_add] at h))
    rw [hc, if_neg (by decide)]
    have := chk_l1 s r (by omega) hT s.nodes.length 0 (K + 2 * rows s.nodes + 1) (by omega) (by omega) (fun j hj => by omega)
    rw [show K + 2 * rows s.nodes + 1 + 1 + s.nodes.length = K + 2 * rows s.nodes + s.nodes.length + 2 by omega] at this
    exact this
  | m + 1, i, K, k1, k2, k3 => by
    by_cases hi : i < s.nodes.length
    · have hlr := len_rows s.nodes
      rw [show K + 2 * rows s.nodes + s.nodes.length + 3 + (m + 1) = (K + 2 * rows s.nodes + s.nodes.length + 3 + m) + 1 by omega, dioramaref09_Check.l0, if_pos (by rw [List.length_map]; omega)]
      obtain ⟨r, hr, hT⟩ := led_f hP s.root hM i hi (K + 2 * rows s.nodes + s.nodes.length + 3 + m) (by omega)
      rw [hr, Option.bind_some, if_pos (Int.natCast_nonneg i), if_pos (by rw [hT.1]; omega), wrap64_in ((i : Int) + 1) (by omega), show (i : Int) + 1 = ((i + 1 : Nat) : Int) from rfl]
      have ht := hT.2 i hi
      by_cases hl : rdOf false r (i : Int) = true
      · rw [if_pos hl]
        have : cycAt s.nodes = (i : Int) := by
          have := firstP_at (p := fun i => Cyc s.nodes (i : Int)) s.nodes.length 0 i hi (fun j hj h => k3 j hj (by rwa [Nat.zero_add] at h)) (by rw [Nat.zero_add]; exact ht.1 hl)
          rw [Nat.zero_add] at this
          exact this
        rw [this, if_pos (Int.natCast_nonneg i)]
      · rw [if_neg hl]
        exact chk_l0 s hM hP h0 h1 m (i + 1) K (by omega) (by omega) (ext_lt (P := fun j : Nat => ¬ Cyc s.nodes (j : Int)) k3 (fun h => hl (ht.2 h)))
    · have := chk_l0 s hM hP h0 h1 m i (K + 1) (by omega) k2 k3
      rw [show K + 1 + 2 * rows s.nodes + s.nodes.length + 3 + m = K + 2 * rows s.nodes + s.nodes.length + 3 + (m + 1) by omega] at this
      exact this
theorem chk_f (s : Scene) (hM : rows s.nodes ≤ 1000000) : dioramaref09_Check.f (2 * rows s.nodes + 2 * s.nodes.length + 3) (s.nodes.map toS) s.root = some (gcheck s) := by
  unfold dioramaref09_Check.f dioramaref09_Place.f dioramaref09_Refs.f
  rw [Option.bind_some, List.length_map, Option.bind_some, map_of_to]
  by_cases h0 : s.root < 0 ∨ (s.nodes.length : Int) ≤ s.root
  · have : isPl s.nodes.length s.root = false := by unfold isPl; exact decide_eq_false (by omega)
    rw [this, if_neg (by decide), gcheck_root h0]
  · have : isPl s.nodes.length s.root = true := by unfold isPl; exact decide_eq_true (by omega)
    rw [this, if_pos rfl]
    by_cases h : 0 ≤ refsAt s.nodes
    · rw [if_pos h, gcheck_refs h0 h]
    · rw [if_neg h]
      have hP : Places s.nodes := Places.of_refs ((refsAt_lt _).resolve_right h)
      have := chk_l0 s hM hP (by omega) (by omega) s.nodes.length 0 0 (by omega) (by omega) (fun j hj => by omega)
      rw [show 0 + 2 * rows s.nodes + s.nodes.length + 3 + s.nodes.length = 2 * rows s.nodes + 2 * s.nodes.length + 3 by omega] at this
      refine this.trans ?_
      unfold gcheck
      rw [if_neg h0, if_neg h]
theorem rchk_any (A : Option Addr) (c : Nat) (s : Scene) (w : World) (h : kNode.C w A s.nodes.length s.nodes) (hc : s.nodes.length ≤ c) (hM : rows s.nodes ≤ 1000000) :
    Calls Tryd.prog 39 #[.agg #[.slice A s.nodes.length c, .int .i64 s.root]] w fun e w' => e = .returned (.tuple #[.int .i64 (gcheck s).1, .int .i64 (gcheck s).2]) ∧ Below w.heap.size w w' := by
  have hl : (s.nodes.map toS).length = s.nodes.length := List.length_map ..
  have := dioramaref09_Check.calls (2 * rows s.nodes + 2 * s.nodes.length + 3) A c (s.nodes.map toS) s.root (gcheck s).1 (gcheck s).2 w (by rw [hl]; exact C_to h) (by rw [hl]; exact hc) (chk_f s hM)
  rw [hl] at this
  exact this
end Go.Proofs.YtggldnbhmebcpaaDoor.L
end
section
namespace Go.Proofs.YtggldnbhmebcpaaDoor.L
open Go.RowKit Go.ChangeShapes Go.WideShapes Go.Proofs.YtggldnbhmebcpaaDoorW.PrintWords Go.Proofs.YtggldnbhmebcpaaDoorW.PrintLast Go.Proofs.YtggldnbhmebcpaaDoorW.PrintMore
attribute [local go_sem] max2_int min2_int max_two min_two max_three min_three max_four min_four
open Go.Proofs.YtggldnbhmebcpaaDoor.PMatchPairs
theorem meet_l0 (ns : List Node) (root a : Int) (met : List Int) (hm : met.length ≤ 1000000) : ∀ (m i K : Nat), met.length ≤ i + m → i ≤ met.length → (∀ j : Nat, j < i → ¬ rd met (j : Int) = a) →
    (a ∈ met → dioramaref10_meet.l0 (K + 1 + m) a met (i : Int) (ns.map toS) root = some met) ∧
    (¬ a ∈ met → ∃ K', K ≤ K' ∧ dioramaref10_meet.l0 (K + 1 + m) a met (i : Int) (ns.map toS) root = dioramaref10_meet.l1 K' a met 0 (ns.map toS) root)
  | 0, i, K, h1, h2, h3 => by
    have hno : ¬ a ∈ met := fun hm => by
      obtain ⟨j, hj⟩ := List.getElem?_of_mem hm
      have hjl := (List.getElem?_eq_some_iff.1 hj).1
      refine h3 j (by omega) ?_
      unfold rd
      rw [Int.toNat_natCast, List.getD_eq_getElem?_getD, hj]; rfl
    refine ⟨fun h => absurd h hno, fun _ => ⟨K, Nat.le_refl _, ?_⟩⟩
    rw [show K + 1 + 0 = K + 1 by omega, dioramaref10_meet.l0, if_neg (by omega)]
  | m + 1, i, K, h1, h2, h3 => by
    by_cases hi : i < met.length
    · rw [show K + 1 + (m + 1) = (K + 1 + m) + 1 by omega, dioramaref10_meet.l0, if_pos (by omega), if_pos (Int.natCast_nonneg i)]
      by_cases he : rd met (i : Int) = a
      · rw [if_pos he]
        have hin : a ∈ met := by rw [← he]; exact rd_mem hi
        exact ⟨fun _ => rfl, fun h => absurd hin h⟩
      · rw [if_neg he, wrap64_in ((i : Int) + 1) (by omega), show (i : Int) + 1 = ((i + 1 : Nat) : Int) from rfl]
        exact meet_l0 ns root a met hm m (i + 1) K (by omega) (by omega) (ext_lt (P := fun j : Nat => ¬ rd met (j : Int) = a) h3 he)
    · obtain ⟨g1, g2⟩ := meet_l0 ns root a met hm m i (K + 1) (by omega) h2 h3
      rw [show K + 1 + 1 + m = K + 1 + (m + 1) by omega] at g1 g2
      exact ⟨g1, fun h => by obtain ⟨K', h1, h2⟩ := g2 h; exact ⟨K', by omega, h2⟩⟩
def meetT (ns : List Node) : Nat := ns.length + rows ns + 4
theorem meet_f {ns : List Node} (hd : Dag ns) (root : Int) (hM : rows ns ≤ 1000000) : ∀ (N : Nat) (a : Int) (met : List Int) (K : Nat), reachN ns a < N → Pl ns a → Shut ns met → N * meetT ns ≤ K →
    dioramaref10_meet.f K (ns.map toS) root a met = some (M ns a met)
  | 0, _, _, _, h, _, _, _ => by omega
  | N + 1, a, met, K, hN, ha, hs, hK => by
    have hT : (N + 1) * meetT ns = N * meetT ns + meetT ns := Nat.succ_mul _ _
    have hlen := hs.len
    have hlr := len_rows ns
    have hTd : meetT ns = ns.length + rows ns + 4 := rfl
    obtain ⟨K1, rfl⟩ : ∃ K1, K = (K1 + (kids ns a).length + 1) + 1 + met.length + 1 := ⟨K - met.length - 3 - (kids ns a).length, by
      have hw : (kids ns a).length + 1 ≤ rows ns := wt_le (ns := ns) (p := a.toNat) (by have := ha.1; have := ha.2; omega)
      omega⟩
    rw [dioramaref10_meet.f]
    obtain ⟨g1, g2⟩ := meet_l0 ns root a met (by omega) met.length 0 (K1 + (kids ns a).length + 1) (by omega) (by omega) (fun j hj => by omega)
    by_cases hin : a ∈ met
    · rw [M_in hd ha hin]
      exact g1 hin
    · obtain ⟨K', hK', e⟩ := g2 hin
      rw [M_out hd ha hin]
      refine Eq.trans e ?_
      have hw : (kids ns a).length + 1 ≤ rows ns := wt_le (ns := ns) (p := a.toNat) (by have := ha.1; have := ha.2; omega)
      have hK1 : N * meetT ns ≤ K1 := by omega
      -- the kids, one behind the other
      have key : ∀ (m j K2 : Nat) (v : List Int), (kids ns a).length = j + m → N * meetT ns ≤ K2 → Shut ns v → (∀ x ∈ v, x ∈ v) → v = ML ns ((kids ns a).take j) met →
          dioramaref10_meet.l1 (K2 + 1 + m) a v (j : Int) (ns.map toS) root = some (ML ns (kids ns a) met ++ [a]) := by
        intro m
        induction m with
        | zero =>
          intro j K2 v hj hK2 hv _ hve
          have hvl := hv.len
          rw [show K2 + 1 + 0 = K2 + 1 by omega, dioramaref10_meet.l1, if_pos ha.1, if_pos (by rw [List.length_map]; exact ha.2), kids_to, if_neg (by omega), Option.bind_some, if_pos (by simp; omega), Option.bind_some, if_pos (by simp; omega), List.nil_append]
          rw [hve, List.take_of_length_le (by omega)]
        | succ m ih =>
          intro j K2 v hj hK2 hv _ hve
          have hjl : j < (kids ns a).length := by omega
          rw [show K2 + 1 + (m + 1) = (K2 + 1 + m) + 1 by omega, dioramaref10_meet.l1, if_pos ha.1, if_pos (by rw [List.length_map]; exact ha.2), kids_to, if_pos (by omega), if_pos (Int.natCast_nonneg j)]
          have hk : rd (kids ns a) (j : Int) ∈ kids ns a := rd_mem hjl
          have hkp := hd.kid ha hk
          have hlow := hd.lower ha hk
          rw [meet_f hd root hM N (rd (kids ns a) (j : Int)) v (K2 + 1 + m) (by omega) hkp hv (by omega), Option.bind_some, wrap64_in ((j : Int) + 1) (by have := hs.len; omega), show (j : Int) + 1 = ((j + 1 : Nat) : Int) from rfl]
          have hmet := M_met hd _ (rd (kids ns a) (j : Int)) v (Nat.lt_succ_self _) hkp hv (shut_next hv _)
          refine ih (j + 1) K2 _ (by omega) hK2 hmet.shut (fun _ h => h) ?_
          rw [take_succ_rd hjl, hve]
          unfold ML
          rw [List.foldl_append]
          rfl
      obtain ⟨K2, rfl⟩ : ∃ K2, K' = K2 + 1 + (kids ns a).length := ⟨K' - 1 - (kids ns a).length, by omega⟩
      exact key (kids ns a).length 0 K2 met (by omega) (by omega) hs (fun _ h => h) (by rw [List.take_zero]; rfl)
theorem order_f {s : Scene} (hd : Dag s.nodes) (hr : Pl s.nodes s.root) (hM : rows s.nodes ≤ 1000000) : dioramaref10_Order.f ((s.nodes.length + 1) * meetT s.nodes) (s.nodes.map toS) s.root = some (ord s) := by
  unfold dioramaref10_Order.f
  rw [meet_f hd s.root hM (s.nodes.length + 1) s.root [] _ (Nat.lt_succ_of_le (reachN_le _ _)) hr (Shut.nil _) (Nat.le_refl _)]
  rfl
theorem refCan_eq {s : Scene} (hd : Dag s.nodes) (hr : Pl s.nodes s.root) : refCanL s.nodes (ord s) = canonL s := by
  have hm := ord_met' hd hr
  unfold refCanL canonL
  refine List.map_congr_left (fun a ha => ?_)
  unfold refN relab
  congr 1
  refine List.map_congr_left (fun k hk => ?_)
  have := hm.shut.kids a ha k hk
  unfold findI idx
  rw [if_pos this]
end Go.Proofs.YtggldnbhmebcpaaDoor.L
end
section
namespace Go.Proofs.YtggldnbhmebcpaaDoor.L
open Go.RowKit Go.ChangeShapes Go.WideShapes Go.Proofs.YtggldnbhmebcpaaDoorW.PrintWords Go.Proofs.YtggldnbhmebcpaaDoorW.PrintLast Go.Proofs.YtggldnbhmebcpaaDoorW.PrintMore
attribute [local go_sem] max2_int min2_int max_two min_two max_three min_three max_four min_four
noncomputable def rightB (s : Scene) : Bool := (gcheck s).1 == 0
set_option maxRecDepth 100000 in
theorem rright_any (A : Option Addr) (c : Nat) (s : Scene) (w : World) (h : kNode.C w A s.nodes.length s.nodes) (hc : s.nodes.length ≤ c) (hM : rows s.nodes ≤ 1000000) :
    Calls Tryd.prog 28 #[.agg #[.slice A s.nodes.length c, .int .i64 s.root]] w fun e w' => e = .returned (.bool (rightB s)) ∧ Below w.heap.size w w' := by
  have HR := Aside0.mk h
  have HB := Aside0.mk (below_alloc (Below.refl w.heap.size w) (.cells #[.slice A s.nodes.length c, .int .i64 s.root] 24))
  have k0 := box_cell w _ rfl #[.slice A s.nodes.length c, .int .i64 s.root] 24 0 (.slice A s.nodes.length c) rfl
  have k1 := box_cell w _ rfl #[.slice A s.nodes.length c, .int .i64 s.root] 24 1 (.int .i64 s.root) rfl
  have hu := Tryd.underlying24
  have HE := Aside0.mk (show rightB s = ((gcheck s).1 == 0) from rfl)
  clear h
  go_enter Tryd.func28, Tryd.ntmps28
  go_wp2_with fail
  refine (rchk_any A c s _ (Kd.C_below HR.out HB.out) hc hM).mono ?_
  rintro e w1 ⟨rfl, hB1⟩
  have HB1 := Aside0.mk (below_step HB.out hB1)
  clear hB1 k0 k1
  generalize (gcheck s).1 = g at HE ⊢
  generalize (gcheck s).2 = g2
  go_wp2
  go_ret
  exact ⟨ret_bool HE.out.symm, HB1.out⟩
end Go.Proofs.YtggldnbhmebcpaaDoor.L
end
section
namespace Go.Proofs.YtggldnbhmebcpaaDoor.L
open Go.RowKit Go.ChangeShapes Go.WideShapes Go.Proofs.YtggldnbhmebcpaaDoorW.PrintWords Go.Proofs.YtggldnbhmebcpaaDoorW.PrintLast Go.Proofs.YtggldnbhmebcpaaDoorW.PrintMore
attribute [local go_sem] max2_int min2_int max_two min_two max_three min_three max_four min_four
open Go.Proofs.YtggldnbhmebcpaaDoor.PMatchPairs
theorem refN_len (ns : List Node) (l : List Int) : (refCanL ns l).length = l.length := by simp [refCanL]
theorem take_succ_map {α β : Type} (f : α → β) (l : List α) (i : Nat) (h : i < l.length) : (l.map f).take (i + 1) = (l.map f).take i ++ [f l[i]] := by
  rw [List.take_succ_eq_append_getElem (by simpa using h)]
  simp
set_option maxRecDepth 100000 in
set_option maxHeartbeats 8000000 in
theorem rcanon_any (A : Option Addr) (c : Nat) (s : Scene) (l : List Int) (k : Nat) (w : World) (h : kNode.C w A s.nodes.length s.nodes) (hc : s.nodes.length ≤ c) (hS : ∀ i : Nat, i < s.nodes.length → Small (nd s.nodes i))
    (ho : dioramaref10_Order.f k (s.nodes.map toS) s.root = some l) (hl : l.length ≤ 1000000) (hp : ∀ x ∈ l, 0 ≤ x ∧ x < (s.nodes.length : Int)) :
    Calls Tryd.prog 30 #[.agg #[.slice A s.nodes.length c, .int .i64 s.root]] w (SceneRPost ⟨refCanL s.nodes l, (l.length : Int) - 1⟩ w) := by
  have HR := Aside0.mk h
  have HSm := Aside0.mk hS
  have HO := Aside0.mk ho
  have HP := Aside0.mk hp
  have HCc := Aside0.mk hc
  have b0 := h.2.1
  have HB := Aside0.mk (below_alloc (below_alloc (Below.refl w.heap.size w) (.cells #[.slice A s.nodes.length c, .int .i64 s.root] 24)) (.cells #[.slice none 0 0, .int .i64 0] 24))
  have k0 := box_cell2 w _ rfl #[.slice A s.nodes.length c, .int .i64 s.root] 24 (.cells #[.slice none 0 0, .int .i64 0] 24) 0 (.slice A s.nodes.length c) rfl
  have k1 := box_cell2 w _ rfl #[.slice A s.nodes.length c, .int .i64 s.root] 24 (.cells #[.slice none 0 0, .int .i64 0] 24) 1 (.int .i64 s.root) rfl
  have HL := Aside0.mk (show ((w.alloc (.cells #[.slice A s.nodes.length c, .int .i64 s.root] 24)).alloc (.cells #[.slice none 0 0, .int .i64 0] 24)).heap[w.heap.size + 1]? = some (.cells #[.slice none 0 0, .int .i64 0] 24 (0, 0)) from by
    have := heap_alloc_new (w.alloc (.cells #[.slice A s.nodes.length c, .int .i64 s.root] 24)) (.cells #[.slice none 0 0, .int .i64 0] 24)
    simpa using this)
  have hu := Tryd.underlying24
  have hun := Tryd.underlying46
  clear h hc hS ho hp
  go_enter Tryd.func30, Tryd.ntmps30
  go_wp2_with fail
  have hml : (s.nodes.map toS).length = s.nodes.length := List.length_map ..
  have hcall := dioramaref10_Order.calls k A c (s.nodes.map toS) s.root l ((w.alloc (.cells #[.slice A s.nodes.length c, .int .i64 s.root] 24)).alloc (.cells #[.slice none 0 0, .int .i64 0] 24)) (by rw [hml]; exact C_to (Kd.C_below HR.out HB.out)) (by rw [hml]; exact HCc.out) HO.out
  rw [hml] at hcall
  refine hcall.mono ?_
  clear hcall hml
  rintro e w1 ⟨v, rfl, hV, hB1⟩
  obtain ⟨A3, c3, rfl⟩ := Kd.V_slice hV
  have HV := Aside0.mk (Kd.V_reads' hV)
  have hlc : l.length ≤ c3 := HV.out.2.1
  have HB1 := Aside0.mk (below_step HB.out hB1)
  have HL1 := Aside0.mk ((hB1.block _ (blk_lt HL.out)).trans HL.out)
  have HK1 := Aside0.mk (pw_cell_below hB1 k0)
  have HI := Aside0.mk (CnRel.start w1 ((l.length : Int) - 1))
  have hw1 : IntKind.i64.wrap ((l.length : Int) - 1) = (l.length : Int) - 1 := wrap_i (by omega) (by omega)
  clear hV hB1 k0 k1 HL HB
  go_wp2
  generalize w1.alloc (.cells #[.slice none 0 0, .int .i64 ((l.length : Int) - 1)] 24) = W5 at HI ⊢
  go_loopw [5] (fun v5 W => ∃ i : Nat, i ≤ l.length ∧ v5 = .int .i64 i ∧ ∃ A4 c4, Aside0 (CnRel w1 ((l.length : Int) - 1) ((refCanL s.nodes l).take i) (.slice A4 i c4) W)) (fun v5 _ => l.length - (intOf v5).toNat)
  case atStart => exact ⟨0, by omega, rfl, none, 0, by rw [List.take_zero]; exact HI⟩
  case round =>
    clear HI
    obtain ⟨i, hi, rfl, A4, c4, HI⟩ := hrel
    by_cases hlt : i < l.length
    · obtain ⟨adl, rfl, z0⟩ := at_nat (Kd.C_below HV.out.2.2 HI.out.below) i hlt
      have hpi := HP.out _ (rd_mem hlt)
      obtain ⟨q, hq⟩ : ∃ q : Nat, rd l (i : Int) = (q : Int) := ⟨(rd l (i : Int)).toNat, by omega⟩
      rw [hq] at z0 hpi
      have hqn : q < s.nodes.length := by omega
      have HRN : Aside0 ((refCanL s.nodes l).take (i + 1) = (refCanL s.nodes l).take i ++ [⟨(nd s.nodes q).kind, (nd s.nodes q).ints, (nd s.nodes q).texts, (nd s.nodes q).kids.map (findI l)⟩]) := ⟨by
        unfold refCanL
        rw [take_succ_map _ _ _ hlt]
        have : l[i] = (q : Int) := by rw [← hq, rd_eq hlt]
        rw [this]; unfold refN; rw [Int.toNat_natCast]⟩
      clear hq hpi
      obtain ⟨adn, A1, c1, A2, c2, A5, c5, rfl, x0, x1, x2, x3, hN⟩ := at_node HR.out q hqn
      have k0 := pw_cell_below HI.out.below HK1.out
      have HW := Aside0.mk (below_step HB1.out HI.out.below)
      replace x0 := pw_cell_below HW.out x0
      replace x1 := pw_cell_below HW.out x1
      replace x2 := pw_cell_below HW.out x2
      replace x3 := pw_cell_below HW.out x3
      have HN := Aside0.mk hN
      clear hN
      have HSq := Aside0.mk (HSm.out q hqn)
      have hbz : (wr.alloc (.cells #[.int .i64 0, .slice none 0 0, .slice none 0 0, .slice none 0 0] 46)).drew.heap[wr.heap.size]? = some (.cells #[.int .i64 0, .slice none 0 0, .slice none 0 0, .slice none 0 0] 46 (0, 0)) := by
        show (wr.alloc _).heap[wr.heap.size]? = _
        simpa using heap_alloc_new wr _
      have HBZ := Aside0.mk hbz
      have hbA := below_drew (below_alloc (Below.refl wr.heap.size wr) (.cells #[.int .i64 0, .slice none 0 0, .slice none 0 0, .slice none 0 0] 46))
      have HBA := Aside0.mk hbA
      have n0 : wr.heap.size ≠ w.heap.size := World.new_ne wr _ k0
      have n1 := World.new_ne wr _ z0
      have n2 := World.new_ne wr _ x0
      clear hbz hbA
      have k0d : wr.drew.cell? ⟨w.heap.size, 0, none⟩ = some (.slice (some adn) s.nodes.length c) := k0
      have k0a : (wr.alloc (.cells #[.int .i64 0, .slice none 0 0, .slice none 0 0, .slice none 0 0] 46)).drew.cell? ⟨w.heap.size, 0, none⟩ = some (.slice (some adn) s.nodes.length c) := pw_cell_below HBA.out k0
      have z0d : wr.drew.cell? (adl.add i) = some (.int .i64 q) := z0
      have z0a : (wr.alloc (.cells #[.int .i64 0, .slice none 0 0, .slice none 0 0, .slice none 0 0] 46)).drew.cell? (adl.add i) = some (.int .i64 q) := pw_cell_below HBA.out z0
      have x0d : wr.drew.cell? (adn.add (q * 4)) = some (.int .i64 (nd s.nodes q).kind) := x0
      have x0a : (wr.alloc (.cells #[.int .i64 0, .slice none 0 0, .slice none 0 0, .slice none 0 0] 46)).drew.cell? (adn.add (q * 4)) = some (.int .i64 (nd s.nodes q).kind) := pw_cell_below HBA.out x0
      have x1d : wr.drew.cell? ⟨(adn.add (q * 4)).block, (adn.add (q * 4)).off + 1, none⟩ = some (.slice A1 (nd s.nodes q).ints.length c1) := x1
      have x1a : (wr.alloc (.cells #[.int .i64 0, .slice none 0 0, .slice none 0 0, .slice none 0 0] 46)).drew.cell? ⟨(adn.add (q * 4)).block, (adn.add (q * 4)).off + 1, none⟩ = some (.slice A1 (nd s.nodes q).ints.length c1) := pw_cell_below HBA.out x1
      have x2d : wr.drew.cell? ⟨(adn.add (q * 4)).block, (adn.add (q * 4)).off + 2, none⟩ = some (.slice A2 (nd s.nodes q).texts.length c2) := x2
      have x2a : (wr.alloc (.cells #[.int .i64 0, .slice none 0 0, .slice none 0 0, .slice none 0 0] 46)).drew.cell? ⟨(adn.add (q * 4)).block, (adn.add (q * 4)).off + 2, none⟩ = some (.slice A2 (nd s.nodes q).texts.length c2) := pw_cell_below HBA.out x2
      have x3d : wr.drew.cell? ⟨(adn.add (q * 4)).block, (adn.add (q * 4)).off + 3, none⟩ = some (.slice A5 (nd s.nodes q).kids.length c5) := x3
      have x3a : (wr.alloc (.cells #[.int .i64 0, .slice none 0 0, .slice none 0 0, .slice none 0 0] 46)).drew.cell? ⟨(adn.add (q * 4)).block, (adn.add (q * 4)).off + 3, none⟩ = some (.slice A5 (nd s.nodes q).kids.length c5) := pw_cell_below HBA.out x3
      go_wp2
      go_region_held3 (fun W => W.cell? ⟨w.heap.size, 0, none⟩ = some (.slice (some adn) s.nodes.length c) ∧ W.cell? (adl.add i) = some (.int .i64 q) ∧ W.cell? (adn.add (q * 4)) = some (.int .i64 (nd s.nodes q).kind) ∧ W.cell? ⟨(adn.add (q * 4)).block, (adn.add (q * 4)).off + 1, none⟩ = some (.slice A1 (nd s.nodes q).ints.length c1) ∧ W.cell? ⟨(adn.add (q * 4)).block, (adn.add (q * 4)).off + 2, none⟩ = some (.slice A2 (nd s.nodes q).texts.length c2) ∧ W.cell? ⟨(adn.add (q * 4)).block, (adn.add (q * 4)).off + 3, none⟩ = some (.slice A5 (nd s.nodes q).kids.length c5))
        (first
          | (go_split_ands
             (repeat' apply And.intro)
             all_goals first
               | with_reducible assumption
               | with_reducible exact pw_cell_below hB (by assumption)
               | with_reducible exact pw_cell_below (below_alloc (Below.refl _ _) _) (pw_cell_below hB k0d)
               | with_reducible exact pw_cell_below (below_alloc (Below.refl _ _) _) (pw_cell_below hB z0d)
               | with_reducible exact pw_cell_below (below_alloc (Below.refl _ _) _) (pw_cell_below hB x0d)
               | with_reducible exact pw_cell_below (below_alloc (Below.refl _ _) _) (pw_cell_below hB x1d)
               | with_reducible exact pw_cell_below (below_alloc (Below.refl _ _) _) (pw_cell_below hB x2d)
               | with_reducible exact pw_cell_below (below_alloc (Below.refl _ _) _) (pw_cell_below hB x3d)
               | with_reducible exact far_set (far_set (far_set (far_set (by assumption) _ _ (by assumption) _) _ _ (by assumption) _) _ _ (by assumption) _) _ _ (by assumption) _
               | (simp [*]; done)))
        (first
          | (go_at_call 27; refine (rcopy_any (nd s.nodes q) A1 c1 A2 c2 A5 c5 wr.drew (HN.out.below (below_drew HW.out)) HSq.out).mono ?_; rintro e w6 ⟨_, rfl, ⟨v1, v2, v3, rfl, hM⟩, hB⟩; obtain ⟨v1', v2', v3', ev, hR1, hR2, hR3⟩ := kNode_openM hM; injection ev with _ ev; injection ev with e1 ev; injection ev with e2 ev; injection ev with e3 _; subst e1 e2 e3; obtain ⟨B1, d1, rfl⟩ := Kd.R_slice hR1; obtain ⟨B2, d2, rfl⟩ := Kd.R_slice hR2; obtain ⟨B3, d3, rfl⟩ := Kd.R_slice hR3)
          | (go_at_call 27; refine (rcopy_any (nd s.nodes q) A1 c1 A2 c2 A5 c5 (wr.alloc (.cells #[.int .i64 0, .slice none 0 0, .slice none 0 0, .slice none 0 0] 46)).drew (HN.out.below (below_step HW.out HBA.out)) HSq.out).mono ?_; rintro e w6 ⟨_, rfl, ⟨v1, v2, v3, rfl, hM⟩, hB⟩; obtain ⟨v1', v2', v3', ev, hR1, hR2, hR3⟩ := kNode_openM hM; injection ev with _ ev; injection ev with e1 ev; injection ev with e2 ev; injection ev with e3 _; subst e1 e2 e3; obtain ⟨B1, d1, rfl⟩ := Kd.R_slice hR1; obtain ⟨B2, d2, rfl⟩ := Kd.R_slice hR2; obtain ⟨B3, d3, rfl⟩ := Kd.R_slice hR3; have hb6 := (hB.block _ (blk_lt HBZ.out)).trans HBZ.out; have f0 := (blk_cell hb6 0).trans rfl; have f0f := blk_frozen hb6 0; have f1 := (blk_cell (blk_set hb6 0 (.int .i64 (nd s.nodes q).kind)) 1).trans rfl; have f1f := blk_frozen (blk_set hb6 0 (.int .i64 (nd s.nodes q).kind)) 1; have f2 := (blk_cell (blk_set (blk_set hb6 0 (.int .i64 (nd s.nodes q).kind)) 1 (.slice B1 (nd s.nodes q).ints.length d1)) 2).trans rfl; have f2f := blk_frozen (blk_set (blk_set hb6 0 (.int .i64 (nd s.nodes q).kind)) 1 (.slice B1 (nd s.nodes q).ints.length d1)) 2; have f3 := (blk_cell (blk_set (blk_set (blk_set hb6 0 (.int .i64 (nd s.nodes q).kind)) 1 (.slice B1 (nd s.nodes q).ints.length d1)) 2 (.slice B2 (nd s.nodes q).texts.length d2)) 3).trans rfl; have f3f := blk_frozen (blk_set (blk_set (blk_set hb6 0 (.int .i64 (nd s.nodes q).kind)) 1 (.slice B1 (nd s.nodes q).ints.length d1)) 2 (.slice B2 (nd s.nodes q).texts.length d2)) 3))
      have HK : Aside0 (KidB (findI l) (nd s.nodes q) (.slice B1 (nd s.nodes q).ints.length d1) (.slice B2 (nd s.nodes q).texts.length d2) (.slice B3 (nd s.nodes q).kids.length d3) 0 w6.heap.size wr (w6.alloc (.cells #[.int .i64 (nd s.nodes q).kind, .slice B1 (nd s.nodes q).ints.length d1, .slice B2 (nd s.nodes q).texts.length d2, .slice B3 (nd s.nodes q).kids.length d3] 46))) := ⟨⟨below_step ((below_drew (Below.refl _ _)).trans hB) (below_alloc (Below.refl _ _) _), hB.size, by simpa using heap_alloc_new w6 _, Kd.R_alloc hR1 _, Kd.R_alloc hR2 _, by rw [mapTake_zero]; exact Kd.R_alloc hR3 _⟩⟩
      clear hM hR1 hR2 hR3 hB k0 z0 x0 x1 x2 x3 k0d z0d x0d x1d x2d x3d k0a z0a x0a x1a x2a x3a n0 n1 n2
      generalize (w6.alloc (.cells #[.int .i64 (nd s.nodes q).kind, .slice B1 (nd s.nodes q).ints.length d1, .slice B2 (nd s.nodes q).texts.length d2, .slice B3 (nd s.nodes q).kids.length d3] 46)) = W7 at HK ⊢
      generalize w6.heap.size = g6 at HK ⊢
      rotate_left
      have HK : Aside0 (KidB (findI l) (nd s.nodes q) (.slice B1 (nd s.nodes q).ints.length d1) (.slice B2 (nd s.nodes q).texts.length d2) (.slice B3 (nd s.nodes q).kids.length d3) 0 wr.heap.size wr ((((w6.setCell ⟨wr.heap.size, 0, none⟩ (.int .i64 (nd s.nodes q).kind)).setCell ⟨wr.heap.size, 1, none⟩ (.slice B1 (nd s.nodes q).ints.length d1)).setCell ⟨wr.heap.size, 2, none⟩ (.slice B2 (nd s.nodes q).texts.length d2)).setCell ⟨wr.heap.size, 3, none⟩ (.slice B3 (nd s.nodes q).kids.length d3))) := ⟨by
        have hlt2 : wr.heap.size < (wr.alloc (.cells #[.int .i64 0, .slice none 0 0, .slice none 0 0, .slice none 0 0] 46)).drew.heap.size := by show _ < (wr.alloc _).heap.size; simp
        exact ⟨below_set4 (below_step HBA.out hB) (Nat.le_refl _), Nat.le_refl _, box4 hb6 _ _ _ _, Kd.R_lower (R_old4 hR1 hlt2 _ _ _ _) (Nat.le_of_lt hlt2), Kd.R_lower (R_old4 hR2 hlt2 _ _ _ _) (Nat.le_of_lt hlt2), by rw [mapTake_zero]; exact Kd.R_lower (R_old4 hR3 hlt2 _ _ _ _) (Nat.le_of_lt hlt2)⟩⟩
      clear hM hR1 hR2 hR3 hB k0 z0 x0 x1 x2 x3 k0d z0d x0d x1d x2d x3d k0a z0a x0a x1a x2a x3a n0 n1 n2 hb6 f0 f0f f1 f1f f2 f2f f3 f3f
      generalize ((((w6.setCell ⟨wr.heap.size, 0, none⟩ (.int .i64 (nd s.nodes q).kind)).setCell ⟨wr.heap.size, 1, none⟩ (.slice B1 (nd s.nodes q).ints.length d1)).setCell ⟨wr.heap.size, 2, none⟩ (.slice B2 (nd s.nodes q).texts.length d2)).setCell ⟨wr.heap.size, 3, none⟩ (.slice B3 (nd s.nodes q).kids.length d3)) = W7 at HK ⊢
      generalize hg6 : wr.heap.size = g6 at HK ⊢
      all_goals
        obtain ⟨W0, hW0⟩ : ∃ W, W = wr := ⟨_, rfl⟩
        have HW0 := Aside0.mk hW0
        rw [← hW0] at HI HK HW
        have hkl : (nd s.nodes q).kids.length ≤ 1000000 := HSq.out.2.2
        clear hW0 HBZ HBA
        go_wp2
        go_loopw [7] (fun v7 W => ∃ j : Nat, j ≤ (nd s.nodes q).kids.length ∧ v7 = .int .i64 j ∧ Aside0 (KidB (findI l) (nd s.nodes q) (.slice B1 (nd s.nodes q).ints.length d1) (.slice B2 (nd s.nodes q).texts.length d2) (.slice B3 (nd s.nodes q).kids.length d3) j g6 W0 W)) (fun v7 _ => (nd s.nodes q).kids.length - (intOf v7).toNat)
        case atStart => exact ⟨0, by omega, rfl, HK⟩
        case round =>
          clear HK
          obtain ⟨j, hj, rfl, HJ⟩ := hrel
          have hq3 : wr.cell? ⟨g6, 3, none⟩ = some (.slice B3 (nd s.nodes q).kids.length d3) := (blk_cell HJ.out.box 3).trans rfl
          by_cases hjl : j < (nd s.nodes q).kids.length
          · obtain ⟨g7, c7', hv, -⟩ := Kd.R_form HJ.out.r3 (by rw [mapTake_len]; omega)
            injection hv with hA hmm hcc
            clear hmm
            subst hA hcc
            obtain ⟨s1, s2, s3, -⟩ := HJ.out.set hjl
            have HLs := Aside0.mk (Kd.C_below HV.out.2.2 (below_step HI.out.below HJ.out.below))
            go_wp2
            go_region_with (first
                | (go_at_call 31; refine (find_C (some adl) c3 l (rd (nd s.nodes q).kids (j : Int)) _ (Kd.C_drew HLs.out) hlc hl).mono ?_; rintro e w8 ⟨rfl, ⟨nn, rfl⟩⟩; obtain ⟨t1, t2, -, t4⟩ := (HJ.out.drewN (1 + nn)).set hjl))
            all_goals
              have HS4 := Aside0.mk t4
              clear t1 t2 t4 s1 s2 hq3
              go_wp2
              go_roundw
              case rel => exact ⟨j + 1, by omega, by go_num, HS4⟩
              case measure => simp [intOf]; omega
          · obtain rfl : j = (nd s.nodes q).kids.length := by omega
            have HI7 := Aside0.mk (HI.out.later HJ.out.below)
            have q0 := (blk_cell HJ.out.box 0).trans rfl
            have q1 := (blk_cell HJ.out.box 1).trans rfl
            have q2 := (blk_cell HJ.out.box 2).trans rfl
            have o0 := (blk_cell HI7.out.out 0).trans rfl
            have hsz1 := HI.out.below.size
            have HMk := Aside0.mk (node_off (n := ⟨(nd s.nodes q).kind, (nd s.nodes q).ints, (nd s.nodes q).texts, (nd s.nodes q).kids.map (findI l)⟩) (Kd.R_lower HJ.out.r1 hsz1) (Kd.R_lower HJ.out.r2 hsz1) (Kd.R_lower (by have h := HJ.out.r3; rw [mapTake_all] at h; exact h) hsz1) HI7.out.row)
            have hlnx : ((refCanL s.nodes l).take i).length ≤ 1000000 := by rw [List.length_take, refN_len]; omega
            have hln : ((refCanL s.nodes l).take (i + 1)).length = i + 1 := by rw [List.length_take, refN_len]; omega
            go_wp2_with (at_builtin; refine Kd.R_append kNode (w0 := w1) w1.heap.size rfl (.tmp 48) (.tmp 50) 22 46 (.agg #[.int .i64 0, .slice none 0 0, .slice none 0 0, .slice none 0 0]) 80 rfl Tryd.underlying22 info_nodez rfl (by decide) (by omega) (.slice A4 i c4) ((refCanL s.nodes l).take i) ⟨(nd s.nodes q).kind, (nd s.nodes q).ints, (nd s.nodes q).texts, (nd s.nodes q).kids.map (findI l)⟩ [.int .i64 (nd s.nodes q).kind, .slice B1 (nd s.nodes q).ints.length d1, .slice B2 (nd s.nodes q).texts.length d2, .slice B3 (nd s.nodes q).kids.length d3] (fun _ => True) (fun k => some k ≠ (Value.slice A4 i c4).ownBlock) rfl (by go_simp) HMk.out (fun k hk => ⟨trivial, hk⟩) (fun _ _ => trivial) HI7.out.row HI7.out.below HI7.out.below.size (by omega) ?_; intro v5 w8 hR8 hB8 hg8 hat8; rw [← HRN.out] at hR8; obtain ⟨A5', c5', rfl⟩ := Kd.R_slice hR8; rw [hln] at hR8 ⊢; obtain ⟨hb8, hN8⟩ := HI7.out.put hR8 hB8 hg8; have HN8 := Aside0.mk hN8; have y0 := (blk_cell hb8 0).trans rfl; have y0f := blk_frozen hb8 0; clear hR8 hB8 hg8 hat8 hN8 q0 q1 q2 o0 hq3)
            go_roundw
            case rel => exact ⟨i + 1, by omega, by go_num, A5', c5', HN8⟩
            case measure => simp [intOf]; omega
    · obtain rfl : i = l.length := by omega
      have hlall : (refCanL s.nodes l).take l.length = refCanL s.nodes l := List.take_of_length_le (Nat.le_of_eq (refN_len _ _))
      have o0 := (blk_cell HI.out.out 0).trans rfl
      have o1 := (blk_cell HI.out.out 1).trans rfl
      have hres := (HI.out.below.block _ (blk_lt HL1.out)).trans HL1.out
      have l0 := (blk_cell hres 0).trans rfl
      have l0f := blk_frozen hres 0
      have l1 := (blk_cell (blk_set hres 0 (.slice A4 l.length c4)) 1).trans rfl
      have l1f := blk_frozen (blk_set hres 0 (.slice A4 l.length c4)) 1
      go_wp2
      have h2 := And.intro ((blk_cell (box2 hres (.slice A4 l.length c4) (.int .i64 ((l.length : Int) - 1))) 0).trans rfl) ((blk_cell (box2 hres (.slice A4 l.length c4) (.int .i64 ((l.length : Int) - 1))) 1).trans rfl)
      have hRR := Kd.R_lower (R_type (R_type HI.out.row hres (by decide) (.slice A4 l.length c4) 0) (blk_set hres 0 _) (by decide) (.int .i64 ((l.length : Int) - 1)) 1) HB1.out.size
      rw [hlall] at hRR
      exact bodyPost_ret (v := .agg #[.slice A4 l.length c4, .int .i64 ((l.length : Int) - 1)]) (by simp [results, Tryd.results30, go_sem, h2]) rfl
        ⟨A4, c4, by rw [refN_len], by rw [refN_len]; exact hRR, below_set2 (below_step HB1.out HI.out.below) (by omega)⟩
end Go.Proofs.YtggldnbhmebcpaaDoor.L
end
section
namespace Go.Proofs.YtggldnbhmebcpaaDoor.L
open Go.RowKit Go.ChangeShapes Go.WideShapes Go.Proofs.YtggldnbhmebcpaaDoorW.PrintWords Go.Proofs.YtggldnbhmebcpaaDoorW.PrintLast Go.Proofs.YtggldnbhmebcpaaDoorW.PrintMore
attribute [local go_sem] max2_int min2_int max_two min_two max_three min_three max_four min_four
theorem nd_mem' (l : List Node) (k : Nat) (hk : k < l.length) : nd l k ∈ l := by
  unfold nd
  rw [List.getD_eq_getElem?_getD, List.getElem?_eq_getElem hk]
  exact List.getElem_mem hk
theorem isC_not {s : Scene} (h : rightB s = false) : isC s = false := by
  refine Bool.eq_false_iff.2 fun hc => ?_
  have h1 := gcheck_right.2 (isC_right hc)
  unfold rightB at h
  rw [h1] at h
  simp at h
set_option maxRecDepth 100000 in
set_option maxHeartbeats 4000000 in
theorem ris_any (A : Option Addr) (c : Nat) (s : Scene) (w : World) (h : kNode.C w A s.nodes.length s.nodes) (hc : s.nodes.length ≤ c) (hM : rows s.nodes ≤ 400000) (hS : ∀ i : Nat, i < s.nodes.length → Small (nd s.nodes i)) :
    Calls Tryd.prog 12 #[.agg #[.slice A s.nodes.length c, .int .i64 s.root]] w fun e w' => e = .returned (.bool (isC s)) ∧ Below w.heap.size w w' := by
  have HR := Aside0.mk h
  have HSm := Aside0.mk hS
  have HM := Aside0.mk hM
  have HCc := Aside0.mk hc
  have HB := Aside0.mk (below_alloc (Below.refl w.heap.size w) (.cells #[.slice A s.nodes.length c, .int .i64 s.root] 24))
  have k0 := box_cell w _ rfl #[.slice A s.nodes.length c, .int .i64 s.root] 24 0 (.slice A s.nodes.length c) rfl
  have k1 := box_cell w _ rfl #[.slice A s.nodes.length c, .int .i64 s.root] 24 1 (.int .i64 s.root) rfl
  have hu := Tryd.underlying24
  clear h hS hM hc
  cases hr : rightB s with
  | false =>
    have HI := Aside0.mk (isC_not hr)
    have HRb := Aside0.mk hr
    clear hr
    go_enter Tryd.func12, Tryd.ntmps12
    go_wp2
    go_region_with (first
        | (go_at_call 28; refine (rright_any A c s _ (Kd.C_drew (Kd.C_below HR.out HB.out)) HCc.out (by have := HM.out; omega)).mono ?_; rw [HRb.out]; rintro e w7 ⟨rfl, hB⟩; have HB7 := Aside0.mk (below_step (below_drew HB.out) hB); clear hB))
    all_goals
      clear k0 k1
      go_wp2
      go_ret
      exact ⟨ret_bool HI.out.symm, HB7.out⟩
  | true =>
    have hR : Right s := gcheck_right.1 (by unfold rightB at hr; simpa using hr)
    have HRt := Aside0.mk hR
    have HRb := Aside0.mk hr
    have HI := Aside0.mk (show sameS ⟨canonL s, (s.nodes.length : Int) - 1⟩ s = isC s from by
      cases hic : isC s with
      | true => exact sameS_yes ((isC_iff hR).1 hic)
      | false => exact sameS_no (fun e => by rw [(isC_iff hR).2 e] at hic; cases hic))
    have HCn := Aside0.mk (show (⟨refCanL s.nodes (ord s), ((ord s).length : Int) - 1⟩ : Scene) = ⟨canonL s, (s.nodes.length : Int) - 1⟩ from by rw [refCan_eq hR.dag ⟨hR.r0, hR.r1⟩, ord_len hR])
    have HOl := Aside0.mk (ord_len hR)
    have HSc := Aside0.mk (show ∀ i : Nat, i < (canonL s).length → Small (nd (canonL s) i) from fun i hi => by
      have hm := nd_mem' (canonL s) i hi
      generalize nd (canonL s) i = x at hm
      obtain ⟨q, hq, rfl⟩ := List.mem_map.1 hm
      have hpl := ord_pl hR q hq
      have h1 := HSm.out q.toNat (by have := hpl.1; have := hpl.2; omega)
      exact ⟨h1.1, h1.2.1, by show (List.map _ _).length ≤ _; rw [List.length_map]; exact h1.2.2⟩)
    have hnl := Aside0.mk (len_rows s.nodes)
    clear hr hR
    go_enter Tryd.func12, Tryd.ntmps12
    go_wp2
    go_region_with (first
        | (go_at_call 28; refine (rright_any A c s _ (Kd.C_drew (Kd.C_below HR.out HB.out)) HCc.out (by have := HM.out; omega)).mono ?_; rw [HRb.out]; rintro e w7 ⟨rfl, hB⟩; have k07 := pw_cell_below hB (show World.cell? (World.drew _) _ = _ from k0); have k17 := pw_cell_below hB (show World.cell? (World.drew _) _ = _ from k1); have HB7 := Aside0.mk (below_step (below_drew HB.out) hB); clear hB)
        | (go_at_call 30; refine (rcanon_any A c s (ord s) _ w7 (Kd.C_below HR.out HB7.out) HCc.out HSm.out (order_f HRt.out.dag ⟨HRt.out.r0, HRt.out.r1⟩ (by have := HM.out; omega)) (by have := HM.out; have := hnl.out; have := HOl.out; omega) (ord_met' HRt.out.dag ⟨HRt.out.r0, HRt.out.r1⟩).shut.pl).mono ?_; rw [HCn.out]; rintro e w8 ⟨B2, d2, rfl, hR2, hB⟩; have k08 := pw_cell_below hB k07; have k18 := pw_cell_below hB k17; have HC8 := Aside0.mk (Kd.R_reads' hR2).2.2; have HB8 := Aside0.mk (below_step HB7.out hB); clear hB hR2)
        | (go_at_call 29; refine (sameS_any B2 d2 ⟨canonL s, (s.nodes.length : Int) - 1⟩ A c s w8 HC8.out (Kd.C_below HR.out HB8.out) HSc.out).mono ?_; rw [HI.out]; rintro e w9 ⟨rfl, hB⟩; have HB9 := Aside0.mk (below_step HB8.out hB); clear hB))
    all_goals
      clear k0 k1 k07 k17 k08 k18
      go_wp2
      go_ret
      exact ⟨rfl, HB9.out⟩
end Go.Proofs.YtggldnbhmebcpaaDoor.L
end
