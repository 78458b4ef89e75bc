/- Part 3 of the texts that the rows of this seat rest on, joined by a program: what its functions come to. Conditions: those that each theorem states. -/
import Derived.Test.YtdfneldenipljaaDoorQfb
import Derived.Lib.AppendIntMem
import Derived.Lib.LaidTab
import Derived.Lib.ItoaLen
import Derived.Lib.UnsafeStr
import Derived.StringKeys
import Derived.Test.YtdfneldenipljaaDoorProg
import Derived.Below
import Derived.Deep.Draws
import Derived.Deep.AppendLies
import Derived.Maps.AppendAt
import Derived.OwnWalk
import Derived.Laws.BytesArg
import Derived.Laws.MakeOwn
import Derived.Laws.OwnMore
import Derived.Deep.OwnRows
import Derived.Tactics
import Derived.Lib.ConvBytes
import Derived.Laws.Slices
import Derived.WalkKit
import Derived.KernelRfl
import Derived.RowKit3
import Derived.Deep.LoopGhost
import Derived.Deep.QuietTactic
import Derived.BigQuiet
import Derived.WideLaws
import Derived.Deep.DeepCutAuto
import Derived.Deep.CutBlock
import Derived.Deep.RegionHeld3
import Derived.Laws.Rows
import Derived.Lib.AppendStr
import Derived.ArgAppend
import Derived.Laws.IdiomCopy
import Derived.OrdersHeld
import Derived.Laws.BitsLemmas
import Derived.RowKit
set_option linter.unusedVariables false
set_option linter.unusedSimpArgs false
section
namespace Go.Proofs.YtdfneldenipljaaDoor.L
open Go.RowKit Go.ChangeShapes Go.WideShapes Go.Proofs.YtdfneldenipljaaDoorW.PrintWords Go.Proofs.YtdfneldenipljaaDoorW.PrintLast Go.Proofs.YtdfneldenipljaaDoorW.PrintMore
attribute [local go_sem] max2_int min2_int max_two min_two max_three min_three max_four min_four
structure QTabs (T : Lib.PrintTabs) (w : World) : Prop where
  utf : Tabs w
  prt : Lib.PrintTabsAt 5 6 7 8 T w
  pow : Lib.TabIs Tryd.prog w "internal/strconv.uint64pow10" .u64 Lib.pow10Tab
theorem tabSlice_below {g : Nat} {k : IntKind} {t : List Nat} {w w' : World} (h : Lib.TabSlice g k t w) (hb : Below w.heap.size w w') : Lib.TabSlice g k t w' := by
  obtain ⟨R, o, c, h1, h2⟩ := h
  exact ⟨R, o, c, pw_cell_below hb h1, fun j hj => pw_cell_below hb (h2 j hj)⟩
theorem QTabs.below {T : Lib.PrintTabs} {w w' : World} (h : QTabs T w) (hb : Below w.heap.size w w') : QTabs T w' := by
  obtain ⟨a, b, c, d, e⟩ := h.prt
  exact ⟨h.utf.below hb, ⟨tabSlice_below a hb, tabSlice_below b hb, tabSlice_below c hb, tabSlice_below d hb, e⟩, Lib.tabBelow_of_tabIs h.pow w' hb⟩
def I64 (x : Int) : Prop := -9223372036854775808 ≤ x ∧ x ≤ 9223372036854775807
structure NBd (n : Node) : Prop where
  kind : I64 n.kind
  ints : ∀ x ∈ n.ints, I64 x
theorem itoa_any (T : Lib.PrintTabs) (x : Int) (w : World) (hx : I64 x) (hT : QTabs T w) : Calls Tryd.prog 52 #[.int .i64 x] w fun e w' => e = .returned (.string ⟨(Lib.itoa x).toArray⟩) ∧ Below w.heap.size w w' := by
  refine (Tryd.strconv_Itoa x hx.1 hx.2 w hT.pow).mono ?_
  rintro e w' ⟨rfl, k, os, rfl⟩
  exact ⟨rfl, Lib.below_grow _ w (Nat.le_refl _) k os⟩
theorem fint_any (T : Lib.PrintTabs) (x : Int) (w : World) (hx : I64 x) (hT : QTabs T w) : Calls Tryd.prog 53 #[.int .i64 x, .int .i64 10] w fun e w' => e = .returned (.string ⟨(Lib.itoa x).toArray⟩) ∧ Below w.heap.size w w' := by
  refine (Tryd.strconv_FormatInt_10 x hx.1 hx.2 w hT.pow).mono ?_
  rintro e w' ⟨rfl, k, os, rfl⟩
  exact ⟨rfl, Lib.below_grow _ w (Nat.le_refl _) k os⟩
theorem quote_any (T : Lib.PrintTabs) (s : ByteArray) (w : World) (hs : s.size ≤ 1000000) (hT : QTabs T w) : Calls Tryd.prog 54 #[.string s] w fun e w' => e = .returned (.string ⟨(qB T s).toArray⟩) ∧ Below w.heap.size w w' := by
  refine (Tryd.strconv_Quote T s w (by omega) hT.prt hT.utf).mono ?_
  rintro e w' ⟨rfl, hb⟩
  exact ⟨rfl, hb⟩
theorem qB_len (T : Lib.PrintTabs) (s : ByteArray) : (qB T s).length ≤ 10 * s.size + 2 := by
  unfold qB
  rw [Lib.bytesOf_length]
  exact Lib.quoteZ_length_le T s
theorem itoa_len {x : Int} (h : I64 x) : (Lib.itoa x).length ≤ 21 := Lib.itoa_length_le x h.1 h.2
theorem wNums_len {l : List Int} (h : ∀ x ∈ l, I64 x) : (wNums l).length ≤ l.length * 22 := by
  induction l with
  | nil => exact Nat.zero_le _
  | cons v l ih =>
    have h1 := ih (fun x hx => h x (by simp [hx]))
    have h2 := itoa_len (h v (by simp))
    have e : wNums (v :: l) = 32 :: (Lib.itoa v ++ wNums l) := rfl
    rw [e, List.length_cons, List.length_append, List.length_cons, Nat.succ_mul]
    omega
theorem wTexts_len (T : Lib.PrintTabs) {l : List ByteArray} (h : ∀ x ∈ l, x.size ≤ 1000000) : (wTexts T l).length ≤ l.length * 10000003 := by
  induction l with
  | nil => exact Nat.zero_le _
  | cons v l ih =>
    have h1 := ih (fun x hx => h x (by simp [hx]))
    have h2 := qB_len T v
    have h3 := h v (by simp)
    have e : wTexts T (v :: l) = 32 :: (qB T v ++ wTexts T l) := rfl
    rw [e, List.length_cons, List.length_append, List.length_cons, Nat.succ_mul]
    omega
structure WRel (b : Nat) (w0 : World) (l : List UInt8) (W : World) : Prop where
  is : Lib.IsBuilder 70 5 b b (Lib.byteCells l) W
  below : Below b w0 W
  ge : b ≤ W.heap.size
theorem WRel.later {b : Nat} {w0 W W1 : World} {l : List UInt8} (h : WRel b w0 l W) (hb : Below W.heap.size W W1) : WRel b w0 l W1 := by
  have key : ∀ {p : Value}, Lib.BuilderAt 70 5 b b p (Lib.byteCells l) W → Lib.BuilderAt 70 5 b b p (Lib.byteCells l) W1 := by
    rintro p ⟨h1, v, h2, h3, h4⟩
    refine ⟨h1, v, (hb.block b (blk_lt h2)).trans h2, h3.kept (row := none) ⟨hb.os, hb.tape, hb.output, hb.size, fun i hi _ => hb.block i hi⟩ ?_, h4⟩
    cases v.ownBlock with
    | none => exact .inl rfl
    | some k => exact .inr (by simp)
  refine ⟨?_, h.below.trans (hb.mono h.ge), Nat.le_trans h.ge hb.size⟩
  rcases h.is with h | h
  · exact .inl (key h)
  · exact .inr (key h)
theorem WRel.wrote {b : Nat} {w0 W W1 : World} {l m : List UInt8} {s : ByteArray} (h : WRel b w0 l W) (hs : s.data.toList = m) (h1 : Lib.BuilderAt 70 5 b b (.pointer (some ⟨b, 0, none⟩)) (Lib.byteCells l ++ Lib.strCells s) W1) (hb : Below b W W1) : WRel b w0 (l ++ m) W1 := by
  refine ⟨.inr ?_, h.below.trans hb, Nat.le_trans h.ge hb.size⟩
  rw [Lib.strCells_eq, hs] at h1
  rwa [show Lib.byteCells (l ++ m) = Lib.byteCells l ++ Lib.byteCells m from List.map_append]
theorem WRel.lt {b : Nat} {w0 W : World} {l : List UInt8} (h : WRel b w0 l W) : b < W.heap.size := by
  rcases h.is with h | h <;> exact h.lt
theorem M_slicesW {W : World} {B : Nat} {m : Node} {v1 v2 v3 : Value} (h : kNode.M W B (fun _ => True) m [.int .i64 m.kind, v1, v2, v3]) : ∃ A1 c1 A2 c2 A3 c3, v1 = .slice A1 m.ints.length c1 ∧ v2 = .slice A2 m.texts.length c2 ∧ v3 = .slice A3 m.kids.length c3 := by
  obtain ⟨x1, x2, x3, e, h1, h2, h3⟩ := kNode_openM h
  injection e with _ e
  injection e with e1 e
  injection e with e2 e
  injection e with e3 _
  subst e1 e2 e3
  obtain ⟨A1, c1, r1⟩ := Kd.R_slice h1
  obtain ⟨A2, c2, r2⟩ := Kd.R_slice h2
  obtain ⟨A3, c3, r3⟩ := Kd.R_slice h3
  exact ⟨A1, c1, A2, c2, A3, c3, r1, r2, r3⟩
end Go.Proofs.YtdfneldenipljaaDoor.L
end
section
namespace Go.Proofs.YtdfneldenipljaaDoor.L
open Go.RowKit Go.ChangeShapes Go.WideShapes Go.Proofs.YtdfneldenipljaaDoorW.PrintWords Go.Proofs.YtdfneldenipljaaDoorW.PrintLast Go.Proofs.YtdfneldenipljaaDoorW.PrintMore
attribute [local go_sem] max2_int min2_int max_two min_two max_three min_three max_four min_four
theorem wTexts_snoc (T : Lib.PrintTabs) (l : List ByteArray) (x : ByteArray) : wTexts T (l ++ [x]) = wTexts T l ++ 32 :: qB T x := by simp [wTexts]
end Go.Proofs.YtdfneldenipljaaDoor.L
end
section
namespace Go.Proofs.YtdfneldenipljaaDoor.L
open Go.RowKit Go.ChangeShapes Go.WideShapes Go.Proofs.YtdfneldenipljaaDoorW.PrintWords Go.Proofs.YtdfneldenipljaaDoorW.PrintLast Go.Proofs.YtdfneldenipljaaDoorW.PrintMore
attribute [local go_sem] max2_int min2_int max_two min_two max_three min_three max_four min_four
set_option maxRecDepth 100000 in
set_option maxHeartbeats 8000000 in
theorem uword_any (T : Lib.PrintTabs) (n : Node) (A1 : Option Addr) (c1 : Nat) (A2 : Option Addr) (c2 : Nat) (A3 : Option Addr) (c3 : Nat) (w : World) (h : NodeC w n A1 c1 A2 c2 A3 c3) (hs : Small n) (hts : ∀ x ∈ n.texts, x.size ≤ 1000000) (hn : NBd n)
    (hk : ∀ k ∈ n.kids, I64 k) (hT : QTabs T w) :
    Calls Tryd.prog 59 #[.agg #[.int .i64 n.kind, .slice A1 n.ints.length c1, .slice A2 n.texts.length c2, .slice A3 n.kids.length c3]] w fun e w' => e = .returned (.string ⟨(wordL T n.kind n.ints n.texts n.kids).toArray⟩) ∧ Below w.heap.size w w' := by
  have HN := Aside0.mk h
  have HS := Aside0.mk hs
  have HTS := Aside0.mk hts
  have HB := Aside0.mk hn
  have HK := Aside0.mk hk
  have HT := Aside0.mk hT
  have hun := Tryd.underlying52
  have hub := Tryd.underlying70
  clear h hs hts hn hk hT
  go_enter Tryd.func59, Tryd.ntmps59
  go_wp2_with fail
  have hA2 := below_alloc (Below.refl w.heap.size w) (.cells #[.int .i64 n.kind, .slice A1 n.ints.length c1, .slice A2 n.texts.length c2, .slice A3 n.kids.length c3] 52)
  have y1 := box_cell w _ rfl #[.int .i64 n.kind, .slice A1 n.ints.length c1, .slice A2 n.texts.length c2, .slice A3 n.kids.length c3] 52 1 (.slice A1 n.ints.length c1) rfl
  have y2 := box_cell w _ rfl #[.int .i64 n.kind, .slice A1 n.ints.length c1, .slice A2 n.texts.length c2, .slice A3 n.kids.length c3] 52 2 (.slice A2 n.texts.length c2) rfl
  have y3 := box_cell w _ rfl #[.int .i64 n.kind, .slice A1 n.ints.length c1, .slice A2 n.texts.length c2, .slice A3 n.kids.length c3] 52 3 (.slice A3 n.kids.length c3) rfl
  have HN2 := Aside0.mk (HN.out.below hA2)
  have HB2 := Aside0.mk hA2
  have HT2 := Aside0.mk (HT.out.below hA2)
  have hgx : w.heap.size + 1 = (w.alloc (.cells #[.int .i64 n.kind, .slice A1 n.ints.length c1, .slice A2 n.texts.length c2, .slice A3 n.kids.length c3] 52)).heap.size := by simp
  have HGx := Aside0.mk hgx
  rw [hgx]
  clear HN HT hA2 hgx
  generalize w.alloc (.cells #[.int .i64 n.kind, .slice A1 n.ints.length c1, .slice A2 n.texts.length c2, .slice A3 n.kids.length c3] 52) = w2 at HN2 HB2 HT2 HGx y1 y2 y3 ⊢
  generalize w.heap.size = gx at HGx y1 y2 y3 ⊢
  have HW2 : Aside0 (WRel w2.heap.size w2 [] (w2.alloc (.cells #[.pointer none, .slice none 0 0] 70))) :=
    ⟨Lib.fresh_isBuilder 70 5 w2, below_alloc (Below.refl _ _) _, by simp⟩
  have Y1 : ∀ W, Below w2.heap.size w2 W → W.cell? ⟨gx, 1, none⟩ = some (.slice A1 n.ints.length c1) := fun W h => pw_cell_below h y1
  have Y2 : ∀ W, Below w2.heap.size w2 W → W.cell? ⟨gx, 2, none⟩ = some (.slice A2 n.texts.length c2) := fun W h => pw_cell_below h y2
  have Y3 : ∀ W, Below w2.heap.size w2 W → W.cell? ⟨gx, 3, none⟩ = some (.slice A3 n.kids.length c3) := fun W h => pw_cell_below h y3
  have HY1 := Aside0.mk Y1
  have HY2 := Aside0.mk Y2
  have HY3 := Aside0.mk Y3
  clear y1 y2 y3 Y1 Y2 Y3
  have HLi := Aside0.mk (itoa_len HB.out.kind)
  refine (itoa_any T n.kind _ HB.out.kind (HT2.out.below (below_alloc (Below.refl _ _) _))).mono ?_
  rintro e w3 ⟨rfl, hB3⟩
  have HW3 := Aside0.mk (HW2.out.later hB3)
  clear HW2 hB3
  go_wp2_with fail
  refine (wstr_any _ _ _ _ _ HW3.out.is (by rw [Lib.byteCells_length]; show 0 + (Lib.itoa n.kind).length ≤ _; have := HLi.out; omega) HW3.out.ge).mono ?_
  rintro e w4 ⟨rfl, hw4, hB4⟩
  have HW4 := Aside0.mk (HW3.out.wrote (m := Lib.itoa n.kind) rfl hw4 hB4)
  have x1 := HY1.out _ HW4.out.below
  clear HW3 hw4 hB4
  go_wp2
  clear x1
  go_loopw [17] (fun v22 W => ∃ i : Nat, i ≤ n.ints.length ∧ v22 = .int .i64 i ∧ Aside0 (WRel w2.heap.size w2 (Lib.itoa n.kind ++ wNums (n.ints.take i)) W)) (fun v22 _ => n.ints.length - (intOf v22).toNat)
  case atStart => exact ⟨0, by omega, rfl, by rw [List.take_zero]; exact ⟨by have := HW4.out; simpa [wNums] using this⟩⟩
  case round =>
    clear HW4
    obtain ⟨i, hi, rfl, HI⟩ := hrel
    have hil : n.ints.length ≤ 1000000 := HS.out.1
    by_cases hlt : i < n.ints.length
    · obtain ⟨ad, rfl, z0⟩ := at_nat (HN2.out.below HI.out.below).i i hlt
      have HX := Aside0.mk (HB.out.ints _ (rd_mem hlt))
      have HLx := Aside0.mk (itoa_len HX.out)
      have HTk := Aside0.mk (show wNums (n.ints.take (i + 1)) = wNums (n.ints.take i) ++ 32 :: Lib.itoa (rd n.ints (i : Int)) from by rw [take_succ_rd hlt]; simp [wNums])
      have HLp := Aside0.mk (wNums_len (l := n.ints.take i) (fun x hx => HB.out.ints x (List.mem_of_mem_take hx)))
      generalize rd n.ints (i : Int) = x at z0 HX HLx HTk
      have hlx := HLx.out
      go_wp2_with fail
      refine (fint_any T x _ HX.out (HT2.out.below HI.out.below)).mono ?_
      rintro e w6 ⟨rfl, hB6⟩
      have HW6 := Aside0.mk (HI.out.later hB6)
      clear hB6 z0
      go_wp2_with fail
      refine (wstr_any _ _ _ _ _ HW6.out.is (by
        rw [Lib.byteCells_length, List.length_append]
        have h1 := HLi.out
        have h2 := HLp.out
        have h3 : (n.ints.take i).length ≤ 1000000 := by rw [List.length_take]; omega
        have h4 : (⟨#[32]⟩ ++ ⟨(Lib.itoa x).toArray⟩ : ByteArray).size = 1 + (Lib.itoa x).length := by rw [ByteArray.size_append]; rfl
        rw [h4]; omega) HW6.out.ge).mono ?_
      rintro e w7 ⟨rfl, hw7, hB7⟩
      have HW7 := Aside0.mk (HW6.out.wrote (m := 32 :: Lib.itoa x) (by simp) hw7 hB7)
      clear HW6 hw7 hB7
      rw [List.append_assoc, ← HTk.out] at HW7
      go_wp2
      go_roundw
      case rel => exact ⟨i + 1, by omega, by go_num, HW7⟩
      case measure => simp [intOf]; omega
    · obtain rfl : i = n.ints.length := by omega
      rw [List.take_length] at HI
      have x2 := HY2.out _ HI.out.below
      have HLp := Aside0.mk (wNums_len (l := n.ints) HB.out.ints)
      clear hlt hi
      go_wp2
      clear x2
      go_loopw [29] (fun v34 W => ∃ i : Nat, i ≤ n.texts.length ∧ v34 = .int .i64 i ∧ Aside0 (WRel w2.heap.size w2 (Lib.itoa n.kind ++ (wNums n.ints ++ wTexts T (n.texts.take i))) W)) (fun v34 _ => n.texts.length - (intOf v34).toNat)
      case atStart => exact ⟨0, by omega, rfl, by rw [List.take_zero]; exact ⟨by have := HI.out; simpa [wTexts] using this⟩⟩
      case round =>
        clear HI
        obtain ⟨i, hi, rfl, HI⟩ := hrel
        have htl : n.texts.length ≤ 1000000 := HS.out.2.1
        by_cases hlt : i < n.texts.length
        · obtain ⟨ad, rfl, z0⟩ := at_str (HN2.out.below HI.out.below).t i hlt
          have HX := Aside0.mk (show (str n.texts i).size ≤ 1000000 from HTS.out _ (by
            have : str n.texts i = n.texts[i] := by unfold str; rw [List.getD_eq_getElem?_getD, List.getElem?_eq_getElem hlt]; rfl
            rw [this]; exact List.getElem_mem hlt))
          have HTk := Aside0.mk (show wTexts T (n.texts.take (i + 1)) = wTexts T (n.texts.take i) ++ 32 :: qB T (str n.texts i) from by
            have : str n.texts i = n.texts[i] := by unfold str; rw [List.getD_eq_getElem?_getD, List.getElem?_eq_getElem hlt]; rfl
            rw [List.take_succ_eq_append_getElem hlt, this, wTexts_snoc])
          have HLt := Aside0.mk (wTexts_len T (l := n.texts.take i) (fun x hx => HTS.out x (List.mem_of_mem_take hx)))
          generalize str n.texts i = x at z0 HX HTk
          have hlx := qB_len T x
          have hx1 := HX.out
          go_wp2_with fail
          refine (quote_any T x _ HX.out (HT2.out.below HI.out.below)).mono ?_
          rintro e w6 ⟨rfl, hB6⟩
          have HW6 := Aside0.mk (HI.out.later hB6)
          clear hB6 z0
          go_wp2_with fail
          refine (wstr_any _ _ _ _ _ HW6.out.is (by
            rw [Lib.byteCells_length, List.length_append, List.length_append]
            have h1 := HLi.out
            have h2 := HLp.out
            have h2' := HLt.out
            have h5 : n.ints.length ≤ 1000000 := HS.out.1
            have h3 : (n.texts.take i).length ≤ 1000000 := by rw [List.length_take]; omega
            have h4 : (⟨#[32]⟩ ++ ⟨(qB T x).toArray⟩ : ByteArray).size = 1 + (qB T x).length := by rw [ByteArray.size_append]; rfl
            rw [h4]; omega) HW6.out.ge).mono ?_
          rintro e w7 ⟨rfl, hw7, hB7⟩
          have HW7 := Aside0.mk (HW6.out.wrote (m := 32 :: qB T x) (by simp) hw7 hB7)
          clear HW6 hw7 hB7
          rw [List.append_assoc, List.append_assoc, ← HTk.out] at HW7
          go_wp2
          go_roundw
          case rel => exact ⟨i + 1, by omega, by go_num, HW7⟩
          case measure => simp [intOf]; omega
        · obtain rfl : i = n.texts.length := by omega
          rw [List.take_length] at HI
          have HLt := Aside0.mk (wTexts_len T (l := n.texts) HTS.out)
          clear hlt hi
          go_wp2_with fail
          refine (wstr_any _ _ _ _ _ HI.out.is (by
            rw [Lib.byteCells_length, List.length_append, List.length_append]
            have h1 := HLi.out
            have h2 := HLp.out
            have h2' := HLt.out
            have h5 : n.ints.length ≤ 1000000 := HS.out.1
            show _ + 2 ≤ _
            omega) HI.out.ge).mono ?_
          rintro e w8 ⟨rfl, hw8, hB8⟩
          have HW8 := Aside0.mk (HI.out.wrote (m := [32, 47]) rfl hw8 hB8)
          clear HI hw8 hB8
          have x3 := HY3.out _ HW8.out.below
          go_wp2
          clear x3
          go_loopw [42] (fun v47 W => ∃ i : Nat, i ≤ n.kids.length ∧ v47 = .int .i64 i ∧ Aside0 (WRel w2.heap.size w2 (Lib.itoa n.kind ++ (wNums n.ints ++ (wTexts T n.texts ++ 32 :: 47 :: wNums (n.kids.take i)))) W)) (fun v47 _ => n.kids.length - (intOf v47).toNat)
          case atStart => exact ⟨0, by omega, rfl, by rw [List.take_zero]; exact ⟨by have := HW8.out; simpa [wNums] using this⟩⟩
          case round =>
            clear HW8
            obtain ⟨i, hi, rfl, HI⟩ := hrel
            have hkl : n.kids.length ≤ 1000000 := HS.out.2.2
            by_cases hlt : i < n.kids.length
            · obtain ⟨ad, rfl, z0⟩ := at_nat (HN2.out.below HI.out.below).k i hlt
              have HX := Aside0.mk (HK.out _ (rd_mem hlt))
              have HLp2 := Aside0.mk (wNums_len (l := n.kids.take i) (fun x hx => HK.out x (List.mem_of_mem_take hx)))
              have HTk2 := Aside0.mk (show wNums (n.kids.take (i + 1)) = wNums (n.kids.take i) ++ 32 :: Lib.itoa (rd n.kids (i : Int)) from by rw [take_succ_rd hlt]; simp [wNums])
              generalize rd n.kids (i : Int) = x at z0 HX HTk2
              have HLx := Aside0.mk (itoa_len HX.out)
              have hlx := HLx.out
              go_wp2_with fail
              refine (itoa_any T x _ HX.out (HT2.out.below HI.out.below)).mono ?_
              rintro e w6 ⟨rfl, hB6⟩
              have HW6 := Aside0.mk (HI.out.later hB6)
              clear hB6 z0
              go_wp2_with fail
              refine (wstr_any _ _ _ _ _ HW6.out.is (by
                rw [Lib.byteCells_length, List.length_append, List.length_append, List.length_append, List.length_cons, List.length_cons]
                have h1 := HLi.out
                have h2 := HLp.out
                have h2' := HLt.out
                have h2'' := HLp2.out
                have h5 : n.ints.length ≤ 1000000 := HS.out.1
                have h6 : n.texts.length ≤ 1000000 := HS.out.2.1
                have h3 : (n.kids.take i).length ≤ 1000000 := by rw [List.length_take]; omega
                have h4 : (⟨#[32]⟩ ++ ⟨(Lib.itoa x).toArray⟩ : ByteArray).size = 1 + (Lib.itoa x).length := by rw [ByteArray.size_append]; rfl
                rw [h4]; omega) HW6.out.ge).mono ?_
              rintro e w7 ⟨rfl, hw7, hB7⟩
              have HW7 := Aside0.mk (HW6.out.wrote (m := 32 :: Lib.itoa x) (by simp) hw7 hB7)
              clear HW6 hw7 hB7
              rw [show ∀ a b c d e : List UInt8, a ++ (b ++ (c ++ 32 :: 47 :: d)) ++ e = a ++ (b ++ (c ++ 32 :: 47 :: (d ++ e))) from fun a b c d e => by simp, ← HTk2.out] at HW7
              go_wp2
              go_roundw
              case rel => exact ⟨i + 1, by omega, by go_num, HW7⟩
              case measure => simp [intOf]; omega
            · obtain rfl : i = n.kids.length := by omega
              rw [List.take_length] at HI
              clear hlt hi
              go_wp2_with fail
              refine (Tryd.Builder_String_any _ _ _ _ HI.out.is HI.out.ge).mono ?_
              rintro e w9 ⟨rfl, hB9⟩
              have HB9 := Aside0.mk (HB2.out.trans ((HI.out.below.trans hB9).mono HB2.out.size))
              clear hB9 HI
              go_wp2
              go_ret
              exact ⟨rfl, HB9.out⟩
end Go.Proofs.YtdfneldenipljaaDoor.L
end
section
namespace Go.Proofs.YtdfneldenipljaaDoor.L
open Go.RowKit Go.ChangeShapes Go.WideShapes Go.Proofs.YtdfneldenipljaaDoorW.PrintWords Go.Proofs.YtdfneldenipljaaDoorW.PrintLast Go.Proofs.YtdfneldenipljaaDoorW.PrintMore
attribute [local go_sem] max2_int min2_int max_two min_two max_three min_three max_four min_four
def cntF (own : List Int) (c : Nat) : Nat → Nat
  | 0 => c
  | i + 1 => if rd own (i : Int) = (cntF own c i : Int) then cntF own c i + 1 else cntF own c i
def Rise (own : List Int) (c n : Nat) : Prop := ∀ i : Nat, i < n → 0 ≤ rd own (i : Int) ∧ rd own (i : Int) ≤ (cntF own c i : Int)
theorem cnt_mono (own : List Int) (c : Nat) : ∀ {i j : Nat}, i ≤ j → cntF own c i ≤ cntF own c j
  | i, 0, h => by obtain rfl : i = 0 := by omega
                  exact Nat.le_refl _
  | i, j + 1, h => by
    by_cases e : i = j + 1
    · subst e; exact Nat.le_refl _
    · have := cnt_mono own c (i := i) (j := j) (by omega)
      show _ ≤ (if rd own (j : Int) = (cntF own c j : Int) then cntF own c j + 1 else cntF own c j)
      split <;> omega
theorem cnt_step {own : List Int} {c i : Nat} (h : rd own (i : Int) ≤ (cntF own c i : Int)) : rd own (i : Int) < (cntF own c (i + 1) : Int) := by
  show _ < ((if rd own (i : Int) = (cntF own c i : Int) then cntF own c i + 1 else cntF own c i : Nat) : Int)
  split <;> omega
theorem Rise.lt {own : List Int} {c n : Nat} (h : Rise own c n) {i m : Nat} (hi : i < m) (hm : m ≤ n) : rd own (i : Int) < (cntF own c m : Int) := by
  have h1 := cnt_step (h i (by omega)).2
  have h2 := cnt_mono own c (i := i + 1) (j := m) (by omega)
  omega
theorem cnt_onto {own : List Int} {c : Nat} : ∀ {m k : Nat}, c ≤ k → k < cntF own c m → ∃ j : Nat, j < m ∧ rd own (j : Int) = (k : Int)
  | 0, k, h0, h => by
    have h : k < c := h
    omega
  | m + 1, k, h0, h => by
    have h : k < (if rd own (m : Int) = (cntF own c m : Int) then cntF own c m + 1 else cntF own c m) := h
    by_cases hk : k < cntF own c m
    · obtain ⟨j, hj, e⟩ := cnt_onto h0 hk
      exact ⟨j, by omega, e⟩
    · split at h
      · rename_i e
        exact ⟨m, by omega, by rw [e]; omega⟩
      · omega
theorem cnt_app {own t : List Int} {c : Nat} : ∀ {i : Nat}, i ≤ own.length → cntF (own ++ t) c i = cntF own c i
  | 0, _ => rfl
  | i + 1, h => by
    show (if rd (own ++ t) (i : Int) = (cntF (own ++ t) c i : Int) then cntF (own ++ t) c i + 1 else cntF (own ++ t) c i) = (if _ then _ else _)
    rw [cnt_app (by omega), rd_app (by omega) (by omega)]
theorem own_snoc (T : Lib.PrintTabs) (vs : List (List UInt8)) (l : List Node) (x : Node) : ownS T vs (l ++ [x]) = numStep T (ownS T vs l) x := by
  show (l ++ [x]).foldl (numStep T) (vs, []) = _
  rw [List.foldl_append]; rfl
theorem own_len (T : Lib.PrintTabs) (vs : List (List UInt8)) : ∀ (n : Nat) (ns : List Node), ns.length = n → (ownS T vs ns).2.length = n
  | n, ns, hn => by
    rcases snoc_cases ns with rfl | ⟨l, x, rfl⟩
    · exact hn
    · rw [own_snoc]
      match n, hn with
      | 0, hn => simp at hn
      | n + 1, hn =>
        have := own_len T vs n l (by simp at hn; exact hn)
        show ((ownS T vs l).2 ++ [_]).length = n + 1
        rw [List.length_append, this]; rfl
theorem own_riseN (T : Lib.PrintTabs) (vs : List (List UInt8)) : ∀ (n : Nat) {ns : List Node}, ns.length = n → Rise (ownS T vs ns).2 vs.length n ∧ cntF (ownS T vs ns).2 vs.length n = (ownS T vs ns).1.length
  | 0, ns, hn => by
    obtain rfl := List.eq_nil_of_length_eq_zero hn
    exact ⟨fun i hi => absurd hi (Nat.not_lt_zero _), rfl⟩
  | n + 1, ns, hn => by
    rcases snoc_cases ns with rfl | ⟨l, x, rfl⟩
    · simp at hn
    · have hl : l.length = n := by simpa using hn
      obtain ⟨ih, ic⟩ := own_riseN T vs n hl
      have hlen := own_len T vs n l hl
      rw [own_snoc]
      generalize ownS T vs l = st at ih ic hlen ⊢
      obtain ⟨us, own⟩ := st
      have hlen : own.length = n := hlen
      have ic : cntF own vs.length n = us.length := ic
      generalize hw : nodeW T x own = w
      have hv : rd (own ++ [((addW us w).idxOf w : Int)]) (n : Int) = ((addW us w).idxOf w : Int) := by rw [← hlen]; exact rd_snoc_eq
      have hc : ∀ i : Nat, i ≤ n → cntF (own ++ [((addW us w).idxOf w : Int)]) vs.length i = cntF own vs.length i := fun i hi => cnt_app (by omega)
      show Rise (own ++ [((addW us (nodeW T x own)).idxOf (nodeW T x own) : Int)]) vs.length (n + 1) ∧ cntF (own ++ [((addW us (nodeW T x own)).idxOf (nodeW T x own) : Int)]) vs.length (n + 1) = (addW us (nodeW T x own)).length
      rw [hw]
      by_cases hm : w ∈ us
      · have ea : addW us w = us := by unfold addW; rw [if_pos hm]
        have hlt := wix_lt hm
        rw [ea] at hv hc ⊢
        refine ⟨fun i hi => ?_, ?_⟩
        · rw [hc i (by omega)]
          by_cases h : i < n
          · rw [rd_app (by omega) (by omega)]; exact ih i h
          · obtain rfl : i = n := by omega
            rw [hv, ic]; omega
        · show (if _ then _ else _) = _
          rw [hc n (Nat.le_refl _), hv, ic, if_neg (by omega)]
      · have ea : addW us w = us ++ [w] := by unfold addW; rw [if_neg hm]
        have hix : (us ++ [w]).idxOf w = us.length := by
          rw [List.idxOf_append, if_neg hm]; simp
        rw [ea, hix] at hv hc ⊢
        refine ⟨fun i hi => ?_, ?_⟩
        · rw [hc i (by omega)]
          by_cases h : i < n
          · rw [rd_app (by omega) (by omega)]; exact ih i h
          · obtain rfl : i = n := by omega
            rw [hv, ic]; omega
        · show (if _ then _ else _) = _
          rw [hc n (Nat.le_refl _), hv, ic, if_pos rfl]; simp
def reN (own : List Int) (n : Node) : Node := ⟨n.kind, n.ints, n.texts, n.kids.map (rd own)⟩
def shrU (ns : List Node) (own : List Int) : Nat → List Node
  | 0 => []
  | i + 1 => if rd own (i : Int) = ((shrU ns own i).length : Int) then shrU ns own i ++ [reN own (nd ns i)] else shrU ns own i
theorem shr_len (ns : List Node) (own : List Int) : ∀ i : Nat, (shrU ns own i).length = cntF own 0 i
  | 0 => rfl
  | i + 1 => by
    show (if _ then _ else _ : List Node).length = (if _ then _ else _)
    rw [shr_len ns own i]
    split
    · rw [List.length_append, shr_len ns own i]; rfl
    · exact shr_len ns own i
structure Cls (ns : List Node) (own : List Int) : Prop where
  ahead : AheadN ns
  rise : Rise own 0 ns.length
  one : ∀ i j : Nat, i < ns.length → j < ns.length → rd own (i : Int) = rd own (j : Int) → reN own (nd ns i) = reN own (nd ns j)
theorem own_cls (T : Lib.PrintTabs) {ns : List Node} (hA : AheadN ns) : Cls ns (ownS T [] ns).2 := by
  have hs := own_spec T [] hA
  refine ⟨hA, (own_riseN T [] ns.length rfl).1, fun i j hi hj h => ?_⟩
  rw [hs.numd.num i hi, hs.numd.num j hj] at h
  have := wix_inj (hs.numd.mem i hi) (hs.numd.mem j hj) (by omega)
  obtain ⟨e1, e2, e3, e4⟩ := (nodeW_inj T).1 this
  unfold reN
  rw [e1, e2, e3, e4]
theorem shr_at {ns : List Node} {own : List Int} (h : Cls ns own) : ∀ (m : Nat), m ≤ ns.length → ∀ i : Nat, i < m → nd (shrU ns own m) (rd own (i : Int)).toNat = reN own (nd ns i)
  | 0, _, i, hi => absurd hi (Nat.not_lt_zero _)
  | m + 1, hm, i, hi => by
    have hl := shr_len ns own m
    show nd (if rd own (m : Int) = ((shrU ns own m).length : Int) then shrU ns own m ++ [reN own (nd ns m)] else shrU ns own m) _ = _
    by_cases hi' : i < m
    · have ih := shr_at h m (by omega) i hi'
      have hlt := h.rise.lt hi' (by omega)
      have h0 := (h.rise i (by omega)).1
      split
      · rw [nd_snoc_lt (by omega)]; exact ih
      · exact ih
    · obtain rfl : i = m := by omega
      split
      · rename_i e
        rw [e, Int.toNat_natCast, nd_snoc_eq]
      · rename_i e
        have h1 := h.rise i (by omega)
        obtain ⟨j, hj, ej⟩ := cnt_onto (own := own) (c := 0) (m := i) (k := (rd own (i : Int)).toNat) (by omega) (by omega)
        have ej : rd own (j : Int) = rd own (i : Int) := by rw [ej]; omega
        have := shr_at h i (by omega) j hj
        rw [ej] at this
        rw [this]
        exact h.one j i (by omega) (by omega) ej
theorem shr_ahead {ns : List Node} {own : List Int} (h : Cls ns own) : ∀ m : Nat, m ≤ ns.length → AheadN (shrU ns own m)
  | 0, _ => fun p hp => absurd hp (Nat.not_lt_zero _)
  | m + 1, hm => by
    have ih := shr_ahead h m (by omega)
    have hl := shr_len ns own m
    show AheadN (if rd own (m : Int) = ((shrU ns own m).length : Int) then shrU ns own m ++ [reN own (nd ns m)] else shrU ns own m)
    split
    · intro p hp k hk
      by_cases hp' : p < (shrU ns own m).length
      · rw [nd_snoc_lt hp'] at hk
        exact ih p hp' k hk
      · have : p = (shrU ns own m).length := by simp at hp; omega
        subst this
        rw [nd_snoc_eq] at hk
        obtain ⟨q, hq, rfl⟩ := List.mem_map.1 hk
        have hq' := h.ahead m (by omega) q hq
        obtain ⟨i, rfl⟩ : ∃ i : Nat, q = (i : Int) := ⟨q.toNat, by omega⟩
        have h1 := h.rise.lt (i := i) (m := m) (by omega) (by omega)
        have h2 := (h.rise i (by omega)).1
        omega
    · exact ih
theorem ahead_below {ns : List Node} (h : AheadN ns) {p : Nat} (hp : p < ns.length) {x : Int} (hr : Rch ns (kids ns (p : Int)) x) : 0 ≤ x ∧ x < (p : Int) := by
  induction hr with
  | base hk => exact h p hp _ (by rw [← kids_nat]; exact hk)
  | @step i k _ hk ih =>
    have := h i.toNat (by omega) k hk
    omega
theorem ahead_places {ns : List Node} (h : AheadN ns) : Places ns := fun i hi k hk => by
  have := h i hi k hk
  omega
theorem ahead_cyc {ns : List Node} (h : AheadN ns) : ∀ p : Nat, p < ns.length → ¬ Cyc ns p := fun p hp hc => by
  have := ahead_below h hp hc
  omega
theorem rch_pl {ns : List Node} (h : Places ns) {l : List Int} (hl : ∀ x ∈ l, 0 ≤ x ∧ x < (ns.length : Int)) {x : Int} (hr : Rch ns l x) : 0 ≤ x ∧ x < (ns.length : Int) := by
  induction hr with
  | base hk => exact hl _ hk
  | @step i k _ hk ih => exact h i.toNat (by omega) k hk
def shrS (own : List Int) (s : Scene) : Scene := ⟨shrU s.nodes own s.nodes.length, rd own s.root⟩
theorem shr_right {s : Scene} {own : List Int} (hr : Right s) (h : Cls s.nodes own) : Right (shrS own s) := by
  have hA := shr_ahead h s.nodes.length (Nat.le_refl _)
  have hl := shr_len s.nodes own s.nodes.length
  have r0 := hr.r0
  have r1 := hr.r1
  obtain ⟨r, er⟩ : ∃ r : Nat, s.root = (r : Int) := ⟨s.root.toNat, by omega⟩
  refine ⟨?_, ?_, ahead_places hA, ahead_cyc hA, fun c hc => ?_⟩
  · show 0 ≤ rd own s.root
    rw [er]; exact (h.rise r (by omega)).1
  · show rd own s.root < ((shrU s.nodes own s.nodes.length).length : Int)
    rw [er, hl]; exact h.rise.lt (by omega) (Nat.le_refl _)
  · have hc : c < (shrU s.nodes own s.nodes.length).length := hc
    obtain ⟨i, hi, ei⟩ := cnt_onto (own := own) (c := 0) (m := s.nodes.length) (k := c) (by omega) (by omega)
    have key : ∀ x : Int, Rch s.nodes [s.root] x → Rch (shrS own s).nodes [(shrS own s).root] (rd own x) := by
      intro x hx
      induction hx with
      | base hk =>
        rw [List.mem_singleton.1 hk]
        exact .base (by simp [shrS])
      | @step i k hi' hk ih =>
        have hpl := rch_pl hr.pl (l := [s.root]) (fun x hx => by rw [List.mem_singleton.1 hx]; exact ⟨r0, r1⟩) hi'
        refine .step ih ?_
        have e1 := shr_at h s.nodes.length (Nat.le_refl _) i.toNat (by omega)
        show rd own k ∈ (nd (shrU s.nodes own s.nodes.length) (rd own i).toNat).kids
        rw [Int.toNat_of_nonneg hpl.1] at e1
        rw [e1]
        exact List.mem_map.2 ⟨k, hk, rfl⟩
    rw [← ei]
    exact key _ (hr.all i hi)
end Go.Proofs.YtdfneldenipljaaDoor.L
end
section
namespace Go.Proofs.YtdfneldenipljaaDoor.L
open Go.RowKit Go.ChangeShapes Go.WideShapes Go.Proofs.YtdfneldenipljaaDoorW.PrintWords Go.Proofs.YtdfneldenipljaaDoorW.PrintLast Go.Proofs.YtdfneldenipljaaDoorW.PrintMore
attribute [local go_sem] max2_int min2_int max_two min_two max_three min_three max_four min_four
theorem all_snoc (T : Lib.PrintTabs) (l : List Scene) (s : Scene) : allS T (l ++ [s]) = ((ownS T (allS T l).1 s.nodes).1, (allS T l).2 ++ [(ownS T (allS T l).1 s.nodes).2]) := by
  unfold allS
  rw [List.foldl_append]; rfl
structure AllSpec (T : Lib.PrintTabs) (l : List Scene) (r : List (List UInt8) × List (List Int)) : Prop where
  len : r.2.length = l.length
  numd : ∀ i : Nat, i < l.length → Numd T r.1 (l.getD i ⟨[], 0⟩).nodes (r.2.getD i [])
  from_ : ∀ x ∈ r.1, ∃ i j : Nat, i < l.length ∧ j < (l.getD i ⟨[], 0⟩).nodes.length ∧ x = nodeW T (nd (l.getD i ⟨[], 0⟩).nodes j) (r.2.getD i [])
  nodup : r.1.Nodup
theorem getD_snoc_lt {α : Type} {l : List α} {x d : α} {i : Nat} (h : i < l.length) : (l ++ [x]).getD i d = l.getD i d := by
  rw [List.getD_eq_getElem?_getD, List.getD_eq_getElem?_getD, List.getElem?_append_left h]
theorem getD_snoc_eq {α : Type} {l : List α} {x d : α} : (l ++ [x]).getD l.length d = x := by
  rw [List.getD_eq_getElem?_getD, List.getElem?_append_right (Nat.le_refl _)]
  simp
theorem all_specN (T : Lib.PrintTabs) : ∀ (n : Nat) {l : List Scene}, l.length = n → (∀ s ∈ l, AheadN s.nodes) → AllSpec T l (allS T l)
  | 0, l, hn, _ => by
    obtain rfl := List.eq_nil_of_length_eq_zero hn
    exact ⟨rfl, fun i hi => absurd hi (Nat.not_lt_zero _), fun x hx => by simp [allS] at hx, by simp [allS]⟩
  | n + 1, l, hn, hA => by
    rcases snoc_cases l with rfl | ⟨l, s, rfl⟩
    · simp at hn
    · have ih := all_specN T n (l := l) (by simpa using hn) (fun s hs => hA s (by simp [hs]))
      have hs := own_spec T (allS T l).1 (hA s (by simp))
      rw [all_snoc]
      generalize allS T l = st at ih hs ⊢
      obtain ⟨vs, outs⟩ := st
      have hlen : outs.length = l.length := ih.len
      generalize ownS T vs s.nodes = r at hs ⊢
      obtain ⟨us, own⟩ := r
      have hs : OwnSpec T vs s.nodes (us, own) := hs
      refine ⟨by show (outs ++ [own]).length = _; simp [hlen], fun i hi => ?_, fun x hx => ?_, hs.nodup ih.nodup⟩
      · show Numd T us ((l ++ [s]).getD i ⟨[], 0⟩).nodes ((outs ++ [own]).getD i [])
        by_cases h : i < l.length
        · rw [getD_snoc_lt h, getD_snoc_lt (by omega)]
          exact (ih.numd i h).pre hs.pre
        · have : i = l.length := by simp at hi; omega
          subst this
          rw [getD_snoc_eq]
          conv => arg 4; rw [← hlen]
          rw [getD_snoc_eq]
          exact hs.numd
      · rcases hs.from_ x hx with hx | ⟨j, hj, rfl⟩
        · obtain ⟨i, j, hi, hj, e⟩ := ih.from_ x hx
          refine ⟨i, j, by simp; omega, by rw [getD_snoc_lt hi]; exact hj, ?_⟩
          show x = nodeW T (nd ((l ++ [s]).getD i ⟨[], 0⟩).nodes j) ((outs ++ [own]).getD i [])
          rw [getD_snoc_lt hi, getD_snoc_lt (by omega)]
          exact e
        · refine ⟨l.length, j, by simp, by rw [getD_snoc_eq]; exact hj, ?_⟩
          show _ = nodeW T (nd ((l ++ [s]).getD l.length ⟨[], 0⟩).nodes j) ((outs ++ [own]).getD l.length [])
          rw [getD_snoc_eq]
          conv => rhs; arg 3; rw [← hlen]
          rw [getD_snoc_eq]
theorem all_spec (T : Lib.PrintTabs) {l : List Scene} (hA : ∀ s ∈ l, AheadN s.nodes) : AllSpec T l (allS T l) := all_specN T l.length rfl hA
theorem num_seen {T : Lib.PrintTabs} {l : List Scene} {s : Scene} (hA : ∀ x ∈ l, AheadN x.nodes) (hs : AheadN s.nodes) {j : Nat} (hj : j < s.nodes.length)
    (h : rd (ownS T (allS T l).1 s.nodes).2 (j : Int) ≠ (cntF (ownS T (allS T l).1 s.nodes).2 (allS T l).1.length j : Int)) :
    (∃ k m : Nat, k < l.length ∧ m < (l.getD k ⟨[], 0⟩).nodes.length ∧ rd ((allS T l).2.getD k []) (m : Int) = rd (ownS T (allS T l).1 s.nodes).2 (j : Int)) ∨
    ∃ m : Nat, m < j ∧ rd (ownS T (allS T l).1 s.nodes).2 (m : Int) = rd (ownS T (allS T l).1 s.nodes).2 (j : Int) := by
  have ha := all_spec T hA
  have ho := own_spec T (allS T l).1 hs
  have hr := (own_riseN T (allS T l).1 s.nodes.length rfl).1 j hj
  by_cases hc : (allS T l).1.length ≤ (rd (ownS T (allS T l).1 s.nodes).2 (j : Int)).toNat
  · obtain ⟨m, hm, e⟩ := cnt_onto (own := (ownS T (allS T l).1 s.nodes).2) (c := (allS T l).1.length) (m := j) hc (by omega)
    exact .inr ⟨m, hm, by rw [e]; omega⟩
  · have hlt : (rd (ownS T (allS T l).1 s.nodes).2 (j : Int)).toNat < (allS T l).1.length := by omega
    obtain ⟨k, m, hk, hm, e⟩ := ha.from_ _ (List.getElem_mem hlt)
    refine .inl ⟨k, m, hk, hm, ?_⟩
    rw [(ha.numd k hk).num m hm, ← e]
    have hi : (allS T l).1.idxOf ((allS T l).1[(rd (ownS T (allS T l).1 s.nodes).2 (j : Int)).toNat]) = (rd (ownS T (allS T l).1 s.nodes).2 (j : Int)).toNat := by
      have h1 := List.getElem_idxOf (wix_lt (List.getElem_mem hlt))
      exact (List.getElem_inj ha.nodup).1 h1
    rw [hi]; omega
end Go.Proofs.YtdfneldenipljaaDoor.L
end
section
namespace Go.Proofs.YtdfneldenipljaaDoor.L
open Go.RowKit Go.ChangeShapes Go.WideShapes Go.Proofs.YtdfneldenipljaaDoorW.PrintWords Go.Proofs.YtdfneldenipljaaDoorW.PrintLast Go.Proofs.YtdfneldenipljaaDoorW.PrintMore
attribute [local go_sem] max2_int min2_int max_two min_two max_three min_three max_four min_four
def mapTake (f : Int → Int) (l : List Int) (j : Nat) : List Int := (l.take j).map f ++ l.drop j
theorem mapTake_len (f : Int → Int) (l : List Int) (j : Nat) : (mapTake f l j).length = l.length := by unfold mapTake; rw [List.length_append, List.length_map, List.length_take, List.length_drop]; omega
theorem mapTake_zero (f : Int → Int) (l : List Int) : mapTake f l 0 = l := by unfold mapTake; simp
theorem mapTake_all (f : Int → Int) (l : List Int) : mapTake f l l.length = l.map f := by unfold mapTake; simp
theorem mapTake_rd (f : Int → Int) (l : List Int) (j : Nat) (h : j < l.length) : rd (mapTake f l j) (j : Int) = rd l (j : Int) := by
  rw [rd_eq (by rw [mapTake_len]; exact h), rd_eq h]
  unfold mapTake
  rw [List.getElem_append_right (by simp; omega)]
  simp [List.length_take, Nat.min_eq_left (Nat.le_of_lt h)]
theorem mapTake_set (f : Int → Int) (l : List Int) (j : Nat) (h : j < l.length) : (mapTake f l j).set j (f (rd l (j : Int))) = mapTake f l (j + 1) := by
  unfold mapTake
  rw [List.set_append_right _ _ (by simp; omega)]
  rw [List.length_map, List.length_take, Nat.min_eq_left (Nat.le_of_lt h), Nat.sub_self, drop_rd h]
  rw [take_succ_rd h, List.map_append]
  simp
structure KidRel (f : Int → Int) (n : Node) (v1 v2 v3 : Value) (j : Nat) (W0 W : World) : Prop where
  below : Below W0.heap.size W0 W
  box : W.heap[W0.heap.size]? = some (.cells #[.int .i64 n.kind, v1, v2, v3] 52 (0, 0))
  r1 : (Kd.int .i64).R 2 W W0.heap.size (fun _ => True) v1 n.ints
  r2 : Kd.string.R 9 W W0.heap.size (fun _ => True) v2 n.texts
  r3 : (Kd.int .i64).R 3 W W0.heap.size (fun _ => True) v3 (mapTake f n.kids j)
theorem KidRel.drew {f : Int → Int} {n : Node} {v1 v2 v3 : Value} {j : Nat} {W0 W : World} (h : KidRel f n v1 v2 v3 j W0 W) : KidRel f n v1 v2 v3 j W0 W.drew :=
  ⟨pw_below_drewN h.below 1, h.box, Kd.R_drew h.r1, Kd.R_drew h.r2, Kd.R_drew h.r3⟩
theorem KidRel.start {f : Int → Int} {n : Node} {W0 W1 : World} {u0 u1 u2 u3 : Value} {v1 v2 v3 : Value} (hb : W1.heap[W0.heap.size]? = some (.cells #[u0, u1, u2, u3] 52 (0, 0))) (hB : Below W0.heap.size W0 W1) {B : Nat} (hBB : W0.heap.size < B)
    (hM : kNode.M W1 B (fun _ => True) n [.int .i64 n.kind, v1, v2, v3]) :
    KidRel f n v1 v2 v3 0 W0 ((((W1.setCell ⟨W0.heap.size, 0, none⟩ (.int .i64 n.kind)).setCell ⟨W0.heap.size, 1, none⟩ v1).setCell ⟨W0.heap.size, 2, none⟩ v2).setCell ⟨W0.heap.size, 3, none⟩ v3) := by
  obtain ⟨x1, x2, x3, e, h1, h2, h3⟩ := kNode_openM hM
  injection e with _ e
  injection e with e1 e
  injection e with e2 e
  injection e with e3 _
  subst e1 e2 e3
  refine ⟨below_set4 hB (Nat.le_refl _), box4 hb _ _ _ _, Kd.R_lower (R_old4 h1 hBB _ _ _ _) (Nat.le_of_lt hBB), Kd.R_lower (R_old4 h2 hBB _ _ _ _) (Nat.le_of_lt hBB), ?_⟩
  rw [mapTake_zero]
  exact Kd.R_lower (R_old4 h3 hBB _ _ _ _) (Nat.le_of_lt hBB)
theorem KidRel.set {f : Int → Int} {n : Node} {v1 v2 : Value} {g c m : Nat} {j : Nat} {W0 W : World} (h : KidRel f n v1 v2 (.slice (some ⟨g, 0, none⟩) m c) j W0 W) (hj : j < n.kids.length) :
    W.cell? ⟨g, j, none⟩ = some (.int .i64 (rd n.kids (j : Int))) ∧ W.frozen? ⟨g, j, none⟩ = false ∧ KidRel f n v1 v2 (.slice (some ⟨g, 0, none⟩) m c) (j + 1) W0 (W.setCell ⟨g, j, none⟩ (.int .i64 (f (rd n.kids (j : Int))))) := by
  have hm := (Kd.R_reads' h.r3).1
  rw [mapTake_len] at hm
  obtain ⟨c1, c2⟩ := ints_cell h.r3 j (by omega)
  obtain ⟨s1, s2, s3⟩ := ints_store h.r3 j (by omega) (f (rd n.kids (j : Int)))
  rw [mapTake_rd f _ _ hj] at c1
  rw [mapTake_set f _ _ hj] at s1
  obtain ⟨cells, hc⟩ := Kd.R_typed h.r3 g rfl
  refine ⟨c1, c2, below_set h.below s3, blk_grown h.box s2 (fun e => ?_), Kd.R_grown1 h.r1 rfl s2 (Kd.R_ne h.r1 hc (by decide)), Kd.R_grown1 h.r2 rfl s2 (Kd.R_ne h.r2 hc (by decide)), s1⟩
  injection e with e
  rw [← e, h.box] at hc
  cases hc
set_option maxRecDepth 100000 in
set_option maxHeartbeats 4000000 in
theorem canon_any (A : Option Addr) (c : Nat) (s : Scene) (w : World) (h : kNode.C w A s.nodes.length s.nodes) (hM : rows s.nodes ≤ 400000) (hS : ∀ i : Nat, i < s.nodes.length → Small (nd s.nodes i)) :
    Calls Tryd.prog 33 #[.agg #[.slice A s.nodes.length c, .int .i64 s.root]] w (ScenePost (canonR s) (gcheck s).1 w) := by
  have HR := Aside0.mk h
  have HM := Aside0.mk hM
  have HSm := Aside0.mk hS
  have b0 := h.2.1
  have HB := Aside0.mk (below_alloc (below_alloc (Below.refl w.heap.size w) (.cells #[.slice A s.nodes.length c, .int .i64 s.root] 34)) (.cells #[.slice none 0 0, .int .i64 0] 34))
  have k0 := box_cell2 w _ rfl #[.slice A s.nodes.length c, .int .i64 s.root] 34 (.cells #[.slice none 0 0, .int .i64 0] 34) 0 _ rfl
  have k1 := box_cell2 w _ rfl #[.slice A s.nodes.length c, .int .i64 s.root] 34 (.cells #[.slice none 0 0, .int .i64 0] 34) 1 _ rfl
  have HL := Aside0.mk (show ((w.alloc (.cells #[.slice A s.nodes.length c, .int .i64 s.root] 34)).alloc (.cells #[.slice none 0 0, .int .i64 0] 34)).heap[w.heap.size + 1]? = some (.cells #[.slice none 0 0, .int .i64 0] 34 (0, 0)) from by
    have := heap_alloc_new (w.alloc (.cells #[.slice A s.nodes.length c, .int .i64 s.root] 34)) (.cells #[.slice none 0 0, .int .i64 0] 34)
    simpa using this)
  have hu := Tryd.underlying34
  clear h hM hS
  go_enter Tryd.func33, Tryd.ntmps33
  go_wp2_with fail
  refine (gcheck_any A c s _ (Kd.C_below HR.out HB.out) HM.out).mono ?_
  rintro e w1 ⟨rfl, hB1⟩
  have HB1 := Aside0.mk (below_step HB.out hB1)
  have HL1 := Aside0.mk ((hB1.block _ (blk_lt HL.out)).trans HL.out)
  replace k0 := pw_cell_below hB1 k0
  replace k1 := pw_cell_below hB1 k1
  clear hB1 HL
  by_cases hz : (gcheck s).1 = 0
  · have HRt := Aside0.mk (gcheck_right.1 hz)
    have HE : Aside0 (nums s = numsL s) := ⟨by unfold nums; rw [if_pos hz]⟩
    have hnM : s.nodes.length ≤ 400000 := Nat.le_trans (len_rows _) HM.out
    have hn0 : 0 < s.nodes.length := by have := HRt.out.r0; have := HRt.out.r1; omega
    have HCR : Aside0 (canonR s = ⟨canonL s, (s.nodes.length : Int) - 1⟩) := ⟨by unfold canonR; rw [if_pos hz]⟩
    have HZ := Aside0.mk hz
    rw [hz]
    clear hz
    go_wp2_with fail
    refine (numbers_canon A c s w1 (Kd.C_below HR.out HB1.out) HM.out).mono ?_
    rw [HE.out]
    rintro e w2 ⟨A2, c2, rfl, hR2, hB2⟩
    have HB2 := Aside0.mk (below_step HB1.out hB2)
    have HL2 := Aside0.mk ((hB2.block _ (blk_lt HL1.out)).trans HL1.out)
    have HLt := Aside0.mk (show w.heap.size + 2 ≤ w2.heap.size from by have := blk_lt HL2.out; omega)
    have HR2 := Aside0.mk (show (Kd.int .i64).R 3 w2 w.heap.size (fun _ => True) (.slice A2 s.nodes.length c2) (numsL s) from by have h := Kd.R_lower hR2 HB1.out.size; rwa [numsL_len] at h)
    replace k0 := pw_cell_below hB2 k0
    replace k1 := pw_cell_below hB2 k1
    clear hB2 HL1 hR2
    rw [numsL_len]
    go_wp2
    obtain ⟨w3, hmk, hR3, hB3, hB3', hlt3⟩ := make_run kNode (w0 := w) (W := w2.drew) w.heap.size 52 32 s.nodes.length Tryd.underlying32 (.agg #[.int .i64 0, .slice none 0 0, .slice none 0 0, .slice none 0 0]) 80 info_nodez rfl (by decide) (by omega) nodez (kNode_mkM (Kd.R_nil _ _ _ _ _) (Kd.R_nil _ _ _ _ _) (Kd.R_nil _ _ _ _ _)) (by omega) HB2.out.drew HB2.out.size
    replace hmk : (Instr.makeSlice 32 (.int .i64 (s.nodes.length : Int)) (.int .i64 (s.nodes.length : Int))).run Tryd.prog w2.drew = .ok (.slice (some ⟨w2.heap.size, 0, none⟩) s.nodes.length s.nodes.length) w3 := hmk
    have k0' := pw_cell_below hB3' (show w2.drew.cell? _ = _ from k0)
    have k0'' := pw_cell_below (below_alloc (Below.refl _ _) (.cells #[.slice none 0 0, .int .i64 0] 34)) k0'
    have hw1 : IntKind.i64.wrap ((s.nodes.length : Int) - 1) = (s.nodes.length : Int) - 1 := wrap_i (by omega) (by omega)
    have hL3 : (w3.alloc (.cells #[.slice none 0 0, .int .i64 0] 34)).heap[w3.heap.size]? = some (.cells #[.slice none 0 0, .int .i64 0] 34 (0, 0)) := by simpa using heap_alloc_new w3 _
    have l0 := (blk_cell hL3 0).trans rfl
    have l0f := blk_frozen hL3 0
    have l1 := (blk_cell (blk_set hL3 0 (.slice (some ⟨w2.heap.size, 0, none⟩) s.nodes.length s.nodes.length)) 1).trans rfl
    have l1f := blk_frozen (blk_set hL3 0 (.slice (some ⟨w2.heap.size, 0, none⟩) s.nodes.length s.nodes.length)) 1
    have hB2a := below_alloc (Below.refl w2.heap.size w2) (.cells #[.slice none 0 0, .int .i64 0] 34)
    have m0 := pw_cell_below hB2a k0
    obtain ⟨u3, hmu, hS3, hC3, hC3', hlu3⟩ := make_run kNode (w0 := w) (W := (w2.alloc (.cells #[.slice none 0 0, .int .i64 0] 34)).drew) w.heap.size 52 32 s.nodes.length Tryd.underlying32 (.agg #[.int .i64 0, .slice none 0 0, .slice none 0 0, .slice none 0 0]) 80 info_nodez rfl (by decide) (by omega) nodez (kNode_mkM (Kd.R_nil _ _ _ _ _) (Kd.R_nil _ _ _ _ _) (Kd.R_nil _ _ _ _ _)) (by omega) (below_step HB2.out hB2a).drew (below_step HB2.out hB2a).size
    have e2 : (w2.alloc (.cells #[.slice none 0 0, .int .i64 0] 34)).drew.heap.size = w2.heap.size + 1 := by show (w2.alloc _).heap.size = _; simp
    rw [e2] at hmu hS3
    have m0' := pw_cell_below hC3' (show (w2.alloc (.cells #[.slice none 0 0, .int .i64 0] 34)).drew.cell? _ = _ from m0)
    have hL4 : (w2.alloc (.cells #[.slice none 0 0, .int .i64 0] 34)).drew.heap[w2.heap.size]? = some (.cells #[.slice none 0 0, .int .i64 0] 34 (0, 0)) := by
      show (w2.alloc _).heap[w2.heap.size]? = _
      simpa using heap_alloc_new w2 _
    have hM3 := (hC3'.block _ (blk_lt hL4)).trans hL4
    have n0 := (blk_cell hM3 0).trans rfl
    have n0f := blk_frozen hM3 0
    have n1 := (blk_cell (blk_set hM3 0 (.slice (some ⟨w2.heap.size + 1, 0, none⟩) s.nodes.length s.nodes.length)) 1).trans rfl
    have n1f := blk_frozen (blk_set hM3 0 (.slice (some ⟨w2.heap.size + 1, 0, none⟩) s.nodes.length s.nodes.length)) 1
    have hlw : w.heap.size + 2 ≤ w2.heap.size := by have := HLt.out; exact this
    have e1 : w2.drew.heap.size = w2.heap.size := rfl
    have hBA := below_alloc (Below.refl w3.heap.size w3) (.cells #[.slice (some ⟨w2.heap.size, 0, none⟩) s.nodes.length s.nodes.length, .int .i64 ((s.nodes.length : Int) - 1)] 34)
    have HA := Aside0.mk (show CanRel s w A2 c2 w3.heap.size w2.heap.size 0 (List.replicate s.nodes.length nodez) (w3.alloc (.cells #[.slice (some ⟨w2.heap.size, 0, none⟩) s.nodes.length s.nodes.length, .int .i64 ((s.nodes.length : Int) - 1)] 34)) from
      ⟨by simp, fun p h => by omega, by simpa using heap_alloc_new w3 _, Kd.R_below hR3 hBA, Kd.R_below (Kd.R_below (Kd.R_drew HR2.out) hB3') hBA, (hBA.block _ (by omega)).trans ((hB3'.block _ (by show _ < w2.heap.size; omega)).trans HL2.out), Nat.lt_of_lt_of_le (show w.heap.size + 1 < w3.heap.size by omega) hBA.size, below_step hB3 hBA⟩)
    have HC := Aside0.mk (CanRel.start (A2 := A2) (c2 := c2) hM3 (by omega) (by omega) hS3 (Kd.R_below (Kd.R_drew (Kd.R_below HR2.out hB2a)) hC3') ((hC3'.block _ (by rw [e2]; omega)).trans ((hB2a.block _ (by omega)).trans HL2.out)) hC3)
    have HKA := Aside0.mk (pw_cell_below hBA k0')
    have HKC := Aside0.mk (far_set (far_set m0' w2.heap.size 0 (by show w2.heap.size ≠ w.heap.size; omega) (.slice (some ⟨w2.heap.size + 1, 0, none⟩) s.nodes.length s.nodes.length)) w2.heap.size 1 (by show w2.heap.size ≠ w.heap.size; omega) (.int .i64 ((s.nodes.length : Int) - 1)))
    clear hBA hL3 hM3 hR3 hB3 hB3' hS3 hC3 hC3' hB2a e1 e2 hL4 hlt3 hlu3
    go_region
    have H5 := HA
    have hk5 := HKA.out
    clear HA HC HKA HKC HL2 HLt HB2 HR2 m0 m0' n0 n0f n1 n1f l0 l0f l1 l1f k0 k0' k0'' k1 hmk hmu hlw
    generalize (w3.alloc (.cells #[.slice (some ⟨w2.heap.size, 0, none⟩) s.nodes.length s.nodes.length, .int .i64 ((s.nodes.length : Int) - 1)] 34)) = W5 at H5 hk5 ⊢
    generalize w3.heap.size = gs at H5 ⊢
    generalize w2.heap.size = gn at H5 ⊢
    rotate_left
    have H5 := HC
    have hk5 := HKC.out
    clear HA HC HKA HKC HL2 HLt HB2 HR2 m0 m0' n0 n0f n1 n1f l0 l0f l1 l1f k0 k0' k0'' k1 hmk hmu hlw
    generalize ((u3.setCell ⟨w2.heap.size, 0, none⟩ (.slice (some ⟨w2.heap.size + 1, 0, none⟩) s.nodes.length s.nodes.length)).setCell ⟨w2.heap.size, 1, none⟩ (.int .i64 ((s.nodes.length : Int) - 1))) = W5 at H5 hk5 ⊢
    generalize w2.heap.size + 1 = gn at H5 ⊢
    generalize w2.heap.size = gs at H5 ⊢
    all_goals
      go_wp2
      go_loopw [35] (fun v35 W => ∃ i : Nat, i ≤ s.nodes.length ∧ v35 = .int .i64 i ∧ ∃ l, Aside0 (CanRel s w A2 c2 gs gn i l W)) (fun v35 _ => s.nodes.length - (intOf v35).toNat)
      case atStart => exact ⟨0, by omega, rfl, _, H5⟩
      case round =>
        clear H5 hk5
        obtain ⟨i, hi, rfl, l, HI⟩ := hrel
        by_cases hlt : i < s.nodes.length
        · obtain ⟨adn, A1, c1, A4, c4, A3, c3, rfl, x0, x1, x2, x3, hN⟩ := at_node HR.out i hlt
          replace x0 := pw_cell_below HI.out.below x0
          replace x1 := pw_cell_below HI.out.below x1
          replace x2 := pw_cell_below HI.out.below x2
          replace x3 := pw_cell_below HI.out.below x3
          have HN := Aside0.mk hN
          have hba := below_alloc (Below.refl wr.heap.size wr) (.cells #[.int .i64 (nd s.nodes i).kind, .slice A1 (nd s.nodes i).ints.length c1, .slice A4 (nd s.nodes i).texts.length c4, .slice A3 (nd s.nodes i).kids.length c3] 52)
          have hbx : (wr.alloc (.cells #[.int .i64 (nd s.nodes i).kind, .slice A1 (nd s.nodes i).ints.length c1, .slice A4 (nd s.nodes i).texts.length c4, .slice A3 (nd s.nodes i).kids.length c3] 52)).heap[wr.heap.size]? = some (.cells #[.int .i64 (nd s.nodes i).kind, .slice A1 (nd s.nodes i).ints.length c1, .slice A4 (nd s.nodes i).texts.length c4, .slice A3 (nd s.nodes i).kids.length c3] 52 (0, 0)) := by simpa using heap_alloc_new wr _
          have HBX := Aside0.mk hbx
          have HBA := Aside0.mk hba
          have y0 := (blk_cell hbx 0).trans rfl
          have y1 := (blk_cell hbx 1).trans rfl
          have y2 := (blk_cell hbx 2).trans rfl
          have y3 := (blk_cell hbx 3).trans rfl
          clear hN hba hbx
          go_wp2_with fail
          refine (copy_any (nd s.nodes i) A1 c1 A4 c4 A3 c3 _ (HN.out.below (below_step HI.out.below HBA.out)) (HSm.out i hlt)).mono ?_
          rintro e w6 ⟨v, rfl, ⟨v1, v2, v3, rfl, hM6⟩, hB6⟩
          have hb6 := (hB6.block _ (by simp)).trans HBX.out
          have s6 : (wr.alloc (.cells #[.int .i64 (nd s.nodes i).kind, .slice A1 (nd s.nodes i).ints.length c1, .slice A4 (nd s.nodes i).texts.length c4, .slice A3 (nd s.nodes i).kids.length c3] 52)).heap.size = wr.heap.size + 1 := by simp
          rw [s6] at hM6
          have HJ0 := Aside0.mk (KidRel.start (f := fun k => (idx s k : Int)) hb6 (below_step HBA.out hB6) (Nat.lt_succ_self _) hM6)
          obtain ⟨A5, c5, hv1⟩ := Kd.R_slice HJ0.out.r1
          subst hv1
          obtain ⟨A6, c6, hv2⟩ := Kd.R_slice HJ0.out.r2
          subst hv2
          obtain ⟨A7, c7, hv3⟩ := Kd.R_slice HJ0.out.r3
          rw [mapTake_len] at hv3
          subst hv3
          have z0 := (blk_cell hb6 0).trans rfl
          have z0f := blk_frozen hb6 0
          have z1 := (blk_cell (blk_set hb6 0 (.int .i64 (nd s.nodes i).kind)) 1).trans rfl
          have z1f := blk_frozen (blk_set hb6 0 (.int .i64 (nd s.nodes i).kind)) 1
          have z2 := (blk_cell (blk_set (blk_set hb6 0 (.int .i64 (nd s.nodes i).kind)) 1 (.slice A5 (nd s.nodes i).ints.length c5)) 2).trans rfl
          have z2f := blk_frozen (blk_set (blk_set hb6 0 (.int .i64 (nd s.nodes i).kind)) 1 (.slice A5 (nd s.nodes i).ints.length c5)) 2
          have z3 := (blk_cell (blk_set (blk_set (blk_set hb6 0 (.int .i64 (nd s.nodes i).kind)) 1 (.slice A5 (nd s.nodes i).ints.length c5)) 2 (.slice A6 (nd s.nodes i).texts.length c6)) 3).trans rfl
          have z3f := blk_frozen (blk_set (blk_set (blk_set hb6 0 (.int .i64 (nd s.nodes i).kind)) 1 (.slice A5 (nd s.nodes i).ints.length c5)) 2 (.slice A6 (nd s.nodes i).texts.length c6)) 3
          have hq3 := (blk_cell HJ0.out.box 3).trans rfl
          clear hb6 hB6 hM6 s6 y0 y1 y2 y3 x0 x1 x2 x3
          have hkl : (nd s.nodes i).kids.length ≤ 1000000 := (HSm.out i hlt).2.2
          go_wp2
          clear z0 z0f z1 z1f z2 z2f z3 z3f hq3
          generalize ((((w6.setCell ⟨wr.heap.size, 0, none⟩ (.int .i64 (nd s.nodes i).kind)).setCell ⟨wr.heap.size, 1, none⟩ (.slice A5 (nd s.nodes i).ints.length c5)).setCell ⟨wr.heap.size, 2, none⟩ (.slice A6 (nd s.nodes i).texts.length c6)).setCell ⟨wr.heap.size, 3, none⟩ (.slice A7 (nd s.nodes i).kids.length c7)) = W7 at HJ0 ⊢
          obtain ⟨W0, hW0⟩ : ∃ W, W = wr := ⟨_, rfl⟩
          have HW0 := Aside0.mk hW0
          rw [← hW0] at HI HJ0
          have e0 : wr.heap.size = W0.heap.size := by rw [hW0]
          rw [e0]
          clear hW0 e0 HBX HBA
          go_loopw [45] (fun v45 W => ∃ j : Nat, j ≤ (nd s.nodes i).kids.length ∧ v45 = .int .i64 j ∧ Aside0 (KidRel (fun k => (idx s k : Int)) (nd s.nodes i) (.slice A5 (nd s.nodes i).ints.length c5) (.slice A6 (nd s.nodes i).texts.length c6) (.slice A7 (nd s.nodes i).kids.length c7) j W0 W)) (fun v45 _ => (nd s.nodes i).kids.length - (intOf v45).toNat)
          case atStart => exact ⟨0, by omega, rfl, HJ0⟩
          case round =>
            clear HJ0
            obtain ⟨j, hj, rfl, HJ⟩ := hrel
            by_cases hjl : j < (nd s.nodes i).kids.length
            · obtain ⟨g7, c7', hv, -⟩ := Kd.R_form HJ.out.r3 (by rw [mapTake_len]; omega)
              injection hv with hA _ hc
              subst hA hc
              have HQ := Aside0.mk (HRt.out.pl i hlt _ (rd_mem hjl))
              obtain ⟨k, hk⟩ : ∃ k : Nat, rd (nd s.nodes i).kids (j : Int) = (k : Int) := ⟨(rd (nd s.nodes i).kids (j : Int)).toNat, by have := HQ.out.1; omega⟩
              have hkn : k < s.nodes.length := by have := HQ.out.2; omega
              obtain ⟨s1, s2, hs3⟩ := HJ.out.set hjl
              obtain ⟨ad2, rfl, n1⟩ := at_nat (Kd.R_reads' (Kd.R_below HI.out.num HJ.out.below)).2.2 k (by rw [numsL_len]; exact hkn)
              rw [numsL_rd s k hkn] at n1
              rw [hk] at s1 hs3
              have HS3 := Aside0.mk hs3
              have hq3 := (blk_cell HJ.out.box 3).trans rfl
              clear hk hs3
              go_wp2
              go_region
              have HS4 := Aside0.mk HS3.out.drew
              clear HS3 s1 s2 n1 hq3
              go_wp2
              go_roundw
              case rel => exact ⟨j + 1, by omega, by go_num, HS4⟩
              case measure => simp [intOf]; omega
            · obtain rfl : j = (nd s.nodes i).kids.length := by omega
              have HI7 := Aside0.mk (HI.out.later HJ.out.below)
              have hp := (at_idx HRt.out hlt).1
              obtain ⟨⟨⟨x0, y0⟩, ⟨x1, y1⟩, ⟨x2, y2⟩, ⟨x3, y3⟩⟩, f0, f1, f2, f3⟩ := HI7.out.slot _ hp
              obtain ⟨ad2, rfl, n1⟩ := at_nat (Kd.R_reads' HI7.out.num).2.2 i (by rw [numsL_len]; exact hlt)
              rw [numsL_rd s i hlt] at n1
              have q0 := (blk_cell HJ.out.box 0).trans rfl
              have q1 := (blk_cell HJ.out.box 1).trans rfl
              have q2 := (blk_cell HJ.out.box 2).trans rfl
              have q3 := (blk_cell HJ.out.box 3).trans rfl
              have g0 := (blk_cell HI7.out.box 0).trans rfl
              have HN := Aside0.mk (HI7.out.put HRt.out hlt (B := W0.heap.size) (v1 := .slice A5 (nd s.nodes i).ints.length c5) (v2 := .slice A6 (nd s.nodes i).texts.length c6) (v3 := .slice A7 (nd s.nodes i).kids.length c7)
                (kNode_mkM HJ.out.r1 HJ.out.r2 (by have h := HJ.out.r3; rw [mapTake_all] at h; exact h)) (Kd.R_lt HI.out.row gn rfl) HI.out.below.size)
              generalize idx s (i : Int) = p at *
              go_wp2
              go_region
              have HN2 := Aside0.mk HN.out.drew
              clear HN
              go_wp2
              go_roundw
              case rel => exact ⟨i + 1, by omega, by go_num, _, HN2⟩
              case measure => simp [intOf]; omega
        · obtain rfl : i = s.nodes.length := by omega
          have HN := Aside0.mk (HI.out.done HRt.out)
          have b0' := (blk_cell HI.out.box 0).trans rfl
          have b1' := (blk_cell HI.out.box 1).trans rfl
          have l0 := (blk_cell HI.out.res 0).trans rfl
          have l0f := blk_frozen HI.out.res 0
          have l1 := (blk_cell (blk_set HI.out.res 0 (.slice (some ⟨gn, 0, none⟩) s.nodes.length s.nodes.length)) 1).trans rfl
          have l1f := blk_frozen (blk_set HI.out.res 0 (.slice (some ⟨gn, 0, none⟩) s.nodes.length s.nodes.length)) 1
          go_wp2
          have h2 := And.intro ((blk_cell (box2 HI.out.res (.slice (some ⟨gn, 0, none⟩) s.nodes.length s.nodes.length) (.int .i64 ((s.nodes.length : Int) - 1))) 0).trans rfl) ((blk_cell (box2 HI.out.res (.slice (some ⟨gn, 0, none⟩) s.nodes.length s.nodes.length) (.int .i64 ((s.nodes.length : Int) - 1))) 1).trans rfl)
          exact bodyPost_ret (v := .tuple #[.agg #[.slice (some ⟨gn, 0, none⟩) s.nodes.length s.nodes.length, .int .i64 ((s.nodes.length : Int) - 1)], .int .i64 0]) (by simp [results, Tryd.results33, go_sem, h2]) rfl
            ⟨some ⟨gn, 0, none⟩, s.nodes.length, by rw [HCR.out, HZ.out, ← HN.out, HI.out.len], by
              rw [HCR.out]
              have h := R_type (R_type HI.out.row HI.out.res (by decide) (.slice (some ⟨gn, 0, none⟩) s.nodes.length s.nodes.length) 0) (blk_set HI.out.res 0 _) (by decide) (.int .i64 ((s.nodes.length : Int) - 1)) 1
              rw [← HN.out]
              have e : l.length = s.nodes.length := HI.out.len
              rw [e]
              exact h, below_set2 HI.out.below (by omega)⟩
  · have HCR : Aside0 (canonR s = ⟨[], 0⟩) := ⟨by unfold canonR; rw [if_neg hz]⟩
    have dz : ((gcheck s).1 != 0) = true := by simpa using hz
    have l0 := (blk_cell HL1.out 0).trans rfl
    have l0f := blk_frozen HL1.out 0
    have l1 := (blk_cell (blk_set HL1.out 0 (.slice none 0 0)) 1).trans rfl
    have l1f := blk_frozen (blk_set HL1.out 0 (.slice none 0 0)) 1
    clear hz
    go_wp2
    have h2 := And.intro ((blk_cell (box2 HL1.out (.slice none 0 0) (.int .i64 0)) 0).trans rfl) ((blk_cell (box2 HL1.out (.slice none 0 0) (.int .i64 0)) 1).trans rfl)
    exact bodyPost_ret (v := .tuple #[.agg #[.slice none 0 0, .int .i64 0], .int .i64 (gcheck s).1]) (by simp [results, Tryd.results33, go_sem, h2]) rfl
      ⟨none, 0, by rw [HCR.out]; rfl, by rw [HCR.out]; exact Kd.R_nil _ _ _ _ _, below_set (below_set HB1.out (by show w.heap.size ≤ w.heap.size + 1; omega)) (by show w.heap.size ≤ w.heap.size + 1; omega)⟩
end Go.Proofs.YtdfneldenipljaaDoor.L
end
section
namespace Go.Proofs.YtdfneldenipljaaDoor.L
open Go.RowKit Go.ChangeShapes Go.WideShapes Go.Proofs.YtdfneldenipljaaDoorW.PrintWords Go.Proofs.YtdfneldenipljaaDoorW.PrintLast Go.Proofs.YtdfneldenipljaaDoorW.PrintMore
attribute [local go_sem] max2_int min2_int max_two min_two max_three min_three max_four min_four
structure Iso (ns ms : List Node) (f : Int → Int) : Prop where
  len : ns.length = ms.length
  pl : ∀ x, Pl ms x → Pl ns (f x)
  inj : ∀ x y, Pl ms x → Pl ms y → f x = f y → x = y
  nd : ∀ x, Pl ms x → nd ns (f x).toNat = ⟨(nd ms x.toNat).kind, (nd ms x.toNat).ints, (nd ms x.toNat).texts, (kids ms x).map f⟩
theorem Iso.kids {ns ms : List Node} {f : Int → Int} (h : Iso ns ms f) {x : Int} (hx : Pl ms x) : L.kids ns (f x) = (L.kids ms x).map f := by
  show (L.nd ns (f x).toNat).kids = _
  rw [h.nd x hx]
theorem Iso.mem {ns ms : List Node} {f : Int → Int} (h : Iso ns ms f) {x : Int} (hx : Pl ms x) {l : List Int} (hl : ∀ y ∈ l, Pl ms y) : f x ∈ l.map f ↔ x ∈ l := by
  refine ⟨fun hm => ?_, fun hm => List.mem_map_of_mem hm⟩
  obtain ⟨y, hy, e⟩ := List.mem_map.1 hm
  rw [h.inj x y hx (hl y hy) e.symm]; exact hy
theorem kids_pl {ms : List Node} (hP : Places ms) {x : Int} (hx : Pl ms x) : ∀ k ∈ kids ms x, Pl ms k := fun k hk => hP x.toNat (by have := hx.1; have := hx.2; omega) k hk
theorem Iso.meet {ns ms : List Node} {f : Int → Int} (h : Iso ns ms f) (hP : Places ms) : ∀ (m : Nat) (a : Int) (met : List Int), Pl ms a → (∀ x ∈ met, Pl ms x) →
    L.meet ns m (f a) (met.map f) = (L.meet ms m a met).map f ∧ ∀ x ∈ L.meet ms m a met, Pl ms x
  | 0, a, met, _, hm => ⟨rfl, hm⟩
  | m + 1, a, met, ha, hm => by
    unfold L.meet
    by_cases hin : a ∈ met
    · rw [if_pos hin, if_pos ((h.mem ha hm).2 hin)]
      exact ⟨rfl, hm⟩
    · rw [if_neg hin, if_neg (fun e => hin ((h.mem ha hm).1 e)), h.kids ha, List.foldl_map]
      have key : ∀ (l met : List Int), (∀ k ∈ l, Pl ms k) → (∀ x ∈ met, Pl ms x) →
          l.foldl (fun v k => L.meet ns m (f k) v) (met.map f) = (l.foldl (fun v k => L.meet ms m k v) met).map f ∧ ∀ x ∈ l.foldl (fun v k => L.meet ms m k v) met, Pl ms x := by
        intro l
        induction l with
        | nil => intro met _ hm; exact ⟨rfl, hm⟩
        | cons k l ih =>
          intro met hl hm
          obtain ⟨e1, e2⟩ := Iso.meet h hP m k met (hl k (by simp)) hm
          rw [List.foldl_cons, List.foldl_cons, e1]
          exact ih _ (fun y hy => hl y (by simp [hy])) e2
      obtain ⟨e1, e2⟩ := key (L.kids ms a) met (kids_pl hP ha) hm
      refine ⟨?_, fun x hx => ?_⟩
      · rw [List.map_append, ← e1]; rfl
      · rcases List.mem_append.1 hx with hx | hx
        · exact e2 x hx
        · rw [List.mem_singleton.1 hx]; exact ha
theorem Iso.rch {ns ms : List Node} {f : Int → Int} (h : Iso ns ms f) (hP : Places ms) {l : List Int} (hl : ∀ k ∈ l, Pl ms k) {x : Int} (hr : Rch ms l x) : Rch ns (l.map f) (f x) ∧ Pl ms x := by
  induction hr with
  | base hk => exact ⟨.base (List.mem_map_of_mem hk), hl _ hk⟩
  | step _ hk ih => exact ⟨.step ih.1 (by rw [h.kids ih.2]; exact List.mem_map_of_mem hk), kids_pl hP ih.2 _ hk⟩
theorem Iso.dag {ns ms : List Node} {f : Int → Int} (h : Iso ns ms f) (hP : Places ms) (hc : ∀ p : Nat, p < ns.length → ¬ Cyc ns p) : Dag ms := by
  refine ⟨hP, fun p hp hcy => ?_⟩
  have hx : Pl ms (p : Int) := ⟨by omega, by omega⟩
  have h1 := (h.rch hP (kids_pl hP hx) hcy).1
  rw [← h.kids hx] at h1
  have hpl := h.pl _ hx
  obtain ⟨q, hq⟩ : ∃ q : Nat, f (p : Int) = (q : Int) := ⟨(f p).toNat, by have := hpl.1; omega⟩
  rw [hq] at h1 hpl
  exact hc q (by have := hpl.2; omega) h1
theorem idxOf_map {f : Int → Int} {P : Int → Prop} (hf : ∀ x y, P x → P y → f x = f y → x = y) {k : Int} (hk : P k) : ∀ l : List Int, (∀ y ∈ l, P y) → (l.map f).idxOf (f k) = l.idxOf k
  | [], _ => rfl
  | y :: l, h => by
    rw [List.map_cons, List.idxOf_cons, List.idxOf_cons, idxOf_map hf hk l (fun z hz => h z (by simp [hz]))]
    by_cases e : y = k
    · rw [e]; simp
    · have : ¬ f y = f k := fun e' => e (hf y k (h y (by simp)) hk e')
      rw [beq_eq_false_iff_ne.2 e, beq_eq_false_iff_ne.2 this]
theorem Iso.ord {s t : Scene} {f : Int → Int} (h : Iso s.nodes t.nodes f) (hP : Places t.nodes) (hr : Pl t.nodes t.root) (he : s.root = f t.root) : L.ord s = (L.ord t).map f ∧ ∀ x ∈ L.ord t, Pl t.nodes x := by
  unfold L.ord M
  rw [he, h.len]
  exact h.meet hP _ _ [] hr (fun x hx => by simp at hx)
theorem Iso.canonL {s t : Scene} {f : Int → Int} (h : Iso s.nodes t.nodes f) (hP : Places t.nodes) (hr : Pl t.nodes t.root) (he : s.root = f t.root) : L.canonL s = L.canonL t := by
  obtain ⟨ho, hop⟩ := h.ord hP hr he
  unfold L.canonL
  rw [ho, List.map_map]
  refine List.map_congr_left (fun a ha => ?_)
  have hap := hop a ha
  show relab s (L.nd s.nodes (f a).toNat) = relab t (L.nd t.nodes a.toNat)
  unfold relab
  rw [h.nd a hap]
  show Node.mk _ _ _ _ = Node.mk _ _ _ _
  congr 1
  rw [List.map_map]
  refine List.map_congr_left (fun k hk => ?_)
  show ((idx s (f k) : Nat) : Int) = (idx t k : Int)
  unfold idx
  rw [ho, idxOf_map (P := Pl t.nodes) h.inj (kids_pl hP hap k hk) _ hop]
theorem Shut.len {ns : List Node} {m : List Int} (h : Shut ns m) : m.length ≤ ns.length := nodup_len h.nd h.pl
theorem shut_next {ns : List Node} {met : List Int} (hs : Shut ns met) (a : Int) : ∀ x ∈ met, ¬ Rch ns (kids ns x) a ∨ a ∈ met := fun x hx => by
  by_cases hr : Rch ns (kids ns x) a
  · right
    have : ∀ y, Rch ns (kids ns x) y → y ∈ met := fun y hy => by
      induction hy with
      | base hb => exact hs.kids x hx _ hb
      | step _ hb ih => exact hs.kids _ ih _ hb
    exact this a hr
  · exact .inl hr
theorem ord_met' {s : Scene} (hd : Dag s.nodes) (hr : Pl s.nodes s.root) : Met s.nodes s.root [] (ord s) := M_met hd _ _ _ (Nat.lt_succ_self _) hr (Shut.nil _) (fun x hx => by simp at hx)
end Go.Proofs.YtdfneldenipljaaDoor.L
end
section
namespace Go.Proofs.YtdfneldenipljaaDoor.L
open Go.RowKit Go.ChangeShapes Go.WideShapes Go.Proofs.YtdfneldenipljaaDoorW.PrintWords Go.Proofs.YtdfneldenipljaaDoorW.PrintLast Go.Proofs.YtdfneldenipljaaDoorW.PrintMore
attribute [local go_sem] max2_int min2_int max_two min_two max_three min_three max_four min_four
theorem canon_iso {s : Scene} (h : Right s) : Iso (canonL s) s.nodes (fun x => (idx s x : Int)) := by
  have hlen : (canonL s).length = s.nodes.length := by
    have := ord_len h
    simp [canonL, this]
  refine ⟨hlen, fun x hx => ?_, fun x y hx hy he => ?_, fun x hx => ?_⟩
  · obtain ⟨q, rfl⟩ : ∃ q : Nat, x = (q : Int) := ⟨x.toNat, by have := hx.1; omega⟩
    have := (at_idx h (p := q) (by have := hx.2; omega)).1
    exact ⟨by omega, by omega⟩
  · obtain ⟨q, rfl⟩ : ∃ q : Nat, x = (q : Int) := ⟨x.toNat, by have := hx.1; omega⟩
    obtain ⟨r, rfl⟩ : ∃ r : Nat, y = (r : Int) := ⟨y.toNat, by have := hy.1; omega⟩
    have := idx_inj h (p := q) (q := r) (by have := hx.2; omega) (by have := hy.2; omega) (by
      have he' : (idx s (q : Int) : Int) = (idx s (r : Int) : Int) := he
      omega)
    rw [this]
  · obtain ⟨q, rfl⟩ : ∃ q : Nat, x = (q : Int) := ⟨x.toNat, by have := hx.1; omega⟩
    obtain ⟨h1, h2⟩ := at_idx h (p := q) (by have := hx.2; omega)
    show nd (canonL s) ((idx s (q : Int) : Int)).toNat = _
    rw [Int.toNat_natCast]
    have hl : idx s (q : Int) < (ord s).length := by rw [ord_len h]; exact h1
    unfold canonL
    unfold nd
    rw [List.getD_eq_getElem?_getD, List.getElem?_map, List.getElem?_eq_getElem hl]
    have h3 : (ord s)[idx s (q : Int)] = (q : Int) := (rd_eq hl).symm.trans h2
    rw [h3]
    rfl
theorem canon_root {s : Scene} (h : Right s) : (s.nodes.length : Int) - 1 = (idx s s.root : Int) := by
  have hpl : Pl s.nodes s.root := ⟨h.r0, h.r1⟩
  have ho : ord s = ML s.nodes (kids s.nodes s.root) [] ++ [s.root] := by
    show M s.nodes s.root [] = _
    exact M_out h.dag hpl (by simp)
  have hl := ord_len h
  have hnd := ord_nodup h
  rw [ho] at hl hnd
  rw [List.length_append, List.length_singleton] at hl
  have hni : ¬ s.root ∈ ML s.nodes (kids s.nodes s.root) [] := fun hm => by
    exact (List.nodup_append.1 hnd).2.2 s.root hm s.root (by simp) rfl
  unfold idx
  rw [ho, List.idxOf_append, if_neg hni]
  simp
  omega
theorem canon_right {s : Scene} (h : Right s) : Right ⟨canonL s, (s.nodes.length : Int) - 1⟩ := by
  have hi := canon_iso h
  have hlen : (canonL s).length = s.nodes.length := hi.len
  have hn : 0 < s.nodes.length := by have := h.r0; have := h.r1; omega
  have hsur : ∀ m : Nat, m < (canonL s).length → ∃ q : Nat, q < s.nodes.length ∧ (m : Int) = (idx s (q : Int) : Int) := fun m hm => by
    obtain ⟨q, hq, hqn⟩ := ord_at h (m := m) (by omega)
    refine ⟨q, hqn, ?_⟩
    have := idx_at h (m := m) (by omega)
    rw [hq] at this
    rw [this]
  refine ⟨by show 0 ≤ (s.nodes.length : Int) - 1; omega, by show (s.nodes.length : Int) - 1 < ((canonL s).length : Int); omega, fun m hm k hk => ?_, fun m hm hc => ?_, fun m hm => ?_⟩
  · obtain ⟨q, hq, e⟩ := hsur m hm
    have hkk : k ∈ kids (canonL s) (idx s (q : Int) : Int) := by rw [← e]; unfold kids; rw [Int.toNat_natCast]; exact hk
    rw [hi.kids ⟨by omega, by omega⟩] at hkk
    obtain ⟨x, hx, rfl⟩ := List.mem_map.1 hkk
    exact hi.pl x (kids_pl h.pl ⟨by omega, by omega⟩ x hx)
  · obtain ⟨q, hq, e⟩ := hsur m hm
    have hqp : Pl s.nodes (q : Int) := ⟨by omega, by omega⟩
    have back : ∀ (l : List Int), (∀ k ∈ l, Pl s.nodes k) → ∀ y, Rch (canonL s) (l.map (fun x => (idx s x : Int))) y → ∃ x, Pl s.nodes x ∧ y = (idx s x : Int) ∧ Rch s.nodes l x := fun l hl y hy => by
      induction hy with
      | base hk =>
        obtain ⟨x, hx, rfl⟩ := List.mem_map.1 hk
        exact ⟨x, hl x hx, rfl, .base hx⟩
      | step _ hk ih =>
        obtain ⟨x, hx, rfl, hrx⟩ := ih
        rw [hi.kids hx] at hk
        obtain ⟨z, hz, rfl⟩ := List.mem_map.1 hk
        exact ⟨z, kids_pl h.pl hx z hz, rfl, .step hrx hz⟩
    have hc' : Rch (canonL s) (kids (canonL s) (m : Int)) (m : Int) := hc
    rw [e, hi.kids hqp] at hc'
    obtain ⟨x, hx, ex, hrx⟩ := back _ (kids_pl h.pl hqp) _ hc'
    have := hi.inj _ _ hqp hx ex
    rw [← this] at hrx
    exact h.cyc q hq hrx
  · obtain ⟨q, hq, e⟩ := hsur m hm
    rw [e]
    have h1 := (hi.rch h.pl (l := [s.root]) (fun k hk => by rw [List.mem_singleton.1 hk]; exact ⟨h.r0, h.r1⟩) (h.all q hq)).1
    show Rch (canonL s) [(s.nodes.length : Int) - 1] _
    rw [canon_root h]
    exact h1
end Go.Proofs.YtdfneldenipljaaDoor.L
end
section
namespace Go.Proofs.YtdfneldenipljaaDoor.L
open Go.RowKit Go.ChangeShapes Go.WideShapes Go.Proofs.YtdfneldenipljaaDoorW.PrintWords Go.Proofs.YtdfneldenipljaaDoorW.PrintLast Go.Proofs.YtdfneldenipljaaDoorW.PrintMore
attribute [local go_sem] max2_int min2_int max_two min_two max_three min_three max_four min_four
theorem ord_iota {s : Scene} (h : Right s) : (ord s).map (fun x => (idx s x : Int)) = iota s.nodes.length := by
  have hl := ord_len h
  refine List.ext_getElem (by rw [List.length_map, hl, iota_len]) (fun m h1 h2 => ?_)
  rw [List.length_map] at h1
  rw [List.getElem_map]
  have h3 := idx_at h (m := m) (by omega)
  rw [rd_eq h1] at h3
  rw [h3]
  have h4 := iota_rd s.nodes.length m (by omega)
  rw [rd_eq h2] at h4
  exact h4.symm
theorem canon_ord {s : Scene} (h : Right s) : ord ⟨canonL s, (s.nodes.length : Int) - 1⟩ = iota s.nodes.length := by
  have hi := canon_iso h
  have := (hi.ord (s := ⟨canonL s, (s.nodes.length : Int) - 1⟩) h.pl ⟨h.r0, h.r1⟩ (canon_root h)).1
  rw [this]
  exact ord_iota h
theorem idxOf_iota (n p : Nat) (h : p < n) : (iota n).idxOf (p : Int) = p := by
  have hp : p < (iota n).length := by rw [iota_len]; exact h
  have hnd : (iota n).Nodup := by
    unfold iota
    refine List.pairwise_map.2 (List.Pairwise.imp ?_ List.nodup_range)
    intro a b hab e
    exact hab (by omega)
  have e : (iota n)[p] = (p : Int) := by have := iota_rd n p h; rwa [rd_eq hp] at this
  have := hnd.idxOf_getElem p hp
  rwa [e] at this
theorem canon_isC {s : Scene} (h : Right s) : isC ⟨canonL s, (s.nodes.length : Int) - 1⟩ = true := by
  have hr := canon_right h
  have hlen : (canonL s).length = s.nodes.length := (canon_iso h).len
  have hn : 0 < s.nodes.length := by have := h.r0; have := h.r1; omega
  have hnum : nums ⟨canonL s, (s.nodes.length : Int) - 1⟩ = iota s.nodes.length := by
    unfold nums
    rw [if_pos (gcheck_right.2 hr)]
    unfold numsL
    show (List.range (canonL s).length).map _ = _
    rw [hlen]
    unfold iota
    refine List.map_congr_left (fun p hp => ?_)
    unfold idx
    rw [canon_ord h, idxOf_iota _ _ (List.mem_range.1 hp)]
  refine decide_eq_true ?_
  rw [hnum, iota_len]
  exact ⟨rfl, hn⟩
theorem isC_idx {s : Scene} (h : Right s) (hc : isC s = true) {p : Nat} (hp : p < s.nodes.length) : idx s (p : Int) = p := by
  have h1 := (of_decide_eq_true hc).1
  have h2 : nums s = numsL s := by unfold nums; rw [if_pos (gcheck_right.2 h)]
  rw [h2, numsL_len] at h1
  have h3 := numsL_rd s p hp
  rw [h1, iota_rd _ _ hp] at h3
  omega
theorem isC_eq {s : Scene} (h : Right s) (hc : isC s = true) : s = ⟨canonL s, (s.nodes.length : Int) - 1⟩ := by
  have hlen : (canonL s).length = s.nodes.length := (canon_iso h).len
  have hroot : s.root = (s.nodes.length : Int) - 1 := by
    have h1 := canon_root h
    obtain ⟨r, hr⟩ : ∃ r : Nat, s.root = (r : Int) := ⟨s.root.toNat, by have := h.r0; omega⟩
    rw [hr] at h1
    rw [isC_idx h hc (p := r) (by have := h.r1; omega)] at h1
    omega
  have hnodes : s.nodes = canonL s := by
    refine List.ext_getElem hlen.symm (fun p h1 h2 => ?_)
    have h3 := (canon_iso h).nd (p : Int) ⟨by omega, by omega⟩
    rw [isC_idx h hc h1, Int.toNat_natCast] at h3
    unfold nd kids nd at h3
    rw [Int.toNat_natCast, getD_eq _ h2, getD_eq _ h1] at h3
    rw [h3]
    generalize hx : s.nodes[p] = x
    have hk : ∀ k ∈ x.kids, Pl s.nodes k := fun k hk => h.pl p h1 k (by unfold nd; rw [getD_eq _ h1, hx]; exact hk)
    have e : x.kids.map (fun x => (idx s x : Int)) = x.kids := by
      conv => rhs; rw [← List.map_id x.kids]
      refine List.map_congr_left (fun k hkk => ?_)
      have hkp := hk k hkk
      obtain ⟨q, rfl⟩ : ∃ q : Nat, k = (q : Int) := ⟨k.toNat, by have := hkp.1; omega⟩
      show ((idx s (q : Int) : Nat) : Int) = _
      rw [isC_idx h hc (by have := hkp.2; omega)]
      rfl
    cases x
    simp only at e ⊢
    rw [e]
  cases s
  simp only at hnodes hroot ⊢
  congr 1
theorem isC_iff {s : Scene} (h : Right s) : isC s = true ↔ (⟨canonL s, (s.nodes.length : Int) - 1⟩ : Scene) = s :=
  ⟨fun hc => (isC_eq h hc).symm, fun e => by have := canon_isC h; rwa [e] at this⟩
end Go.Proofs.YtdfneldenipljaaDoor.L
end
section
namespace Go.Proofs.YtdfneldenipljaaDoor.L
open Go.RowKit Go.ChangeShapes Go.WideShapes Go.Proofs.YtdfneldenipljaaDoorW.PrintWords Go.Proofs.YtdfneldenipljaaDoorW.PrintLast Go.Proofs.YtdfneldenipljaaDoorW.PrintMore
attribute [local go_sem] max2_int min2_int max_two min_two max_three min_three max_four min_four
def PO (ns : List Node) (m : List Int) : Prop := ∀ (a : List Int) (x : Int) (b : List Int), m = a ++ x :: b → ∀ k ∈ kids ns x, k ∈ a
theorem PO.nil (ns : List Node) : PO ns [] := fun a x b e => by
  have := congrArg List.length e
  simp at this
theorem PO.snoc {ns : List Node} {m : List Int} {x : Int} (h : PO ns m) (hk : ∀ k ∈ kids ns x, k ∈ m) : PO ns (m ++ [x]) := fun a y b e => by
  rcases snoc_cases b with rfl | ⟨b', z, rfl⟩
  · have e1 : m ++ [x] = a ++ [y] := e
    obtain ⟨rfl, e2⟩ := List.append_inj' e1 rfl
    injection e2 with e2
    subst e2
    exact hk
  · have e1 : m ++ [x] = (a ++ y :: b') ++ [z] := by rw [e]; simp
    obtain ⟨e2, _⟩ := List.append_inj' e1 rfl
    exact h a y b' e2
theorem M_po {ns : List Node} (h : Dag ns) : ∀ (N : Nat) (a : Int) (met : List Int), reachN ns a < N → Pl ns a → Shut ns met → PO ns met → PO ns (M ns a met)
  | 0, _, _, hN, _, _, _ => by omega
  | N + 1, a, met, hN, ha, hs, hp => by
    by_cases hm : a ∈ met
    · rw [M_in h ha hm]; exact hp
    · rw [M_out h ha hm]
      have key : ∀ (l met : List Int), (∀ k ∈ l, k ∈ kids ns a) → Shut ns met → PO ns met → (PO ns (ML ns l met) ∧ (∀ x ∈ met, x ∈ ML ns l met) ∧ ∀ k ∈ l, k ∈ ML ns l met) := by
        intro l
        induction l with
        | nil => intro met _ hs hp; exact ⟨hp, fun x hx => hx, fun k hk => by simp at hk⟩
        | cons k l ih =>
          intro met hl hs hp
          have hk := hl k (by simp)
          have hN' : reachN ns k < N := by have := h.lower ha hk; omega
          have m1 := M_met h N k met hN' (h.kid ha hk) hs (shut_next hs k)
          have p1 := M_po h N k met hN' (h.kid ha hk) hs hp
          obtain ⟨r1, e1, _⟩ := m1.ext
          obtain ⟨p2, i2, k2⟩ := ih (M ns k met) (fun y hy => hl y (by simp [hy])) m1.shut p1
          rw [ML_cons]
          refine ⟨p2, fun x hx => i2 x (by rw [e1]; exact List.mem_append_left _ hx), fun y hy => ?_⟩
          rcases List.mem_cons.1 hy with rfl | hy
          · exact i2 _ m1.here
          · exact k2 y hy
      obtain ⟨p2, _, k2⟩ := key (kids ns a) met (fun _ hk => hk) hs hp
      exact p2.snoc k2
theorem ord_po {s : Scene} (h : Right s) : PO s.nodes (ord s) := M_po h.dag _ _ _ (Nat.lt_succ_self _) ⟨h.r0, h.r1⟩ (Shut.nil _) (PO.nil _)
theorem idx_kid {s : Scene} (h : Right s) {p : Nat} (hp : p < s.nodes.length) {k : Int} (hk : k ∈ (nd s.nodes p).kids) : idx s k < idx s (p : Int) := by
  obtain ⟨a, b, e⟩ := List.append_of_mem (ord_all h p hp)
  have hka : k ∈ a := ord_po h a (p : Int) b e k (by rw [kids_nat]; exact hk)
  have hnd := ord_nodup h
  have hpa : ¬ (p : Int) ∈ a := fun hm => by
    rw [e] at hnd
    exact (List.nodup_append.1 hnd).2.2 _ hm _ (by simp) rfl
  unfold idx
  rw [e, List.idxOf_append, if_pos hka, List.idxOf_append, if_neg hpa]
  have := List.idxOf_lt_length_of_mem hka
  omega
theorem isC_ahead {s : Scene} (h : Right s) (hc : isC s = true) {p : Nat} (hp : p < s.nodes.length) {k : Int} (hk : k ∈ (nd s.nodes p).kids) : 0 ≤ k ∧ k < (p : Int) := by
  have hpl := h.pl p hp k hk
  obtain ⟨q, rfl⟩ : ∃ q : Nat, k = (q : Int) := ⟨k.toNat, by omega⟩
  have h1 := idx_kid h hp hk
  rw [isC_idx h hc (by omega), isC_idx h hc hp] at h1
  omega
end Go.Proofs.YtdfneldenipljaaDoor.L
end
section
namespace Go.Proofs.YtdfneldenipljaaDoor.L
open Go.RowKit Go.ChangeShapes Go.WideShapes Go.Proofs.YtdfneldenipljaaDoorW.PrintWords Go.Proofs.YtdfneldenipljaaDoorW.PrintLast Go.Proofs.YtdfneldenipljaaDoorW.PrintMore
attribute [local go_sem] max2_int min2_int max_two min_two max_three min_three max_four min_four
section
open Go.Maps
variable {P : Program} {k : TypeId} {w w1 : World} {b n : Nat} {f : Lit → Option Value}
def MapN (P : Program) (k : TypeId) (w : World) (b n : Nat) (f : Lit → Option Value) : Prop :=
  ∃ D : DataW Value, w.ownsMap P k heldE b n D ∧ Maps.size D = n ∧ ∀ q, Maps.has D q = (f q).isSome ∧ ∀ v z, f q = some v → D.atKey q z = .held v
theorem MapN.toF (h : MapN P k w b n f) : MapF P k w b n f := by
  obtain ⟨D, h1, _, h2⟩ := h
  exact ⟨D, h1, h2⟩
theorem MapN.made (P : Program) (k : TypeId) (w : World) : MapN P k (w.alloc (.map #[] 0)) w.heap.size 0 (fun _ => none) :=
  ⟨.map [], World.ownsMap_made w P k heldE, rfl, fun q => ⟨rfl, fun v z h => by cases h⟩⟩
theorem MapN.kept {row : Option Nat} (h : MapN P k w b n f) (hg : w.grownBy w1 row) (hne : some b ≠ row) : MapN P k w1 b n f := by
  obtain ⟨D, h, hs, hf⟩ := h
  exact ⟨D, h.kept hg hne, hs, hf⟩
theorem MapN.below (h : MapN P k w b n f) (hb : Below w.heap.size w w1) : MapN P k w1 b n f := h.kept (row := none) ⟨hb.os, hb.tape, hb.output, hb.size, fun i hi _ => hb.block i hi⟩ (by simp)
theorem MapN.lt (h : MapN P k w b n f) : b < w.heap.size := h.toF.lt
end
section
open Go.Maps
variable {P : Program} (w : World) {ops : Array Oper} {rest : List Oper} {o : Oper} {a : Act} {Q : Exit → Act → World → Prop}
theorem wpList_update_N (hg : o.guard = none) (m x v : Operand) (t : TypeId) (hop : o.op = Op.mapUpdate t m x v)
    (k e : TypeId) (K : Keyed P k) (ht : P.underlying t = some (.map k e)) (b n : Nat) (f : Lit → Option Value)
    (hm : a.eval m = .map (some b)) (hown : MapN P k w b n f) (hn : n < maxLen) (key val : Value) (kl : Lit) (hx : a.eval x = key) (hv : a.eval v = val) (hkey : keyOf P k key = some kl) (hnew : f kl = none)
    (hK : ∀ w', MapN P k w' b (n + 1) (putF f kl val) → w.grownBy w' (some b) → wpList P ops Q rest (a.put o.dst undef) w') :
    wpList P ops Q (o :: rest) a w := by
  obtain ⟨D, hown, hs, hf⟩ := hown
  have hm' := hown.isMap
  have htd := hown.tidy K
  have hkl : WideAt.IsKeyLit kl := K.key hkey
  refine wpList_mapUpdate_own w hg m x v t hop k e K ht heldE b n D hm hown hn key val kl hx hv hkey (.held val) [] rfl ?_
  intro w' h1 h2
  refine hK w' ⟨_, h1, ?_, fun q => ?_⟩ h2
  · rw [Maps.size_put htd]
    have h3 := (hf kl).1
    rw [hnew] at h3
    rw [h3, hs]; rfl
  by_cases hq : q = kl
  · subst hq
    rw [Maps.has_put_same hm' hkl, putF_same]
    refine ⟨rfl, fun u z hu => ?_⟩
    cases hu
    exact Maps.atKey_put_same hm' hkl _ _
  · rw [Maps.has_put_other hq, putF_other f val hq]
    refine ⟨(hf q).1, fun u z hu => ?_⟩
    rw [Maps.atKey_put_other hq]
    exact (hf q).2 u z hu
theorem wpList_len_N (hg : o.guard = none) (m : Operand) (t : TypeId) (hop : o.op = Op.call { callee := Callee.builtin Builtin.len, args := #[m], argTypes := #[t] })
    (k e : TypeId) (ht : P.underlying t = some (.map k e)) (b n : Nat) (f : Lit → Option Value) (hm : a.eval m = .map (some b)) (hown : MapN P k w b n f)
    (hK : wpList P ops Q rest (a.put o.dst (.int .i64 (n : Int))) w) :
    wpList P ops Q (o :: rest) a w := by
  obtain ⟨D, hown, hs, hf⟩ := hown
  refine wpList_len_own w hg m t hop k e ht heldE b n D hm hown ?_
  rw [hs]; exact hK
end
theorem keyW : Maps.Keyed Tryd.prog 9 := Maps.string_keyed Tryd.underlying9
theorem keyW_of {s : List UInt8} (h : s.length ≤ maxLen) : keyOf Tryd.prog 9 (.string ⟨s.toArray⟩) = some (.string s) := by
  have h1 := Go.WideMaps.keyOf_string_mk (P := Tryd.prog) (k := 9) (s := ⟨s.toArray⟩) Tryd.underlying9 (by show s.toArray.size ≤ _; simpa using h)
  simpa using h1
theorem zeroIW (w : World) : (zeroValue 3).run Tryd.prog w = .ok (.int .i64 0) w := by kernel_rfl
def numF (vs : List (List UInt8)) : Lit → Option Value
  | .string x => if x ∈ vs then some (.int .i64 (vs.idxOf x : Int)) else none
  | _ => none
theorem numF_nil : numF [] = fun _ => none := by
  funext q
  cases q <;> rfl
theorem numF_in {vs : List (List UInt8)} {x : List UInt8} (h : x ∈ vs) (z : Value) : (numF vs (.string x)).getD z = .int .i64 (vs.idxOf x : Int) ∧ (numF vs (.string x)).isSome = true := by
  unfold numF
  dsimp only
  rw [if_pos h]; exact ⟨rfl, rfl⟩
theorem numF_out {vs : List (List UInt8)} {x : List UInt8} (h : ¬ x ∈ vs) (z : Value) : (numF vs (.string x)).getD z = z ∧ (numF vs (.string x)).isSome = false ∧ numF vs (.string x) = none := by
  unfold numF
  dsimp only
  rw [if_neg h]; exact ⟨rfl, rfl, rfl⟩
theorem numF_put {vs : List (List UInt8)} {x : List UInt8} (h : ¬ x ∈ vs) : putF (numF vs) (.string x) (.int .i64 (vs.length : Int)) = numF (vs ++ [x]) := by
  funext q
  by_cases hq : q = .string x
  · subst hq
    rw [putF_same]
    unfold numF
    dsimp only
    rw [if_pos (by simp), List.idxOf_append, if_neg h]
    simp
  · rw [putF_other _ _ hq]
    cases q with
    | string y =>
      have hy : y ≠ x := fun e => hq (by rw [e])
      unfold numF
      dsimp only
      by_cases hm : y ∈ vs
      · rw [if_pos hm, if_pos (by simp [hm]), List.idxOf_append, if_pos hm]
      · rw [if_neg hm, if_neg (by simp [hm, hy])]
    | _ => rfl
def kInts : Kd (List Int) := Kd.slice 3 (Kd.int .i64)
structure ClsIn (w Wg : World) (mb : Nat) (vs : List (List UInt8)) (own : List Int) (v : Value) (W : World) : Prop where
  map : MapN Tryd.prog 9 W mb vs.length (numF vs)
  own : (Kd.int .i64).R 3 W w.heap.size (fun q => Wg.heap.size ≤ q) v own
  grown : Wg.grownBy W (some mb)
  below : Below w.heap.size w W
theorem grown_below {Wg W W1 : World} {row : Option Nat} (h : Wg.grownBy W row) (hb : Below W.heap.size W W1) : Wg.grownBy W1 row :=
  ⟨hb.os.trans h.os, hb.tape.trans h.tape, hb.output.trans h.output, Nat.le_trans h.size hb.size, fun i hi hr => (hb.block i (Nat.lt_of_lt_of_le hi h.size)).trans (h.block i hi hr)⟩
theorem ClsIn.later {w Wg : World} {mb : Nat} {vs : List (List UInt8)} {own : List Int} {v : Value} {W W1 : World} (h : ClsIn w Wg mb vs own v W) (hb : Below W.heap.size W W1) : ClsIn w Wg mb vs own v W1 :=
  ⟨h.map.below hb, Kd.R_grown (row := none) h.own ⟨hb.os, hb.tape, hb.output, hb.size, fun i hi _ => hb.block i hi⟩ (fun _ _ => by simp), grown_below h.grown hb, below_step h.below hb⟩
structure ClsOut (w : World) (mb : Nat) (vs : List (List UInt8)) (outs : List (List Int)) (v : Value) (W : World) : Prop where
  map : MapN Tryd.prog 9 W mb vs.length (numF vs)
  out : kInts.R 31 W w.heap.size (fun _ => True) v outs
  below : Below w.heap.size w W
  ge : w.heap.size ≤ mb
theorem ClsOut.later {w : World} {mb : Nat} {vs : List (List UInt8)} {outs : List (List Int)} {v : Value} {W W1 : World} (h : ClsOut w mb vs outs v W) (hb : Below W.heap.size W W1) : ClsOut w mb vs outs v W1 :=
  ⟨h.map.below hb, Kd.R_grown (row := none) h.out ⟨hb.os, hb.tape, hb.output, hb.size, fun i hi _ => hb.block i hi⟩ (fun _ _ => by simp), below_step h.below hb, h.ge⟩
theorem own_vs_len (T : Lib.PrintTabs) (vs : List (List UInt8)) : ∀ (n : Nat) (ns : List Node), ns.length = n → (ownS T vs ns).1.length ≤ vs.length + n
  | n, ns, hn => by
    rcases snoc_cases ns with rfl | ⟨l, x, rfl⟩
    · show vs.length ≤ _; omega
    · rw [own_snoc]
      match n, hn with
      | 0, hn => simp at hn
      | n + 1, hn =>
        have := own_vs_len T vs n l (by simpa using hn)
        show (addW (ownS T vs l).1 _).length ≤ _
        unfold addW
        split
        · omega
        · simp; omega
theorem all_vs_len (T : Lib.PrintTabs) : ∀ (n : Nat) (l : List Scene), l.length = n → (∀ s ∈ l, s.nodes.length ≤ 400000) → (allS T l).1.length ≤ n * 400000
  | n, l, hn, hs => by
    rcases snoc_cases l with rfl | ⟨l, x, rfl⟩
    · show 0 ≤ _; omega
    · rw [all_snoc]
      match n, hn with
      | 0, hn => simp at hn
      | n + 1, hn =>
        have h1 := all_vs_len T n l (by simpa using hn) (fun s h => hs s (by simp [h]))
        have h2 := own_vs_len T (allS T l).1 x.nodes.length x.nodes rfl
        have h3 := hs x (by simp)
        show (ownS T (allS T l).1 x.nodes).1.length ≤ _
        rw [Nat.succ_mul]
        omega
theorem own_vals (T : Lib.PrintTabs) (vs : List (List UInt8)) (ns : List Node) : ∀ x ∈ (ownS T vs ns).2, 0 ≤ x ∧ x ≤ ((ownS T vs ns).1.length : Int) := by
  intro x hx
  obtain ⟨i, hi, rfl⟩ := List.getElem_of_mem hx
  obtain ⟨h1, h2⟩ := own_riseN T vs ns.length (ns := ns) rfl
  rw [own_len T vs ns.length ns rfl] at hi
  have h3 := h1 i hi
  have h4 := cnt_mono (ownS T vs ns).2 vs.length (i := i) (j := ns.length) (by omega)
  rw [rd_eq (by rw [own_len T vs ns.length ns rfl]; exact hi)] at h3
  omega
theorem nodeW_len (T : Lib.PrintTabs) {n : Node} {own : List Int} (hs : Small n) (hts : ∀ x ∈ n.texts, x.size ≤ 1000000) (hn : NBd n) (hk : ∀ k ∈ n.kids, 0 ≤ k ∧ k < (own.length : Int)) (hoB : ∀ x ∈ own, I64 x) : (nodeW T n own).length ≤ maxLen := by
  have h1 := itoa_len hn.kind
  have h2 := wNums_len hn.ints
  have h3 := wTexts_len T hts
  have h4 := wNums_len (l := n.kids.map (rd own)) (fun x hx => by
    obtain ⟨q, hq, rfl⟩ := List.mem_map.1 hx
    have h1 := hk q hq
    obtain ⟨p, rfl⟩ : ∃ p : Nat, q = (p : Int) := ⟨q.toNat, by omega⟩
    exact hoB _ (rd_mem (by omega)))
  rw [List.length_map] at h4
  have e : (nodeW T n own).length = (Lib.itoa n.kind).length + ((wNums n.ints).length + ((wTexts T n.texts).length + (2 + (wNums (n.kids.map (rd own))).length))) := by
    unfold nodeW wordL
    simp only [List.length_append, List.length_cons]
    omega
  have h5 := hs.1
  have h6 := hs.2.1
  have h7 := hs.2.2
  unfold maxLen
  omega
end Go.Proofs.YtdfneldenipljaaDoor.L
end
section
namespace Go.Proofs.YtdfneldenipljaaDoor.L
open Go.RowKit Go.ChangeShapes Go.WideShapes Go.Proofs.YtdfneldenipljaaDoorW.PrintWords Go.Proofs.YtdfneldenipljaaDoorW.PrintLast Go.Proofs.YtdfneldenipljaaDoorW.PrintMore
attribute [local go_sem] max2_int min2_int max_two min_two max_three min_three max_four min_four
def kScene : Kd Scene := Kd.iso (Kd.pair (Kd.slice 52 kNode) (Kd.int .i64)) (fun x : Scene => (x.nodes, x.root))
theorem kScene_open {w : World} {x : Scene} {cs : List Value} (h : kScene.K w x cs) : ∃ A c, cs = [.slice A x.nodes.length c, .int .i64 x.root] ∧ x.nodes.length ≤ c ∧ kNode.C w A x.nodes.length x.nodes := by
  obtain ⟨_, _, rfl, ⟨A, c, rfl, l, h⟩, rfl⟩ := h
  exact ⟨A, c, rfl, l, h⟩
def sc (xs : List Scene) (i : Nat) : Scene := xs.getD i ⟨[], 0⟩
theorem at_scene {w : World} {A : Option Addr} {n : Nat} {xs : List Scene} (h : kScene.C w A n xs) (i : Nat) (h1 : i < n) :
    ∃ ad B d, A = some ad ∧ w.cell? (ad.add (i * 2)) = some (.slice B (sc xs i).nodes.length d) ∧ w.cell? ⟨(ad.add (i * 2)).block, (ad.add (i * 2)).off + 1, none⟩ = some (.int .i64 (sc xs i).root) ∧ (sc xs i).nodes.length ≤ d ∧ kNode.C w B (sc xs i).nodes.length (sc xs i).nodes := by
  obtain ⟨ad, c, e, _, hK, hc0⟩ := Kd.C_get h ⟨[], 0⟩ (i : Int) (by omega) (by omega)
  have hc : ∀ j u, c[j]? = some u → w.cell? (ad.add (i * 2 + j)) = some u := fun j u h => by simpa [show kScene.sz = 2 from rfl] using hc0 j u h
  have hK' : kScene.K w (sc xs i) c := by simpa [sc] using hK
  obtain ⟨B, d, rfl, hl, hN⟩ := kScene_open hK'
  refine ⟨ad, B, d, e, hc 0 _ rfl, ?_, hl, hN⟩
  rw [← add_field _ _ 1 (by omega)]; exact hc 1 _ rfl
end Go.Proofs.YtdfneldenipljaaDoor.L
end
section
namespace Go.Proofs.YtdfneldenipljaaDoor.L
open Go.RowKit Go.ChangeShapes Go.WideShapes Go.Proofs.YtdfneldenipljaaDoorW.PrintWords Go.Proofs.YtdfneldenipljaaDoorW.PrintLast Go.Proofs.YtdfneldenipljaaDoorW.PrintMore
attribute [local go_sem] max2_int min2_int max_two min_two max_three min_three max_four min_four
def ScBd (s : Scene) : Prop := (∀ i : Nat, i < s.nodes.length → Small (nd s.nodes i) ∧ (∀ x ∈ (nd s.nodes i).texts, x.size ≤ 1000000) ∧ NBd (nd s.nodes i)) ∧ rows s.nodes ≤ 400000
theorem take_sc {l : List Scene} {i : Nat} (h : i < l.length) : l.take (i + 1) = l.take i ++ [sc l i] := by rw [take_succ_getD ⟨[], 0⟩ h]; rfl
theorem take_nd' {l : List Node} {i : Nat} (h : i < l.length) : l.take (i + 1) = l.take i ++ [nd l i] := by rw [take_succ_getD nodez h]; rfl
theorem grown_trans {Wg W W1 : World} {mb : Nat} {row : Option Nat} (h : Wg.grownBy W (some mb)) (hg : W.grownBy W1 row) (hr : ∀ k, row = some k → k = mb ∨ Wg.heap.size ≤ k) : Wg.grownBy W1 (some mb) :=
  ⟨hg.os.trans h.os, hg.tape.trans h.tape, hg.output.trans h.output, Nat.le_trans h.size hg.size, fun i hi hn => (hg.block i (Nat.lt_of_lt_of_le hi h.size) (fun e => by
    rcases hr i e.symm with h1 | h1
    · exact hn (by rw [h1])
    · omega)).trans (h.block i hi hn)⟩
theorem ClsIn.pushed {w Wg W W2 : World} {mb : Nat} {us : List (List UInt8)} {own : List Int} {x : Int} {v v2 : Value} (h : ClsIn w Wg mb us own v W) (hR : (Kd.int .i64).R 3 W2 w.heap.size (fun q => Wg.heap.size ≤ q) v2 (own ++ [x])) (hB : Below w.heap.size w W2) (hg : W.grownBy W2 v.ownBlock) : ClsIn w Wg mb us (own ++ [x]) v2 W2 :=
  ⟨h.map.kept hg (h.map.toF.ne_row h.own), hR, grown_trans h.grown hg (fun k hk => .inr (h.own.1 k hk)), hB⟩
theorem ClsIn.put {w Wg W W2 : World} {mb : Nat} {us : List (List UInt8)} {own : List Int} {x : List UInt8} {v : Value} (h : ClsIn w Wg mb us own v W) (hx : ¬ x ∈ us) (hM : MapN Tryd.prog 9 W2 mb (us.length + 1) (putF (numF us) (.string x) (.int .i64 (us.length : Int)))) (hg : W.grownBy W2 (some mb)) (hmb : w.heap.size ≤ mb) : ClsIn w Wg mb (us ++ [x]) own v W2 := by
  rw [numF_put hx] at hM
  exact ⟨by rw [List.length_append]; exact hM, R_past_map h.own h.map.toF hg, grown_trans h.grown hg (fun k hk => .inl (by injection hk with hk; exact hk.symm)), below_map h.below h.below.size hg hmb⟩
theorem ClsIn.whole {w Wg W : World} {mb : Nat} {vs us : List (List UInt8)} {outs : List (List Int)} {own : List Int} {vo v : Value} (ho : ClsOut w mb vs outs vo Wg) (h : ClsIn w Wg mb us own v W) : kInts.R 31 W w.heap.size (fun q => q < Wg.heap.size) vo outs :=
  Kd.R_mono (Kd.R_grown (Kd.R_bound ho.out) h.grown (fun q hq he => by
    obtain ⟨_, _, _, e', _, cells, hc⟩ := hq
    injection he with he
    subst he
    exact ho.map.toF.not_cells hc)) (fun q hq => hq.2.2.1)
theorem ClsOut.pushed {w Wg W W2 : World} {mb : Nat} {us : List (List UInt8)} {outs : List (List Int)} {own : List Int} {vo v v2 : Value} (h : ClsIn w Wg mb us own v W) (ho : kInts.R 31 W w.heap.size (fun q => q < Wg.heap.size) vo outs) (hR : kInts.R 31 W2 w.heap.size (fun _ => True) v2 (outs ++ [own])) (hB : Below w.heap.size w W2) (hg : W.grownBy W2 vo.ownBlock) (hm : w.heap.size ≤ mb) : ClsOut w mb us (outs ++ [own]) v2 W2 :=
  ⟨h.map.kept hg (h.map.toF.ne_row ho), hR, hB, hm⟩
end Go.Proofs.YtdfneldenipljaaDoor.L
end
section
namespace Go.Proofs.YtdfneldenipljaaDoor.L
open Go.RowKit Go.ChangeShapes Go.WideShapes Go.Proofs.YtdfneldenipljaaDoorW.PrintWords Go.Proofs.YtdfneldenipljaaDoorW.PrintLast Go.Proofs.YtdfneldenipljaaDoorW.PrintMore
attribute [local go_sem] max2_int min2_int max_two min_two max_three min_three max_four min_four
theorem all_len (T : Lib.PrintTabs) : ∀ (n : Nat) (m : List Scene), m.length = n → (allS T m).2.length = n
  | 0, m, hm => by obtain rfl := List.eq_nil_of_length_eq_zero hm; rfl
  | n + 1, m, hm => by
    rcases snoc_cases m with rfl | ⟨m, x, rfl⟩
    · simp at hm
    · rw [all_snoc]
      show ((allS T m).2 ++ [_]).length = n + 1
      rw [List.length_append, all_len T n m (by simpa using hm)]; rfl
theorem out_at (T : Lib.PrintTabs) : ∀ (n : Nat) (l : List Scene), l.length = n → ∀ i : Nat, i < l.length → (allS T l).2.getD i [] = (ownS T (allS T (l.take i)).1 (sc l i).nodes).2
  | 0, l, hn, i, hi => by omega
  | n + 1, l, hn, i, hi => by
    rcases snoc_cases l with rfl | ⟨m, x, rfl⟩
    · simp at hn
    · have hm : m.length = n := by simpa using hn
      have hl := all_len T n m hm
      rw [all_snoc]
      show ((allS T m).2 ++ [_]).getD i [] = _
      by_cases h : i < m.length
      · rw [getD_snoc_lt (by omega), out_at T n m hm i h, List.take_append_of_le_length (by omega)]
        have : sc (m ++ [x]) i = sc m i := by unfold sc; exact getD_snoc_lt h
        rw [this]
      · have : i = m.length := by simp at hi; omega
        subst this
        have h2 : sc (m ++ [x]) m.length = x := by unfold sc; exact getD_snoc_eq
        rw [h2, List.take_left']
        · conv => lhs; arg 2; rw [hm, ← hl]
          exact getD_snoc_eq
        · rfl
end Go.Proofs.YtdfneldenipljaaDoor.L
end
section
namespace Go.Proofs.YtdfneldenipljaaDoor.L
open Go.RowKit Go.ChangeShapes Go.WideShapes Go.Proofs.YtdfneldenipljaaDoorW.PrintWords Go.Proofs.YtdfneldenipljaaDoorW.PrintLast Go.Proofs.YtdfneldenipljaaDoorW.PrintMore
attribute [local go_sem] max2_int min2_int max_two min_two max_three min_three max_four min_four
def greatN (n : Node) : Bool := decide (100 < n.ints.length ∨ 100 < n.texts.length ∨ 300 < n.kids.length ∨ ∃ j, j < n.texts.length ∧ 500 < (str n.texts j).size)
set_option maxRecDepth 100000 in
set_option maxHeartbeats 2000000 in
theorem great_any (n : Node) (A1 : Option Addr) (c1 : Nat) (A2 : Option Addr) (c2 : Nat) (A3 : Option Addr) (c3 : Nat) (w : World) (h : NodeC w n A1 c1 A2 c2 A3 c3) :
    Calls Tryd.prog 41 #[.agg #[.int .i64 n.kind, .slice A1 n.ints.length c1, .slice A2 n.texts.length c2, .slice A3 n.kids.length c3]] w fun e w' => e = .returned (.bool (greatN n)) ∧ Below w.heap.size w w' := by
  have HN := Aside0.mk h
  have b2 := h.t.2.1
  have hB := below_alloc (Below.refl w.heap.size w) (.cells #[.int .i64 n.kind, .slice A1 n.ints.length c1, .slice A2 n.texts.length c2, .slice A3 n.kids.length c3] 52)
  have HB := Aside0.mk hB
  have HX := Aside0.mk (show (w.alloc (.cells #[.int .i64 n.kind, .slice A1 n.ints.length c1, .slice A2 n.texts.length c2, .slice A3 n.kids.length c3] 52)).heap[w.heap.size]? = some (.cells #[.int .i64 n.kind, .slice A1 n.ints.length c1, .slice A2 n.texts.length c2, .slice A3 n.kids.length c3] 52 (0, 0)) from by simpa using heap_alloc_new w _)
  have k1 := (blk_cell HX.out 1).trans rfl
  have k2 := (blk_cell HX.out 2).trans rfl
  have k3 := (blk_cell HX.out 3).trans rfl
  have hun := Tryd.underlying52
  clear h hB
  by_cases h1 : 100 < n.ints.length
  · have HE : Aside0 (greatN n = true) := ⟨decide_eq_true (.inl h1)⟩
    have d1 : decide (100 < (n.ints.length : Int)) = true := decide_eq_true (by omega)
    clear h1
    go_enter Tryd.func41, Tryd.ntmps41
    go_wp2
    go_ret
    exact ⟨ret_bool HE.out.symm, HB.out⟩
  have d1 : decide (100 < (n.ints.length : Int)) = false := decide_eq_false (by omega)
  by_cases h2 : 100 < n.texts.length
  · have HE : Aside0 (greatN n = true) := ⟨decide_eq_true (.inr (.inl h2))⟩
    have d2 : decide (100 < (n.texts.length : Int)) = true := decide_eq_true (by omega)
    clear h1 h2
    go_enter Tryd.func41, Tryd.ntmps41
    go_wp2
    go_ret
    exact ⟨ret_bool HE.out.symm, HB.out⟩
  have d2 : decide (100 < (n.texts.length : Int)) = false := decide_eq_false (by omega)
  by_cases h3 : 300 < n.kids.length
  · have HE : Aside0 (greatN n = true) := ⟨decide_eq_true (.inr (.inr (.inl h3)))⟩
    have d3 : decide (300 < (n.kids.length : Int)) = true := decide_eq_true (by omega)
    clear h1 h2 h3
    go_enter Tryd.func41, Tryd.ntmps41
    go_wp2
    go_ret
    exact ⟨ret_bool HE.out.symm, HB.out⟩
  have d3 : decide (300 < (n.kids.length : Int)) = false := decide_eq_false (by omega)
  have H123 : Aside0 (¬ 100 < n.ints.length ∧ ¬ 100 < n.texts.length ∧ ¬ 300 < n.kids.length) := ⟨h1, h2, h3⟩
  clear h1 h2 h3
  go_enter Tryd.func41, Tryd.ntmps41
  go_wp2
  clear d1 d2 d3
  go_loopw [3] (fun v3 W => ∃ i : Nat, i ≤ n.texts.length ∧ v3 = .int .i64 i ∧ W = w.alloc (.cells #[.int .i64 n.kind, .slice A1 n.ints.length c1, .slice A2 n.texts.length c2, .slice A3 n.kids.length c3] 52) ∧ Aside0 (∀ j, j < i → ¬ 500 < (str n.texts j).size)) (fun v3 _ => n.texts.length - (intOf v3).toNat)
  case atStart => exact ⟨0, by omega, rfl, by first | rfl | trivial, ⟨fun j h => by omega⟩⟩
  case round =>
    obtain ⟨i, hi, rfl, rfl, HA⟩ := hrel
    by_cases hlt : i < n.texts.length
    · obtain ⟨ad, rfl, x⟩ := at_str (Kd.C_below HN.out.t HB.out) i hlt
      by_cases hg : 500 < (str n.texts i).size
      · have HE : Aside0 (greatN n = true) := ⟨decide_eq_true (.inr (.inr (.inr ⟨i, hlt, hg⟩)))⟩
        have d5 : decide (500 < ((str n.texts i).size : Int)) = true := decide_eq_true (by omega)
        clear hg
        go_wp2
        go_ret
        exact ⟨ret_bool HE.out.symm, HB.out⟩
      · have HA2 := Aside0.mk (ext_lt HA.out hg)
        have d5 : decide (500 < ((str n.texts i).size : Int)) = false := decide_eq_false (by omega)
        clear hg
        go_wp2
        go_roundw
        case rel => exact ⟨i + 1, by omega, by go_num, by first | rfl | trivial, HA2⟩
        case measure => simp [intOf]; omega
    · obtain rfl : i = n.texts.length := by omega
      have HE : Aside0 (greatN n = false) := ⟨decide_eq_false (fun h => by
        rcases h with h | h | h | ⟨j, hj, h⟩
        · exact H123.out.1 h
        · exact H123.out.2.1 h
        · exact H123.out.2.2 h
        · exact HA.out j hj h)⟩
      go_wp2
      go_ret
      exact ⟨ret_bool HE.out.symm, HB.out⟩
end Go.Proofs.YtdfneldenipljaaDoor.L
end
section
namespace Go.Proofs.YtdfneldenipljaaDoor.L
open Go.RowKit Go.ChangeShapes Go.WideShapes Go.Proofs.YtdfneldenipljaaDoorW.PrintWords Go.Proofs.YtdfneldenipljaaDoorW.PrintLast Go.Proofs.YtdfneldenipljaaDoorW.PrintMore
attribute [local go_sem] max2_int min2_int max_two min_two max_three min_three max_four min_four
structure SetV where
  text : Bool
  field : Int
  n : Int
  s : ByteArray
def kSet : Kd SetV := Kd.iso (Kd.pair Kd.bool (Kd.pair (Kd.int .i64) (Kd.pair (Kd.int .i64) Kd.string))) (fun x : SetV => (x.text, x.field, x.n, x.s))
theorem kSet_mk (w : World) (base : Nat) (ok : Nat → Prop) (x : SetV) : kSet.M w base ok x [.bool x.text, .int .i64 x.field, .int .i64 x.n, .string x.s] := ⟨[_], [_, _, _], rfl, rfl, ⟨[_], [_, _], rfl, rfl, ⟨[_], [_], rfl, rfl, rfl⟩⟩⟩
theorem info_set : (Tryd.prog.info? 94).map (fun i => (i.zero, i.size, i.bytes)) = some (some (.agg #[.bool false, .int .i64 0, .int .i64 0, .string ByteArray.empty]), 4, 40) := by kernel_rfl
def diffI (a b : List Int) (i : Nat) : List SetV := ((List.range i).filter (fun p : Nat => decide (¬ rd a (p : Int) = rd b (p : Int)))).map (fun p : Nat => ⟨false, (p : Int), rd b (p : Int), ByteArray.empty⟩)
def diffT (a b : List ByteArray) (i : Nat) : List SetV := ((List.range i).filter (fun p : Nat => decide (¬ str a p = str b p))).map (fun p : Nat => ⟨true, (p : Int), 0, str b p⟩)
theorem diffI_yes {a b : List Int} {i : Nat} (h : ¬ rd a (i : Int) = rd b (i : Int)) : diffI a b (i + 1) = diffI a b i ++ [⟨false, (i : Int), rd b (i : Int), ByteArray.empty⟩] := by
  unfold diffI
  rw [List.range_succ, List.filter_append, List.map_append, List.filter_cons, if_pos (decide_eq_true h)]
  rfl
theorem diffI_no {a b : List Int} {i : Nat} (h : rd a (i : Int) = rd b (i : Int)) : diffI a b (i + 1) = diffI a b i := by
  unfold diffI
  rw [List.range_succ, List.filter_append, List.map_append, List.filter_cons, if_neg (by simp [h])]
  simp
theorem diffT_yes {a b : List ByteArray} {i : Nat} (h : ¬ str a i = str b i) : diffT a b (i + 1) = diffT a b i ++ [⟨true, (i : Int), 0, str b i⟩] := by
  unfold diffT
  rw [List.range_succ, List.filter_append, List.map_append, List.filter_cons, if_pos (decide_eq_true h)]
  rfl
theorem diffT_no {a b : List ByteArray} {i : Nat} (h : str a i = str b i) : diffT a b (i + 1) = diffT a b i := by
  unfold diffT
  rw [List.range_succ, List.filter_append, List.map_append, List.filter_cons, if_neg (by simp [h])]
  simp
theorem diffI_len (a b : List Int) (i : Nat) : (diffI a b i).length ≤ i := by
  unfold diffI
  rw [List.length_map]
  exact Nat.le_trans (List.length_filter_le _ _) (by simp)
theorem diffT_len (a b : List ByteArray) (i : Nat) : (diffT a b i).length ≤ i := by
  unfold diffT
  rw [List.length_map]
  exact Nat.le_trans (List.length_filter_le _ _) (by simp)
def alike (a b : Node) : Bool := decide (a.kind = b.kind ∧ a.ints.length = b.ints.length ∧ a.texts.length = b.texts.length)
def diffL (a b : Node) : List SetV := if alike a b = true then diffI a.ints b.ints a.ints.length ++ diffT a.texts b.texts a.texts.length else []
theorem diffL_nil {a b : Node} (h : alike a b = true) : (diffL a b = [] ↔ a.ints = b.ints ∧ a.texts = b.texts) := by
  unfold diffL
  rw [if_pos h, List.append_eq_nil_iff]
  obtain ⟨_, h1, h2⟩ := of_decide_eq_true h
  unfold diffI diffT
  rw [List.map_eq_nil_iff, List.map_eq_nil_iff, List.filter_eq_nil_iff, List.filter_eq_nil_iff]
  constructor
  · rintro ⟨k1, k2⟩
    refine ⟨List.ext_getElem h1 (fun i i1 i2 => ?_), List.ext_getElem h2 (fun i i1 i2 => ?_)⟩
    · have := k1 i (List.mem_range.2 i1)
      rw [← rd_eq i1, ← rd_eq i2]
      simpa using this
    · have := k2 i (List.mem_range.2 i1)
      have e : str a.texts i = str b.texts i := by simpa using this
      unfold str at e
      rw [getD_eq _ i1, getD_eq _ i2] at e
      exact e
  · rintro ⟨k1, k2⟩
    exact ⟨fun i _ => by rw [k1]; simp, fun i _ => by rw [k2]; simp⟩
end Go.Proofs.YtdfneldenipljaaDoor.L
end
section
namespace Go.Proofs.YtdfneldenipljaaDoor.L
open Go.RowKit Go.ChangeShapes Go.WideShapes Go.Proofs.YtdfneldenipljaaDoorW.PrintWords Go.Proofs.YtdfneldenipljaaDoorW.PrintLast Go.Proofs.YtdfneldenipljaaDoorW.PrintMore
attribute [local go_sem] max2_int min2_int max_two min_two max_three min_three max_four min_four
theorem str_ne {x y : ByteArray} (h : ¬ x = y) : (!(x.toList == y.toList)) = true := by
  have : ¬ x.toList = y.toList := fun e => h (by
    rw [ByteArray.toList_eq, ByteArray.toList_eq] at e
    exact ByteArray.ext (Array.toList_inj.mp e))
  simp [this]
structure DRel (a b : Node) (A1 : Option Addr) (c1 : Nat) (A2 : Option Addr) (c2 : Nat) (A3 : Option Addr) (c3 : Nat) (B1 : Option Addr) (d1 : Nat) (B2 : Option Addr) (d2 : Nat) (B3 : Option Addr) (d3 : Nat) (w : World) (L : List SetV) (v : Value) (W : World) : Prop where
  row : kSet.R 94 W w.heap.size (fun _ => True) v L
  below : Below w.heap.size w W
  ba : W.heap[w.heap.size]? = some (.cells #[.int .i64 a.kind, .slice A1 a.ints.length c1, .slice A2 a.texts.length c2, .slice A3 a.kids.length c3] 52 (0, 0))
  bb : W.heap[w.heap.size + 1]? = some (.cells #[.int .i64 b.kind, .slice B1 a.ints.length d1, .slice B2 a.texts.length d2, .slice B3 b.kids.length d3] 52 (0, 0))
theorem DRel.drew {a b : Node} {A1 : Option Addr} {c1 : Nat} {A2 : Option Addr} {c2 : Nat} {A3 : Option Addr} {c3 : Nat} {B1 : Option Addr} {d1 : Nat} {B2 : Option Addr} {d2 : Nat} {B3 : Option Addr} {d3 : Nat} {w : World} {L : List SetV} {v : Value} {W : World} (h : DRel a b A1 c1 A2 c2 A3 c3 B1 d1 B2 d2 B3 d3 w L v W) : DRel a b A1 c1 A2 c2 A3 c3 B1 d1 B2 d2 B3 d3 w L v W.drew :=
  ⟨Kd.R_drew h.row, pw_below_drewN h.below 1, h.ba, h.bb⟩
def DiffPost (a b : Node) (w : World) (e : Ending) (w' : World) : Prop :=
  ∃ A c, e = .returned (.tuple #[.slice A (diffL a b).length c, .bool (alike a b)]) ∧ kSet.R 94 w' w.heap.size (fun _ => True) (.slice A (diffL a b).length c) (diffL a b) ∧ Below w.heap.size w w'
set_option maxRecDepth 100000 in
set_option maxHeartbeats 4000000 in
theorem diff_any (a b : Node) (A1 : Option Addr) (c1 : Nat) (A2 : Option Addr) (c2 : Nat) (A3 : Option Addr) (c3 : Nat) (B1 : Option Addr) (d1 : Nat) (B2 : Option Addr) (d2 : Nat) (B3 : Option Addr) (d3 : Nat) (w : World) (h : NodeC w a A1 c1 A2 c2 A3 c3) (h' : NodeC w b B1 d1 B2 d2 B3 d3) (hs : Small a) :
    Calls Tryd.prog 58 #[.agg #[.int .i64 a.kind, .slice A1 a.ints.length c1, .slice A2 a.texts.length c2, .slice A3 a.kids.length c3], .agg #[.int .i64 b.kind, .slice B1 b.ints.length d1, .slice B2 b.texts.length d2, .slice B3 b.kids.length d3]] w (DiffPost a b w) := by
  have HA := Aside0.mk h
  have HBn := Aside0.mk h'
  have hs1 := hs.1
  have hs2 := hs.2.1
  have hun := Tryd.underlying52
  have hset := Tryd.underlying94
  have HB := Aside0.mk (below_alloc (below_alloc (Below.refl w.heap.size w) (.cells #[.int .i64 a.kind, .slice A1 a.ints.length c1, .slice A2 a.texts.length c2, .slice A3 a.kids.length c3] 52)) (.cells #[.int .i64 b.kind, .slice B1 b.ints.length d1, .slice B2 b.texts.length d2, .slice B3 b.kids.length d3] 52))
  have HXa := Aside0.mk (show ((w.alloc (.cells #[.int .i64 a.kind, .slice A1 a.ints.length c1, .slice A2 a.texts.length c2, .slice A3 a.kids.length c3] 52)).alloc (.cells #[.int .i64 b.kind, .slice B1 b.ints.length d1, .slice B2 b.texts.length d2, .slice B3 b.kids.length d3] 52)).heap[w.heap.size]? = some (.cells #[.int .i64 a.kind, .slice A1 a.ints.length c1, .slice A2 a.texts.length c2, .slice A3 a.kids.length c3] 52 (0, 0)) from by
    have : (w.alloc (.cells #[.int .i64 a.kind, .slice A1 a.ints.length c1, .slice A2 a.texts.length c2, .slice A3 a.kids.length c3] 52)).heap[w.heap.size]? = some (.cells #[.int .i64 a.kind, .slice A1 a.ints.length c1, .slice A2 a.texts.length c2, .slice A3 a.kids.length c3] 52 (0, 0)) := by simpa using heap_alloc_new w _
    exact (Below.block (below_alloc (Below.refl _ _) _) _ (by simp)).trans this)
  have HXb := Aside0.mk (show ((w.alloc (.cells #[.int .i64 a.kind, .slice A1 a.ints.length c1, .slice A2 a.texts.length c2, .slice A3 a.kids.length c3] 52)).alloc (.cells #[.int .i64 b.kind, .slice B1 b.ints.length d1, .slice B2 b.texts.length d2, .slice B3 b.kids.length d3] 52)).heap[w.heap.size + 1]? = some (.cells #[.int .i64 b.kind, .slice B1 b.ints.length d1, .slice B2 b.texts.length d2, .slice B3 b.kids.length d3] 52 (0, 0)) from by
    have := heap_alloc_new (w.alloc (.cells #[.int .i64 a.kind, .slice A1 a.ints.length c1, .slice A2 a.texts.length c2, .slice A3 a.kids.length c3] 52)) (.cells #[.int .i64 b.kind, .slice B1 b.ints.length d1, .slice B2 b.texts.length d2, .slice B3 b.kids.length d3] 52)
    simpa using this)
  have a0 := (blk_cell HXa.out 0).trans rfl
  have a1 := (blk_cell HXa.out 1).trans rfl
  have a2 := (blk_cell HXa.out 2).trans rfl
  have q0 := (blk_cell HXb.out 0).trans rfl
  have q1 := (blk_cell HXb.out 1).trans rfl
  have q2 := (blk_cell HXb.out 2).trans rfl
  clear h h' hs
  have fin : ∀ W, alike a b = false → Below w.heap.size w W → DiffPost a b w (.returned (.tuple #[.slice none 0 0, .bool false])) W := fun W hf hB => by
    have hd : diffL a b = [] := by unfold diffL; rw [hf, if_neg (by simp)]
    exact ⟨none, 0, by rw [hd, hf]; rfl, by rw [hd]; exact Kd.R_nil _ _ _ _ _, hB⟩
  have FIN := Aside0.mk fin
  clear fin
  by_cases h1 : a.kind = b.kind
  · by_cases h2 : a.ints.length = b.ints.length
    · by_cases h3 : a.texts.length = b.texts.length
      · have HAl : Aside0 (alike a b = true) := ⟨decide_eq_true ⟨h1, h2, h3⟩⟩
        have dk : (a.kind != b.kind) = false := by simp [h1]
        have H23 := Aside0.mk (And.intro h2 h3)
        rw [← h2] at q1 HB HXa HXb a0 a1 a2 q0 q2 ⊢
        rw [← h3] at q1 HB HXa HXb a0 a1 a2 q0 q2 ⊢
        clear h1 h2 h3
        go_enter Tryd.func58, Tryd.ntmps58
        go_wp2
        have H0 := Aside0.mk (show DRel a b A1 c1 A2 c2 A3 c3 B1 d1 B2 d2 B3 d3 w (diffI a.ints b.ints 0) (.slice (some ⟨w.heap.size + 1 + 1, 0, none⟩) 0 0) (((w.alloc (.cells #[.int .i64 a.kind, .slice A1 a.ints.length c1, .slice A2 a.texts.length c2, .slice A3 a.kids.length c3] 52)).alloc (.cells #[.int .i64 b.kind, .slice B1 a.ints.length d1, .slice B2 a.texts.length d2, .slice B3 b.kids.length d3] 52)).alloc (.cells #[] 94)) from
          ⟨by have h := R_empty kSet 94 ((w.alloc (.cells #[.int .i64 a.kind, .slice A1 a.ints.length c1, .slice A2 a.texts.length c2, .slice A3 a.kids.length c3] 52)).alloc (.cells #[.int .i64 b.kind, .slice B1 a.ints.length d1, .slice B2 a.texts.length d2, .slice B3 b.kids.length d3] 52)) w.heap.size HB.out.size; rw [show (((w.alloc (.cells #[.int .i64 a.kind, .slice A1 a.ints.length c1, .slice A2 a.texts.length c2, .slice A3 a.kids.length c3] 52)).alloc (.cells #[.int .i64 b.kind, .slice B1 a.ints.length d1, .slice B2 a.texts.length d2, .slice B3 b.kids.length d3] 52)).heap.size) = w.heap.size + 1 + 1 from by simp] at h; exact h, below_step HB.out (below_alloc (Below.refl _ _) _), ((below_alloc (Below.refl _ _) _).block _ (blk_lt HXa.out)).trans HXa.out, ((below_alloc (Below.refl _ _) _).block _ (blk_lt HXb.out)).trans HXb.out⟩)
        clear a0 a1 a2 q0 q1 q2 dk
        go_loopw [7, 6] (fun v7 v6 W => ∃ i : Nat, i ≤ a.ints.length ∧ v7 = .int .i64 i ∧ Aside0 (DRel a b A1 c1 A2 c2 A3 c3 B1 d1 B2 d2 B3 d3 w (diffI a.ints b.ints i) v6 W)) (fun v7 _ _ => a.ints.length - (intOf v7).toNat)
        case atStart => exact ⟨0, by omega, rfl, H0⟩
        case round =>
          clear H0
          obtain ⟨i, hi, rfl, H0⟩ := hrel
          have a1 := (blk_cell H0.out.ba 1).trans rfl
          have q1 := (blk_cell H0.out.bb 1).trans rfl
          by_cases hlt : i < a.ints.length
          · obtain ⟨ad, rfl, x1⟩ := at_nat (Kd.C_below HA.out.i H0.out.below) i hlt
            obtain ⟨bd, rfl, x2⟩ := at_nat (Kd.C_below HBn.out.i H0.out.below) i (by rw [← H23.out.1]; exact hlt)
            by_cases he : rd a.ints (i : Int) = rd b.ints (i : Int)
            · have de : (rd a.ints (i : Int) != rd b.ints (i : Int)) = false := by simp [he]
              have H1 := Aside0.mk (show DRel a b (some ad) c1 A2 c2 A3 c3 (some bd) d1 B2 d2 B3 d3 w (diffI a.ints b.ints (i + 1)) _ wr.drew from by rw [diffI_no he]; exact H0.out.drew)
              clear he
              go_wp2
              go_region
              clear x1 x2 a1 q1
              go_wp2
              go_roundw
              case rel => exact ⟨i + 1, by omega, by go_num, H1⟩
              case measure => simp [intOf]; omega
            · have de : (rd a.ints (i : Int) != rd b.ints (i : Int)) = true := by simp [he]
              have HY := Aside0.mk (diffI_yes he)
              have hdl := diffI_len a.ints b.ints i
              clear he
              obtain ⟨Av, cv, hv⟩ := Kd.R_slice H0.out.row
              subst hv
              go_wp2
              go_region
              clear x1 a1 q1 x2
              have H1 := Aside0.mk H0.out.drew
              clear H0
              generalize wr.drew = W2 at H1 ⊢
              have q1 := (blk_cell H1.out.bb 1).trans rfl
              obtain ⟨bd', he', x2⟩ := at_nat (Kd.C_below HBn.out.i H1.out.below) i (by rw [← H23.out.1]; exact hlt)
              injection he' with he'
              subst he'
              go_wp2_with (at_builtin; refine Kd.R_append kSet (w0 := w) w.heap.size rfl (.tmp 51) (.tmp 59) 80 94 (.agg #[.bool false, .int .i64 0, .int .i64 0, .string ByteArray.empty]) 40 rfl Tryd.underlying80 info_set rfl (by decide) (by omega) (.slice Av (diffI a.ints b.ints i).length cv) (diffI a.ints b.ints i) ⟨false, (i : Int), rd b.ints (i : Int), ByteArray.empty⟩ [.bool false, .int .i64 (i : Int), .int .i64 (rd b.ints (i : Int)), .string ByteArray.empty] (fun _ => True) (fun _ => False) rfl (by go_simp) (kSet_mk _ _ _ _) (fun _ h => h.elim) (fun _ _ => trivial) H1.out.row H1.out.below H1.out.below.size (by omega) ?_; intro v2 w3 hR2 hB2 hg2 hat2; have H3 := Aside0.mk (show DRel a b (some ad) c1 A2 c2 A3 c3 (some bd) d1 B2 d2 B3 d3 w (diffI a.ints b.ints (i + 1)) v2 w3 from ⟨by rw [HY.out]; exact hR2, hB2, blk_grown H1.out.ba hg2 (Kd.R_ne H1.out.row H1.out.ba (by decide)), blk_grown H1.out.bb hg2 (Kd.R_ne H1.out.row H1.out.bb (by decide))⟩); clear hR2 hB2 hg2 hat2)
              go_roundw
              case rel => exact ⟨i + 1, by omega, by go_num, H3⟩
              case measure => simp [intOf]; omega
          · obtain rfl : i = a.ints.length := by omega
            have H2 := Aside0.mk (show DRel a b A1 c1 A2 c2 A3 c3 B1 d1 B2 d2 B3 d3 w (diffI a.ints b.ints a.ints.length ++ diffT a.texts b.texts 0) u6 wr from by
              have e : diffI a.ints b.ints a.ints.length ++ diffT a.texts b.texts 0 = diffI a.ints b.ints a.ints.length := List.append_nil _
              rw [e]; exact H0.out)
            have hdi := diffI_len a.ints b.ints a.ints.length
            clear H0
            go_wp2
            clear a1 q1
            go_loopw [8, 6] (fun v8 v6 W => ∃ i : Nat, i ≤ a.texts.length ∧ v8 = .int .i64 i ∧ Aside0 (DRel a b A1 c1 A2 c2 A3 c3 B1 d1 B2 d2 B3 d3 w (diffI a.ints b.ints a.ints.length ++ diffT a.texts b.texts i) v6 W)) (fun v8 _ _ => a.texts.length - (intOf v8).toNat)
            case atStart => exact ⟨0, by omega, rfl, H2⟩
            case round =>
              clear H2
              obtain ⟨i, hi, rfl, H0⟩ := hrel
              have a2 := (blk_cell H0.out.ba 2).trans rfl
              have q2 := (blk_cell H0.out.bb 2).trans rfl
              by_cases hlt : i < a.texts.length
              · obtain ⟨ad, rfl, x1⟩ := at_str (Kd.C_below HA.out.t H0.out.below) i hlt
                obtain ⟨bd, rfl, x2⟩ := at_str (Kd.C_below HBn.out.t H0.out.below) i (by rw [← H23.out.2]; exact hlt)
                by_cases he : str a.texts i = str b.texts i
                · have de : (!((str a.texts i).toList == (str b.texts i).toList)) = false := by rw [he]; simp
                  have H1 := Aside0.mk (show DRel a b A1 c1 (some ad) c2 A3 c3 B1 d1 (some bd) d2 B3 d3 w (diffI a.ints b.ints a.ints.length ++ diffT a.texts b.texts (i + 1)) _ wr.drew from by rw [diffT_no he]; exact H0.out.drew)
                  clear he
                  go_wp2
                  go_region
                  clear x1 x2 a2 q2
                  go_wp2
                  go_roundw
                  case rel => exact ⟨i + 1, by omega, by go_num, H1⟩
                  case measure => simp [intOf]; omega
                · have de : (!((str a.texts i).toList == (str b.texts i).toList)) = true := str_ne he
                  have HY := Aside0.mk (diffT_yes he)
                  have hdt := diffT_len a.texts b.texts i
                  clear he
                  obtain ⟨Av, cv, hv⟩ := Kd.R_slice H0.out.row
                  obtain ⟨L0, hL0⟩ : ∃ L, L = diffI a.ints b.ints a.ints.length ++ diffT a.texts b.texts i := ⟨_, rfl⟩
                  have hL0l : L0.length ≤ 3000000 := by rw [hL0, List.length_append]; omega
                  have HL0 := Aside0.mk hL0
                  rw [← hL0] at hv H0
                  subst hv
                  clear hL0 hdt
                  go_wp2
                  go_region
                  clear x1 a2 q2 x2
                  have H1 := Aside0.mk H0.out.drew
                  clear H0
                  generalize wr.drew = W2 at H1 ⊢
                  have q2 := (blk_cell H1.out.bb 2).trans rfl
                  obtain ⟨bd', he', x2⟩ := at_str (Kd.C_below HBn.out.t H1.out.below) i (by rw [← H23.out.2]; exact hlt)
                  injection he' with he'
                  subst he'
                  go_wp2_with (at_builtin; refine Kd.R_append kSet (w0 := w) w.heap.size rfl (.tmp 79) (.tmp 87) 80 94 (.agg #[.bool false, .int .i64 0, .int .i64 0, .string ByteArray.empty]) 40 rfl Tryd.underlying80 info_set rfl (by decide) (by omega) (.slice Av L0.length cv) L0 ⟨true, (i : Int), 0, str b.texts i⟩ [.bool true, .int .i64 (i : Int), .int .i64 0, .string (str b.texts i)] (fun _ => True) (fun _ => False) rfl (by go_simp) (kSet_mk _ _ _ _) (fun _ h => h.elim) (fun _ _ => trivial) H1.out.row H1.out.below H1.out.below.size (by omega) ?_; intro v2 w3 hR2 hB2 hg2 hat2; have H3 := Aside0.mk (show DRel a b A1 c1 (some ad) c2 A3 c3 B1 d1 (some bd) d2 B3 d3 w (diffI a.ints b.ints a.ints.length ++ diffT a.texts b.texts (i + 1)) v2 w3 from ⟨by rw [HY.out, ← List.append_assoc, ← HL0.out]; exact hR2, hB2, blk_grown H1.out.ba hg2 (Kd.R_ne H1.out.row H1.out.ba (by decide)), blk_grown H1.out.bb hg2 (Kd.R_ne H1.out.row H1.out.bb (by decide))⟩); clear hR2 hB2 hg2 hat2)
                  go_roundw
                  case rel => exact ⟨i + 1, by omega, by go_num, H3⟩
                  case measure => simp [intOf]; omega
              · obtain rfl : i = a.texts.length := by omega
                have HD : Aside0 (diffL a b = diffI a.ints b.ints a.ints.length ++ diffT a.texts b.texts a.texts.length) := ⟨by unfold diffL; rw [if_pos HAl.out]⟩
                go_wp2
                go_ret2
                obtain ⟨Av, cv, hv⟩ := Kd.R_slice H0.out.row
                exact ⟨Av, cv, by rw [HAl.out, HD.out, ← hv]; rfl, by rw [HD.out, ← hv]; exact H0.out.row, H0.out.below⟩
      · have hf : alike a b = false := decide_eq_false (fun h => h3 h.2.2)
        have HF := Aside0.mk hf
        have dk : (a.kind != b.kind) = false := by simp [h1]
        have dl : (a.texts.length != b.texts.length) = true := by simp [h3]
        have dl' : ((a.texts.length : Int) != (b.texts.length : Int)) = true := by simp; omega
        rw [← h2] at q1 HB HXa HXb a0 a1 a2 q0 q2 ⊢
        clear h1 h2 h3 hf
        go_enter Tryd.func58, Tryd.ntmps58
        go_wp2
        go_ret2
        exact FIN.out _ HF.out HB.out
    · have hf : alike a b = false := decide_eq_false (fun h => h2 h.2.1)
      have HF := Aside0.mk hf
      have dk : (a.kind != b.kind) = false := by simp [h1]
      have dl : (a.ints.length != b.ints.length) = true := by simp [h2]
      have dl' : ((a.ints.length : Int) != (b.ints.length : Int)) = true := by simp; omega
      clear h1 h2 hf
      go_enter Tryd.func58, Tryd.ntmps58
      go_wp2
      go_ret2
      exact FIN.out _ HF.out HB.out
  · have hf : alike a b = false := decide_eq_false (fun h => h1 h.1)
    have HF := Aside0.mk hf
    have dk : (a.kind != b.kind) = true := by simp [h1]
    clear h1 hf
    go_enter Tryd.func58, Tryd.ntmps58
    go_wp2
    go_ret2
    exact FIN.out _ HF.out HB.out
end Go.Proofs.YtdfneldenipljaaDoor.L
end
section
namespace Go.Proofs.YtdfneldenipljaaDoor.L
open Go.RowKit Go.ChangeShapes Go.WideShapes Go.Proofs.YtdfneldenipljaaDoorW.PrintWords Go.Proofs.YtdfneldenipljaaDoorW.PrintLast Go.Proofs.YtdfneldenipljaaDoorW.PrintMore
attribute [local go_sem] max2_int min2_int max_two min_two max_three min_three max_four min_four
def ownN (a b : Node) : Bool := decide (a.kind = b.kind ∧ a.ints = b.ints ∧ a.texts = b.texts)
theorem ownN_eq (a b : Node) : ownN a b = (alike a b && decide ((diffL a b).length = 0)) := by
  cases h : alike a b with
  | false =>
    refine decide_eq_false (fun hh => ?_)
    have : alike a b = true := decide_eq_true ⟨hh.1, by rw [hh.2.1], by rw [hh.2.2]⟩
    rw [h] at this; cases this
  | true =>
    have hk := (of_decide_eq_true h).1
    rw [Bool.true_and]
    unfold ownN
    refine decide_eq_decide.2 ⟨fun hh => ?_, fun hh => ?_⟩
    · rw [(diffL_nil h).2 hh.2]; rfl
    · exact ⟨hk, (diffL_nil h).1 (List.eq_nil_of_length_eq_zero hh)⟩
set_option maxRecDepth 100000 in
set_option maxHeartbeats 2000000 in
theorem own_any (a b : Node) (A1 : Option Addr) (c1 : Nat) (A2 : Option Addr) (c2 : Nat) (A3 : Option Addr) (c3 : Nat) (B1 : Option Addr) (d1 : Nat) (B2 : Option Addr) (d2 : Nat) (B3 : Option Addr) (d3 : Nat) (w : World) (h : NodeC w a A1 c1 A2 c2 A3 c3) (h' : NodeC w b B1 d1 B2 d2 B3 d3) (hs : Small a) :
    Calls Tryd.prog 38 #[.agg #[.int .i64 a.kind, .slice A1 a.ints.length c1, .slice A2 a.texts.length c2, .slice A3 a.kids.length c3], .agg #[.int .i64 b.kind, .slice B1 b.ints.length d1, .slice B2 b.texts.length d2, .slice B3 b.kids.length d3]] w fun e w' => e = .returned (.bool (ownN a b)) ∧ Below w.heap.size w w' := by
  have HA := Aside0.mk h
  have HBn := Aside0.mk h'
  have HSm := Aside0.mk hs
  have hun := Tryd.underlying52
  have HB := Aside0.mk (below_alloc (below_alloc (Below.refl w.heap.size w) (.cells #[.int .i64 a.kind, .slice A1 a.ints.length c1, .slice A2 a.texts.length c2, .slice A3 a.kids.length c3] 52)) (.cells #[.int .i64 b.kind, .slice B1 b.ints.length d1, .slice B2 b.texts.length d2, .slice B3 b.kids.length d3] 52))
  have HXa := Aside0.mk (show ((w.alloc (.cells #[.int .i64 a.kind, .slice A1 a.ints.length c1, .slice A2 a.texts.length c2, .slice A3 a.kids.length c3] 52)).alloc (.cells #[.int .i64 b.kind, .slice B1 b.ints.length d1, .slice B2 b.texts.length d2, .slice B3 b.kids.length d3] 52)).heap[w.heap.size]? = some (.cells #[.int .i64 a.kind, .slice A1 a.ints.length c1, .slice A2 a.texts.length c2, .slice A3 a.kids.length c3] 52 (0, 0)) from by
    have : (w.alloc (.cells #[.int .i64 a.kind, .slice A1 a.ints.length c1, .slice A2 a.texts.length c2, .slice A3 a.kids.length c3] 52)).heap[w.heap.size]? = some (.cells #[.int .i64 a.kind, .slice A1 a.ints.length c1, .slice A2 a.texts.length c2, .slice A3 a.kids.length c3] 52 (0, 0)) := by simpa using heap_alloc_new w _
    exact (Below.block (below_alloc (Below.refl _ _) _) _ (by simp)).trans this)
  have HXb := Aside0.mk (show ((w.alloc (.cells #[.int .i64 a.kind, .slice A1 a.ints.length c1, .slice A2 a.texts.length c2, .slice A3 a.kids.length c3] 52)).alloc (.cells #[.int .i64 b.kind, .slice B1 b.ints.length d1, .slice B2 b.texts.length d2, .slice B3 b.kids.length d3] 52)).heap[w.heap.size + 1]? = some (.cells #[.int .i64 b.kind, .slice B1 b.ints.length d1, .slice B2 b.texts.length d2, .slice B3 b.kids.length d3] 52 (0, 0)) from by
    have := heap_alloc_new (w.alloc (.cells #[.int .i64 a.kind, .slice A1 a.ints.length c1, .slice A2 a.texts.length c2, .slice A3 a.kids.length c3] 52)) (.cells #[.int .i64 b.kind, .slice B1 b.ints.length d1, .slice B2 b.texts.length d2, .slice B3 b.kids.length d3] 52)
    simpa using this)
  have a0 := (blk_cell HXa.out 0).trans rfl
  have a1 := (blk_cell HXa.out 1).trans rfl
  have a2 := (blk_cell HXa.out 2).trans rfl
  have q0 := (blk_cell HXb.out 0).trans rfl
  have q1 := (blk_cell HXb.out 1).trans rfl
  have q2 := (blk_cell HXb.out 2).trans rfl
  have a3 := (blk_cell HXa.out 3).trans rfl
  have q3 := (blk_cell HXb.out 3).trans rfl
  clear h h' hs
  go_enter Tryd.func38, Tryd.ntmps38
  go_wp2_with fail
  refine (diff_any a b A1 c1 A2 c2 A3 c3 B1 d1 B2 d2 B3 d3 _ (HA.out.below HB.out) (HBn.out.below HB.out) HSm.out).mono ?_
  rintro e w1 ⟨A, c, rfl, hR, hB⟩
  have HB1 := Aside0.mk (below_step HB.out hB)
  have hE := ownN_eq a b
  clear hR hB a0 a1 a2 a3 q0 q1 q2 q3
  cases hal : alike a b with
  | false =>
    have HE : Aside0 (ownN a b = false) := ⟨by rw [hE, hal]; rfl⟩
    clear hE hal
    go_wp2
    go_ret
    exact ⟨ret_bool HE.out.symm, HB1.out⟩
  | true =>
    by_cases hz : (diffL a b).length = 0
    · have HE : Aside0 (ownN a b = true) := ⟨by rw [hE, hal, decide_eq_true hz]; rfl⟩
      clear hE hal
      rw [hz]
      go_wp2
      go_ret
      exact ⟨ret_bool HE.out.symm, HB1.out⟩
    · have HE : Aside0 (ownN a b = false) := ⟨by rw [hE, hal, decide_eq_false hz]; rfl⟩
      obtain ⟨m, hm⟩ : ∃ m, (diffL a b).length = m + 1 := ⟨(diffL a b).length - 1, by omega⟩
      have d0 : ((m : Int) + 1 == 0) = false := by simp; omega
      clear hE hal hz
      rw [hm]
      go_wp2
      go_ret
      exact ⟨ret_bool HE.out.symm, HB1.out⟩
end Go.Proofs.YtdfneldenipljaaDoor.L
end
section
namespace Go.Proofs.YtdfneldenipljaaDoor.L
open Go.RowKit Go.ChangeShapes Go.WideShapes Go.Proofs.YtdfneldenipljaaDoorW.PrintWords Go.Proofs.YtdfneldenipljaaDoorW.PrintLast Go.Proofs.YtdfneldenipljaaDoorW.PrintMore
attribute [local go_sem] max2_int min2_int max_two min_two max_three min_three max_four min_four
def kBools : Kd (List Bool) := Kd.slice 4 Kd.bool
theorem info_bool : (Tryd.prog.info? 4).map (fun i => (i.zero, i.size, i.bytes)) = some (some (.bool false), 1, 1) := by kernel_rfl
theorem info_bools : (Tryd.prog.info? 38).map (fun i => (i.zero, i.size, i.bytes)) = some (some (.slice none 0 0), 1, 24) := by kernel_rfl
theorem at_bools {w : World} {A : Option Addr} {n : Nat} {xs : List (List Bool)} (h : kBools.C w A n xs) (i : Nat) (h1 : i < n) :
    ∃ ad B d, A = some ad ∧ w.cell? (ad.add i) = some (.slice B (xs.getD i []).length d) ∧ (xs.getD i []).length ≤ d ∧ Kd.bool.C w B (xs.getD i []).length (xs.getD i []) := by
  obtain ⟨ad, c, e, _, hK, hc0⟩ := Kd.C_get h [] (i : Int) (by omega) (by omega)
  have hK : kBools.K w (xs.getD i []) c := by simpa using hK
  obtain ⟨B, d, rfl, hl, hC⟩ := hK
  refine ⟨ad, B, d, e, ?_, hl, hC⟩
  have := hc0 0 _ rfl
  simpa [show kBools.sz = 1 from rfl] using this
theorem at_bool {w : World} {A : Option Addr} {n : Nat} {xs : List Bool} (h : Kd.bool.C w A n xs) (i : Nat) (h1 : i < n) : ∃ ad, A = some ad ∧ w.cell? (ad.add i) = some (.bool (xs.getD i false)) := by
  obtain ⟨ad, c, e, _, hK, hc0⟩ := Kd.C_get h false (i : Int) (by omega) (by omega)
  have hK : c = [.bool (xs.getD i false)] := by
    rw [Int.toNat_natCast] at hK
    exact hK
  subst hK
  exact ⟨ad, e, by simpa [show Kd.bool.sz = 1 from rfl] using hc0 0 _ rfl⟩
structure AlkOut (w1 : World) (outs : List (List Bool)) (v W) : Prop where
  out : kBools.R 38 W w1.heap.size (fun _ => True) v outs
  below : Below w1.heap.size w1 W
structure AlkIn (w1 Wg : World) (outs : List (List Bool)) (row : List Bool) (vo v : Value) (W : World) : Prop where
  out : kBools.R 38 W w1.heap.size (fun q => q < Wg.heap.size) vo outs
  row : Kd.bool.R 4 W w1.heap.size (fun q => Wg.heap.size ≤ q) v row
  since : Below Wg.heap.size Wg W
  below : Below w1.heap.size w1 W
theorem AlkIn.later {w1 Wg : World} {outs : List (List Bool)} {row : List Bool} {vo v : Value} {W W1 : World} (h : AlkIn w1 Wg outs row vo v W) (hb : Below W.heap.size W W1) : AlkIn w1 Wg outs row vo v W1 :=
  ⟨Kd.R_below h.out hb, Kd.R_below h.row hb, below_step h.since hb, below_step h.below hb⟩
theorem AlkIn.start {w1 W : World} {outs : List (List Bool)} {vo : Value} (h : AlkOut w1 outs vo W) : AlkIn w1 W outs [] vo (.slice (some ⟨W.heap.size, 0, none⟩) 0 0) (W.alloc (.cells #[] 4)) := by
  have hb := below_alloc (Below.refl W.heap.size W) (.cells #[] 4)
  refine ⟨Kd.R_below (Kd.R_mono (Kd.R_bound h.out) (fun q hq => hq.2.2.1)) hb, ?_, hb, below_step h.below hb⟩
  exact Kd.R_mono (Kd.R_bound (Kd.R_lower (R_empty Kd.bool 4 W W.heap.size (Nat.le_refl _)) (Nat.le_refl _))) (fun q hq => hq.2.1) |> fun h' => Kd.R_lower h' h.below.size
theorem AlkIn.pushed {w1 Wg : World} {outs : List (List Bool)} {row : List Bool} {vo v v2 : Value} {x : Bool} {W W2 : World} (h : AlkIn w1 Wg outs row vo v W) (hR : Kd.bool.R 4 W2 w1.heap.size (fun q => Wg.heap.size ≤ q) v2 (row ++ [x])) (hB : Below w1.heap.size w1 W2) (hg : W.grownBy W2 v.ownBlock) : AlkIn w1 Wg outs (row ++ [x]) vo v2 W2 :=
  ⟨Kd.R_grown h.out hg (fun k hk e => by have := h.row.1 k e.symm; omega), hR, h.since.grown hg h.since.size (fun q hq => h.row.1 q hq), hB⟩
theorem range_snoc_map {α : Type} (f : Nat → α) (j : Nat) : (List.range (j + 1)).map f = (List.range j).map f ++ [f j] := by
  rw [List.range_succ, List.map_append]; rfl
def KOk (a b : List Node) (outs : List (List Bool)) (i j k : Nat) : Prop :=
  ∀ m : Nat, m < k → rd (nd a i).kids (m : Int) < (i : Int) ∧ rd (nd b j).kids (m : Int) < (j : Int) ∧ ((outs.getD (rd (nd a i).kids (m : Int)).toNat []).getD (rd (nd b j).kids (m : Int)).toNat false) = true
theorem alkC_no {a b : List Node} {outs : List (List Bool)} {i j k : Nat} (hk : k < (nd a i).kids.length)
    (h : ¬ (rd (nd a i).kids (k : Int) < (i : Int) ∧ rd (nd b j).kids (k : Int) < (j : Int) ∧ ((outs.getD (rd (nd a i).kids (k : Int)).toNat []).getD (rd (nd b j).kids (k : Int)).toNat false) = true)) : alkC a b outs i j = false :=
  decide_eq_false (fun hh => h (hh.2.2.2.2 k hk))
theorem alkC_own {a b : List Node} {outs : List (List Bool)} {i j : Nat} (h : ownN (nd a i) (nd b j) = false) : alkC a b outs i j = false :=
  decide_eq_false (fun hh => of_decide_eq_false h ⟨hh.1, hh.2.1, hh.2.2.1⟩)
theorem alkC_len {a b : List Node} {outs : List (List Bool)} {i j : Nat} (h : ¬ (nd a i).kids.length = (nd b j).kids.length) : alkC a b outs i j = false :=
  decide_eq_false (fun hh => h hh.2.2.2.1)
theorem alkC_yes {a b : List Node} {outs : List (List Bool)} {i j : Nat} (h1 : ownN (nd a i) (nd b j) = true) (h2 : (nd a i).kids.length = (nd b j).kids.length) (h3 : KOk a b outs i j (nd a i).kids.length) : alkC a b outs i j = true :=
  decide_eq_true ⟨(of_decide_eq_true h1).1, (of_decide_eq_true h1).2.1, (of_decide_eq_true h1).2.2, h2, h3⟩
def AlkPost (a b : List Node) (w : World) (e : Ending) (w' : World) : Prop :=
  ∃ A' c', e = .returned (.slice A' a.length c') ∧ a.length ≤ c' ∧ kBools.C w' A' a.length (alkT a b a.length) ∧ Below w.heap.size w w'
set_option maxRecDepth 100000 in
set_option maxHeartbeats 8000000 in
theorem alike_any (A : Option Addr) (c : Nat) (a : Scene) (B : Option Addr) (d : Nat) (b : Scene) (w : World) (h : kNode.C w A a.nodes.length a.nodes) (hc : a.nodes.length ≤ c) (h' : kNode.C w B b.nodes.length b.nodes) (hd : b.nodes.length ≤ d)
    (hS : ∀ i : Nat, i < a.nodes.length → Small (nd a.nodes i)) (hka : ∀ i : Nat, i < a.nodes.length → ∀ k ∈ (nd a.nodes i).kids, 0 ≤ k) (hkb : ∀ i : Nat, i < b.nodes.length → ∀ k ∈ (nd b.nodes i).kids, 0 ≤ k) (hla : a.nodes.length ≤ 1000000) (hlb : b.nodes.length ≤ 1000000) :
    Calls Tryd.prog 20 #[.agg #[.slice A a.nodes.length c, .int .i64 a.root], .agg #[.slice B b.nodes.length d, .int .i64 b.root]] w (AlkPost a.nodes b.nodes w) := by
  have HR := Aside0.mk h
  have HR' := Aside0.mk h'
  have HS := Aside0.mk hS
  have HKa := Aside0.mk hka
  have HKb := Aside0.mk hkb
  have hu := Tryd.underlying34
  have hun := Tryd.underlying52
  obtain ⟨w1, hw1⟩ : ∃ w1, w1 = (w.alloc (.cells #[.slice A a.nodes.length c, .int .i64 a.root] 34)).alloc (.cells #[.slice B b.nodes.length d, .int .i64 b.root] 34) := ⟨_, rfl⟩
  have k0 := box_cell2 w _ rfl #[.slice A a.nodes.length c, .int .i64 a.root] 34 (.cells #[.slice B b.nodes.length d, .int .i64 b.root] 34) 0 (.slice A a.nodes.length c) rfl
  have q0 := box_cell (w.alloc (.cells #[.slice A a.nodes.length c, .int .i64 a.root] 34)) (w.heap.size + 1) (by simp) #[.slice B b.nodes.length d, .int .i64 b.root] 34 0 (.slice B b.nodes.length d) rfl
  have HB := Aside0.mk (show Below w.heap.size w w1 from by rw [hw1]; exact below_step (below_alloc (Below.refl _ _) _) (below_alloc (Below.refl _ _) _))
  rw [← hw1] at k0 q0
  have HK0 := Aside0.mk k0
  have HQ0 := Aside0.mk q0
  have HZs := Aside0.mk (show w1.heap.size = w.heap.size + 1 + 1 from by rw [hw1]; simp)
  have HO0 : Aside0 (AlkOut w1 [] (.slice (some ⟨w1.heap.size, 0, none⟩) 0 0) (w1.alloc (.cells #[] 38))) := ⟨R_empty kBools 38 w1 w1.heap.size (Nat.le_refl _), below_alloc (Below.refl _ _) _⟩
  clear h h' hS hka hkb k0 q0
  go_enter Tryd.func20, Tryd.ntmps20
  go_wp2
  rw [← hw1]
  clear hw1
  rw [show w.heap.size + 1 + 1 = w1.heap.size from HZs.out.symm]
  generalize w1.alloc (.cells #[] 38) = W5 at HO0 ⊢
  go_loopw [6, 5] (fun v6 v5 W => ∃ (i : Nat) (vo : Value), i ≤ a.nodes.length ∧ v6 = .int .i64 i ∧ vo = v5 ∧ Aside0 (AlkOut w1 (alkT a.nodes b.nodes i) vo W)) (fun v6 _ _ => a.nodes.length - (intOf v6).toNat)
  case atStart => exact ⟨0, _, by omega, rfl, rfl, HO0⟩
  case round =>
    clear HO0
    obtain ⟨i, vo, hi, rfl, rfl, HO⟩ := hrel
    have k0 := pw_cell_below HO.out.below HK0.out
    by_cases hlt : i < a.nodes.length
    · have HI0 := Aside0.mk (AlkIn.start HO.out)
      have HTs := Aside0.mk (show alkT a.nodes b.nodes (i + 1) = alkT a.nodes b.nodes i ++ [(List.range b.nodes.length).map (alkC a.nodes b.nodes (alkT a.nodes b.nodes i) i)] from rfl)
      have HTl := Aside0.mk (show (alkT a.nodes b.nodes i).length = i ∧ ∀ m : Nat, m < i → ((alkT a.nodes b.nodes i).getD m []).length = b.nodes.length from ⟨alkT_len _ _ _, fun m hm => by rw [alkT_row _ _ hm]; simp⟩)
      clear HO
      generalize alkT a.nodes b.nodes i = outs at HI0 HTs HTl
      go_wp2
      clear k0
      obtain ⟨Wg, hWg⟩ : ∃ Wg : World, Wg = wr := ⟨_, rfl⟩
      rw [← hWg] at HI0 ⊢
      clear hWg
      generalize Wg.alloc (.cells #[] 4) = W6 at HI0 ⊢
      go_loopw [8, 7] (fun v8 v7 W => ∃ (j : Nat) (v : Value), j ≤ b.nodes.length ∧ v8 = .int .i64 j ∧ v = v7 ∧ Aside0 (AlkIn w1 Wg outs ((List.range j).map (alkC a.nodes b.nodes outs i)) vo v W)) (fun v8 _ _ => b.nodes.length - (intOf v8).toNat)
      case atStart => exact ⟨0, _, by omega, rfl, rfl, HI0⟩
      case round =>
        clear HI0
        obtain ⟨j, v, hj, rfl, rfl, HI⟩ := hrel
        have k0 := pw_cell_below HI.out.below HK0.out
        have q0 := pw_cell_below HI.out.below HQ0.out
        by_cases hjl : j < b.nodes.length
        · obtain ⟨ad, A1, c1, A2, c2, A3, c3, rfl, x0, x1, x2, x3, hN⟩ := at_node HR.out i hlt
          obtain ⟨bd, B1, d1, B2, d2, B3, d3, rfl, y0, y1, y2, y3, hM⟩ := at_node HR'.out j hjl
          have HN := Aside0.mk hN
          have HM := Aside0.mk hM
          have HW := Aside0.mk (below_step HB.out HI.out.below)
          replace x0 := pw_cell_below HW.out x0
          replace x1 := pw_cell_below HW.out x1
          replace x2 := pw_cell_below HW.out x2
          replace x3 := pw_cell_below HW.out x3
          replace y0 := pw_cell_below HW.out y0
          replace y1 := pw_cell_below HW.out y1
          replace y2 := pw_cell_below HW.out y2
          replace y3 := pw_cell_below HW.out y3
          have HSi := Aside0.mk (HS.out i hlt)
          have HKi := Aside0.mk (HKa.out i hlt)
          have HKj := Aside0.mk (HKb.out j hjl)
          have HOwn := Aside0.mk (alkC_own (outs := outs) (a := a.nodes) (b := b.nodes) (i := i) (j := j))
          have HLen := Aside0.mk (alkC_len (outs := outs) (a := a.nodes) (b := b.nodes) (i := i) (j := j))
          have HNo := Aside0.mk (fun k hk h => alkC_no (outs := outs) (a := a.nodes) (b := b.nodes) (i := i) (j := j) (k := k) hk h)
          have HYes := Aside0.mk (alkC_yes (outs := outs) (a := a.nodes) (b := b.nodes) (i := i) (j := j))
          have HKO := Aside0.mk (show KOk a.nodes b.nodes outs i j = (fun k => ∀ m : Nat, m < k → rd (nd a.nodes i).kids (m : Int) < (i : Int) ∧ rd (nd b.nodes j).kids (m : Int) < (j : Int) ∧ ((outs.getD (rd (nd a.nodes i).kids (m : Int)).toNat []).getD (rd (nd b.nodes j).kids (m : Int)).toNat false) = true) from rfl)
          have HRg := Aside0.mk (range_snoc_map (alkC a.nodes b.nodes outs i) j)
          clear hN hM
          generalize alkC a.nodes b.nodes outs i j = r at HOwn HLen HNo HYes HRg
          generalize hrow : (List.range j).map (alkC a.nodes b.nodes outs i) = row at HI HRg
          have hrl : row.length = j := by rw [← hrow]; simp
          clear hrow
          generalize KOk a.nodes b.nodes outs i j = KO at HYes HKO
          generalize nd a.nodes i = x at x0 x1 x2 x3 HN HSi HKi HOwn HLen HNo HYes HKO
          generalize nd b.nodes j = y at y0 y1 y2 y3 HM HKj HOwn HLen HNo HYes HKO
          obtain ⟨WX, hWX⟩ : ∃ WX : World, WX = wr.alloc (.cells #[.int .i64 x.kind, .slice A1 x.ints.length c1, .slice A2 x.texts.length c2, .slice A3 x.kids.length c3] 52) := ⟨_, rfl⟩
          obtain ⟨WY, hWY⟩ : ∃ WY : World, WY = WX.alloc (.cells #[.int .i64 y.kind, .slice B1 y.ints.length d1, .slice B2 y.texts.length d2, .slice B3 y.kids.length d3] 52) := ⟨_, rfl⟩
          have hbX : Below wr.heap.size wr WX := by rw [hWX]; exact below_alloc (Below.refl _ _) _
          have hbY : Below WX.heap.size WX WY := by rw [hWY]; exact below_alloc (Below.refl _ _) _
          have hzX : WX.heap.size = wr.heap.size + 1 := by rw [hWX]; simp
          have g0 : WY.cell? ⟨wr.heap.size, 0, none⟩ = some (.int .i64 x.kind) := by rw [hWY, hWX]; exact box_cell2 _ _ rfl _ _ _ 0 _ rfl
          have g1 : WY.cell? ⟨wr.heap.size, 1, none⟩ = some (.slice A1 x.ints.length c1) := by rw [hWY, hWX]; exact box_cell2 _ _ rfl _ _ _ 1 _ rfl
          have g2 : WY.cell? ⟨wr.heap.size, 2, none⟩ = some (.slice A2 x.texts.length c2) := by rw [hWY, hWX]; exact box_cell2 _ _ rfl _ _ _ 2 _ rfl
          have g3 : WY.cell? ⟨wr.heap.size, 3, none⟩ = some (.slice A3 x.kids.length c3) := by rw [hWY, hWX]; exact box_cell2 _ _ rfl _ _ _ 3 _ rfl
          have e0 : WY.cell? ⟨wr.heap.size + 1, 0, none⟩ = some (.int .i64 y.kind) := by rw [hWY]; exact box_cell _ _ hzX _ _ 0 _ rfl
          have e1 : WY.cell? ⟨wr.heap.size + 1, 1, none⟩ = some (.slice B1 y.ints.length d1) := by rw [hWY]; exact box_cell _ _ hzX _ _ 1 _ rfl
          have e2 : WY.cell? ⟨wr.heap.size + 1, 2, none⟩ = some (.slice B2 y.texts.length d2) := by rw [hWY]; exact box_cell _ _ hzX _ _ 2 _ rfl
          have e3 : WY.cell? ⟨wr.heap.size + 1, 3, none⟩ = some (.slice B3 y.kids.length d3) := by rw [hWY]; exact box_cell _ _ hzX _ _ 3 _ rfl
          have HIY := Aside0.mk ((HI.out.later hbX).later hbY)
          have HWY := Aside0.mk (below_step (below_step HW.out hbX) hbY)
          have q0' := pw_cell_below hbX q0
          have y0' := pw_cell_below hbX y0
          have y1' := pw_cell_below hbX y1
          have y2' := pw_cell_below hbX y2
          have y3' := pw_cell_below hbX y3
          subst hWX
          rw [hWY] at g0 g1 g2 g3 e0 e1 e2 e3
          clear hbX hbY hzX HI HW
          go_wp2_with fail
          rw [← hWY]
          clear g0 g1 g2 e0 e1 e2
          refine (own_any x y A1 c1 A2 c2 A3 c3 B1 d1 B2 d2 B3 d3 _ (HN.out.below HWY.out) (HM.out.below HWY.out) HSi.out).mono ?_
          rintro e w2 ⟨rfl, hB2⟩
          rw [← hWY] at g3 e3
          replace g3 := pw_cell_below hB2 g3
          replace e3 := pw_cell_below hB2 e3
          have HI2 := Aside0.mk (HIY.out.later hB2)
          have HW2 := Aside0.mk (below_step HWY.out hB2)
          clear hB2 hWY HIY HWY x0 x1 x2 x3 y0 y1 y2 y3 y0' y1' y2' y3' q0' k0 q0
          have H3 : (r = false ∧ (ownN x y = false ∨ (ownN x y = true ∧ ¬ x.kids.length = y.kids.length))) ∨ (ownN x y = true ∧ x.kids.length = y.kids.length) := by
            cases hown : ownN x y with
            | false => exact .inl ⟨HOwn.out hown, .inl rfl⟩
            | true =>
              by_cases hl : x.kids.length = y.kids.length
              · exact .inr ⟨rfl, hl⟩
              · exact .inl ⟨HLen.out hl, .inr ⟨rfl, hl⟩⟩
          have HH3 := Aside0.mk H3
          generalize wr.heap.size = bx at g3 e3 ⊢
          rcases H3 with ⟨hr0, (hown | ⟨hown, hl⟩)⟩ | ⟨hown, hl⟩
          · rw [hown]
            clear hown
            go_wp2
            go_loopw [12, 11] (fun v12 v11 W => v12 = .int .i64 0 ∧ v11 = .bool false ∧ W.cell? ⟨bx, 3, none⟩ = some (.slice A3 x.kids.length c3) ∧ Aside0 (AlkIn w1 Wg outs row vo v W)) (fun _ _ _ => 0)
            case atStart => exact ⟨rfl, rfl, g3, HI2⟩
            case round =>
              clear g3
              obtain ⟨rfl, rfl, g3, HI3⟩ := hrel
              subst hr0
              clear HI2 e3
              go_wp2_with (clear g3; at_builtin; refine Kd.R_append Kd.bool (w0 := w1) w1.heap.size rfl (.tmp 92) (.tmp 94) 38 4 (.bool false) 1 rfl Tryd.underlying38 info_bool rfl (by decide) (by omega) v row false [.bool false] (fun q => Wg.heap.size ≤ q) (fun _ => False) rfl (by go_simp) rfl (fun _ h => h.elim) (fun k hk => Nat.le_trans HI3.out.since.size hk) HI3.out.row HI3.out.below HI3.out.below.size (by omega) ?_; intro v7 w7 hR7 hB7 hg7 _; have HL := Aside0.mk (HI3.out.pushed hR7 hB7 hg7); clear hR7 hB7 hg7)
              all_goals
                go_roundw
                case rel => exact ⟨j + 1, _, by omega, by go_num, rfl, by rw [HRg.out]; exact HL⟩
                case measure => simp [intOf]; omega
          · rw [hown]
            have dl : ((x.kids.length : Int) == (y.kids.length : Int)) = false := by simp; omega
            have dln : (x.kids.length == y.kids.length) = false := by simpa using hl
            clear hown hl
            go_wp2
            go_loopw [12, 11] (fun v12 v11 W => v12 = .int .i64 0 ∧ v11 = .bool false ∧ W.cell? ⟨bx, 3, none⟩ = some (.slice A3 x.kids.length c3) ∧ Aside0 (AlkIn w1 Wg outs row vo v W)) (fun _ _ _ => 0)
            case atStart => exact ⟨rfl, rfl, g3, HI2⟩
            case round =>
              clear g3
              obtain ⟨rfl, rfl, g3, HI3⟩ := hrel
              subst hr0
              clear HI2 e3
              go_wp2_with (clear g3; at_builtin; refine Kd.R_append Kd.bool (w0 := w1) w1.heap.size rfl (.tmp 92) (.tmp 94) 38 4 (.bool false) 1 rfl Tryd.underlying38 info_bool rfl (by decide) (by omega) v row false [.bool false] (fun q => Wg.heap.size ≤ q) (fun _ => False) rfl (by go_simp) rfl (fun _ h => h.elim) (fun k hk => Nat.le_trans HI3.out.since.size hk) HI3.out.row HI3.out.below HI3.out.below.size (by omega) ?_; intro v7 w7 hR7 hB7 hg7 _; have HL := Aside0.mk (HI3.out.pushed hR7 hB7 hg7); clear hR7 hB7 hg7)
              all_goals
                go_roundw
                case rel => exact ⟨j + 1, _, by omega, by go_num, rfl, by rw [HRg.out]; exact HL⟩
                case measure => simp [intOf]; omega
          · have dl : ((x.kids.length : Int) == (y.kids.length : Int)) = true := by simp; omega
            have dln : (x.kids.length == y.kids.length) = true := by simpa using hl
            rw [hown]
            have HHl := Aside0.mk hl
            have HHo := Aside0.mk hown
            clear hown hl
            go_wp2
            go_loopw [12, 11] (fun v12 v11 W => ∃ (k : Nat) (q : Bool), k ≤ x.kids.length ∧ v12 = .int .i64 k ∧ v11 = .bool q ∧ Aside0 ((q = false ∧ r = false) ∨ (q = true ∧ KO k)) ∧ W.cell? ⟨bx, 3, none⟩ = some (.slice A3 x.kids.length c3) ∧ W.cell? ⟨bx + 1, 3, none⟩ = some (.slice B3 y.kids.length d3) ∧ Aside0 (AlkIn w1 Wg outs row vo v W)) (fun v12 _ _ => x.kids.length - (intOf v12).toNat)
            case atStart => exact ⟨0, true, by omega, rfl, rfl, ⟨.inr ⟨rfl, by rw [HKO.out]; exact fun m hm => by omega⟩⟩, g3, e3, HI2⟩
            case round =>
              clear g3 e3 HI2
              obtain ⟨k, q, hk, rfl, rfl, HQ, g3, e3, HI3⟩ := hrel
              have HW3 := Aside0.mk (below_step HB.out HI3.out.below)
              by_cases hkl : k < x.kids.length
              · cases q with
                | false =>
                  have hr0 : r = false := by
                    rcases HQ.out with h | h
                    · exact h.2
                    · cases h.1
                  subst hr0
                  clear e3
                  go_wp2_with (clear g3; at_builtin; refine Kd.R_append Kd.bool (w0 := w1) w1.heap.size rfl (.tmp 92) (.tmp 94) 38 4 (.bool false) 1 rfl Tryd.underlying38 info_bool rfl (by decide) (by omega) v row false [.bool false] (fun q => Wg.heap.size ≤ q) (fun _ => False) rfl (by go_simp) rfl (fun _ h => h.elim) (fun k hk => Nat.le_trans HI3.out.since.size hk) HI3.out.row HI3.out.below HI3.out.below.size (by omega) ?_; intro v7 w7 hR7 hB7 hg7 _; have HL := Aside0.mk (HI3.out.pushed hR7 hB7 hg7); clear hR7 hB7 hg7)
                  go_roundw
                  case rel => exact ⟨j + 1, _, by omega, by go_num, rfl, by rw [HRg.out]; exact HL⟩
                  case measure => simp [intOf]; omega
                | true =>
                  have HKk : Aside0 (KO k) := ⟨by
                    rcases HQ.out with h | h
                    · cases h.1
                    · exact h.2⟩
                  obtain ⟨ax, rfl, s0⟩ := at_nat HN.out.k k hkl
                  obtain ⟨ay, rfl, t0⟩ := at_nat HM.out.k k (by have := HHl.out; omega)
                  replace s0 := pw_cell_below HW3.out s0
                  replace t0 := pw_cell_below HW3.out t0
                  have HKl := Aside0.mk hkl
                  have hxk : x.kids.length ≤ 1000000 := HSi.out.2.2
                  have hy : (k : Int) < (y.kids.length : Int) := by have := HHl.out; omega
                  have hyn : k < y.kids.length := by have := HHl.out; omega
                  have hx0 : 0 ≤ rd x.kids (k : Int) := HKi.out _ (rd_mem hkl)
                  have hy0 : 0 ≤ rd y.kids (k : Int) := HKj.out _ (rd_mem hyn)
                  have HNk := Aside0.mk (fun h => HNo.out k hkl h)
                  have HStep := Aside0.mk (fun (h : rd x.kids (k : Int) < (i : Int) ∧ rd y.kids (k : Int) < (j : Int) ∧ ((outs.getD (rd x.kids (k : Int)).toNat []).getD (rd y.kids (k : Int)).toNat false) = true) => (show KO (k + 1) from by
                    have h1 := HKk.out
                    rw [HKO.out] at h1 ⊢
                    exact ext_lt h1 h))
                  clear HQ
                  obtain ⟨p, hp⟩ : ∃ p : Nat, rd x.kids (k : Int) = (p : Int) := ⟨_, (Int.toNat_of_nonneg hx0).symm⟩
                  obtain ⟨q, hq⟩ : ∃ q : Nat, rd y.kids (k : Int) = (q : Int) := ⟨_, (Int.toNat_of_nonneg hy0).symm⟩
                  rw [hp, Int.toNat_natCast] at HStep HNk
                  rw [hq, Int.toNat_natCast] at HStep HNk
                  rw [hp] at s0
                  rw [hq] at t0
                  clear hx0 hy0 hp hq
                  by_cases h1 : p < i
                  · by_cases h2 : q < j
                    · obtain ⟨Ao, co, hvo⟩ := Kd.R_slice HI3.out.out
                      subst hvo
                      have hCo := (Kd.R_reads' HI3.out.out).2.2
                      have hpo : p < outs.length := by rw [HTl.out.1]; exact h1
                      obtain ⟨ao, Bp, dp, rfl, o0, hdp, hCp⟩ := at_bools hCo p hpo
                      have hpl := HTl.out.2 p h1
                      obtain ⟨ap, rfl, o1⟩ := at_bool hCp q (by rw [hpl]; omega)
                      rw [hpl] at o0
                      have n1 : decide ((i : Int) ≤ (p : Int)) = false := decide_eq_false (by omega)
                      have n2 : decide ((j : Int) ≤ (q : Int)) = false := decide_eq_false (by omega)
                      have n1n : decide (i ≤ p) = false := decide_eq_false (by omega)
                      have n2n : decide (j ≤ q) = false := decide_eq_false (by omega)
                      have m1 : (p : Int) < (outs.length : Int) := by omega
                      have m2 : (q : Int) < (b.nodes.length : Int) := by omega
                      have HLp := Aside0.mk hpl
                      clear hCo hdp hCp hpl hpo
                      generalize (outs.getD p []).getD q false = z at o1 HStep HNk
                      have HZ := Aside0.mk (show (z = false ∧ r = false) ∨ (z = true ∧ KO (k + 1)) from by
                        cases z with
                        | true => exact .inr ⟨rfl, HStep.out ⟨by omega, by omega, rfl⟩⟩
                        | false => exact .inl ⟨rfl, HNk.out (fun h => by cases h.2.2)⟩)
                      clear HStep HNk h1 h2
                      go_wp2
                      go_quiet (fail)
                      go_wp2
                      have hbq := pw_below_drewN (Below.refl wr.heap.size wr) nq
                      have HI4 := Aside0.mk (HI3.out.later hbq)
                      have g4 := pw_cell_below hbq g3
                      have e4 := pw_cell_below hbq e3
                      go_roundw
                      case rel => exact ⟨k + 1, z, HKl.out, by go_num, rfl, HZ, g4, e4, HI4⟩
                      case measure => have := HKl.out; simp [intOf]; omega
                    · have n1 : decide ((i : Int) ≤ (p : Int)) = false := decide_eq_false (by omega)
                      have n2 : decide ((j : Int) ≤ (q : Int)) = true := decide_eq_true (by omega)
                      have n1n : decide (i ≤ p) = false := decide_eq_false (by omega)
                      have n2n : decide (j ≤ q) = true := decide_eq_true (by omega)
                      have HZ := Aside0.mk (show r = false from HNk.out (fun h => by omega))
                      clear HStep HNk h1 h2
                      go_wp2
                      go_roundw
                      case rel => exact ⟨k + 1, false, HKl.out, by go_num, rfl, ⟨.inl ⟨rfl, HZ.out⟩⟩, g3, e3, HI3⟩
                      case measure => have := HKl.out; simp [intOf]; omega
                  · have n1 : decide ((i : Int) ≤ (p : Int)) = true := decide_eq_true (by omega)
                    have n1n : decide (i ≤ p) = true := decide_eq_true (by omega)
                    have HZ := Aside0.mk (show r = false from HNk.out (fun h => by omega))
                    clear HStep HNk h1
                    go_wp2
                    go_roundw
                    case rel => exact ⟨k + 1, false, HKl.out, by go_num, rfl, ⟨.inl ⟨rfl, HZ.out⟩⟩, g3, e3, HI3⟩
                    case measure => have := HKl.out; simp [intOf]; omega
              · obtain rfl : k = x.kids.length := by omega
                have hr0 : r = q := by
                  rcases HQ.out with h | h
                  · rw [h.1, h.2]
                  · rw [h.1]; exact HYes.out HHo.out HHl.out h.2
                subst hr0
                clear e3 HQ hkl hk
                go_wp2_with (clear g3; at_builtin; refine Kd.R_append Kd.bool (w0 := w1) w1.heap.size rfl (.tmp 92) (.tmp 94) 38 4 (.bool false) 1 rfl Tryd.underlying38 info_bool rfl (by decide) (by omega) v row r [.bool r] (fun q => Wg.heap.size ≤ q) (fun _ => False) rfl (by go_simp) rfl (fun _ h => h.elim) (fun k hk => Nat.le_trans HI3.out.since.size hk) HI3.out.row HI3.out.below HI3.out.below.size (by omega) ?_; intro v7 w7 hR7 hB7 hg7 _; have HL := Aside0.mk (HI3.out.pushed hR7 hB7 hg7); clear hR7 hB7 hg7)
                go_roundw
                case rel => exact ⟨j + 1, _, by omega, by go_num, rfl, by rw [HRg.out]; exact HL⟩
                case measure => simp [intOf]; omega
        · obtain rfl : j = b.nodes.length := by omega
          have hol := HTl.out.1
          generalize hrow : (List.range b.nodes.length).map (alkC a.nodes b.nodes outs i) = row at HI HTs
          obtain ⟨Av, cv, hv⟩ := Kd.R_slice HI.out.row
          subst hv
          go_wp2_with (clear q0; at_builtin; refine Kd.R_append kBools (w0 := w1) w1.heap.size rfl (.tmp 96) (.tmp 98) 36 38 (.slice none 0 0) 24 rfl Tryd.underlying36 info_bools rfl (by decide) (by omega) vo outs row [.slice Av row.length cv] (fun _ => True) (fun q => Wg.heap.size ≤ q) rfl (by go_simp) ⟨_, rfl, HI.out.row⟩ (fun k hk => ⟨trivial, fun e => by have := HI.out.out.1 k e.symm; omega⟩) (fun _ _ => trivial) (Kd.R_mono HI.out.out (fun _ _ => trivial)) HI.out.below HI.out.below.size (by omega) ?_; intro v7 w7 hR7 hB7 hg7 _; have HL := Aside0.mk (AlkOut.mk hR7 hB7); clear hR7 hB7 hg7)
          go_roundw
          case rel => exact ⟨i + 1, _, by omega, by go_num, rfl, by rw [HTs.out]; exact HL⟩
          case measure => simp [intOf]; omega
    · obtain rfl : i = a.nodes.length := by omega
      go_wp2
      obtain ⟨A5, c5, hv5⟩ := Kd.R_slice HO.out.out
      subst hv5
      rw [alkT_len] at HO ⊢
      go_ret
      exact ⟨A5, c5, rfl, by have := (Kd.R_reads' HO.out.out); exact this.2.1, by have := (Kd.R_reads' HO.out.out).2.2; rwa [alkT_len] at this, below_step HB.out HO.out.below⟩
end Go.Proofs.YtdfneldenipljaaDoor.L
end
section
namespace Go.Proofs.YtdfneldenipljaaDoor.L
open Go.RowKit Go.ChangeShapes Go.WideShapes Go.Proofs.YtdfneldenipljaaDoorW.PrintWords Go.Proofs.YtdfneldenipljaaDoorW.PrintLast Go.Proofs.YtdfneldenipljaaDoorW.PrintMore
attribute [local go_sem] max2_int min2_int max_two min_two max_three min_three max_four min_four
theorem sc_mem {l : List Scene} {i : Nat} (h : i < l.length) : sc l i ∈ l := by
  unfold sc
  rw [getD_eq _ h]
  exact List.getElem_mem h
theorem all_numd {T : Lib.PrintTabs} {l : List Scene} (hA : ∀ s ∈ l, AheadN s.nodes) {i : Nat} (hi : i < l.length) : Numd T (allS T l).1 (sc l i).nodes ((allS T l).2.getD i []) := (all_spec T hA).numd i hi
theorem all_alk {T : Lib.PrintTabs} {l : List Scene} (hA : ∀ s ∈ l, AheadN s.nodes) {i k : Nat} (hi : i < l.length) (hk : k < l.length) {j m : Nat} (hj : j < (sc l i).nodes.length) (hm : m < (sc l k).nodes.length) :
    ((alkT (sc l i).nodes (sc l k).nodes (sc l i).nodes.length).getD j []).getD m false = true ↔ rd ((allS T l).2.getD i []) (j : Int) = rd ((allS T l).2.getD k []) (m : Int) := by
  rw [alk_cell _ _ hj hm]
  exact alk_num (hA _ (sc_mem hi)) (hA _ (sc_mem hk)) (all_numd hA hi) (all_numd hA hk) j m hj hm
theorem cnt_new {own : List Int} {c j : Nat} (h : rd own (j : Int) = (cntF own c j : Int)) : cntF own c (j + 1) = cntF own c j + 1 := by
  show (if _ then _ else _) = _
  rw [if_pos h]
theorem cnt_old {own : List Int} {c j : Nat} (h : rd own (j : Int) < (cntF own c j : Int)) : cntF own c (j + 1) = cntF own c j := by
  show (if _ then _ else _) = _
  rw [if_neg (by omega)]
end Go.Proofs.YtdfneldenipljaaDoor.L
end
section
namespace Go.Proofs.YtdfneldenipljaaDoor.L
open Go.RowKit Go.ChangeShapes Go.WideShapes Go.Proofs.YtdfneldenipljaaDoorW.PrintWords Go.Proofs.YtdfneldenipljaaDoorW.PrintLast Go.Proofs.YtdfneldenipljaaDoorW.PrintMore
attribute [local go_sem] max2_int min2_int max_two min_two max_three min_three max_four min_four
def sameN (a b : Node) : Bool := decide (a.kind = b.kind ∧ a.ints = b.ints ∧ a.texts = b.texts ∧ a.kids = b.kids)
theorem sameN_iff {a b : Node} : sameN a b = true ↔ a = b := by
  unfold sameN
  constructor
  · intro h
    have h := of_decide_eq_true h
    cases a; cases b
    simp only at h
    obtain ⟨rfl, rfl, rfl, rfl⟩ := h
    rfl
  · rintro rfl; exact decide_eq_true ⟨rfl, rfl, rfl, rfl⟩
set_option maxRecDepth 100000 in
set_option maxHeartbeats 2000000 in
theorem same_any (a b : Node) (A1 : Option Addr) (c1 : Nat) (A2 : Option Addr) (c2 : Nat) (A3 : Option Addr) (c3 : Nat) (B1 : Option Addr) (d1 : Nat) (B2 : Option Addr) (d2 : Nat) (B3 : Option Addr) (d3 : Nat) (w : World) (h : NodeC w a A1 c1 A2 c2 A3 c3) (h' : NodeC w b B1 d1 B2 d2 B3 d3) (hs : Small a) :
    Calls Tryd.prog 49 #[.agg #[.int .i64 a.kind, .slice A1 a.ints.length c1, .slice A2 a.texts.length c2, .slice A3 a.kids.length c3], .agg #[.int .i64 b.kind, .slice B1 b.ints.length d1, .slice B2 b.texts.length d2, .slice B3 b.kids.length d3]] w fun e w' => e = .returned (.bool (sameN a b)) ∧ Below w.heap.size w w' := by
  have HA := Aside0.mk h
  have HBn := Aside0.mk h'
  have HSm := Aside0.mk hs
  have hs3 := hs.2.2
  have hun := Tryd.underlying52
  have HB := Aside0.mk (below_alloc (below_alloc (Below.refl w.heap.size w) (.cells #[.int .i64 a.kind, .slice A1 a.ints.length c1, .slice A2 a.texts.length c2, .slice A3 a.kids.length c3] 52)) (.cells #[.int .i64 b.kind, .slice B1 b.ints.length d1, .slice B2 b.texts.length d2, .slice B3 b.kids.length d3] 52))
  have HXa := Aside0.mk (show ((w.alloc (.cells #[.int .i64 a.kind, .slice A1 a.ints.length c1, .slice A2 a.texts.length c2, .slice A3 a.kids.length c3] 52)).alloc (.cells #[.int .i64 b.kind, .slice B1 b.ints.length d1, .slice B2 b.texts.length d2, .slice B3 b.kids.length d3] 52)).heap[w.heap.size]? = some (.cells #[.int .i64 a.kind, .slice A1 a.ints.length c1, .slice A2 a.texts.length c2, .slice A3 a.kids.length c3] 52 (0, 0)) from by
    have : (w.alloc (.cells #[.int .i64 a.kind, .slice A1 a.ints.length c1, .slice A2 a.texts.length c2, .slice A3 a.kids.length c3] 52)).heap[w.heap.size]? = some (.cells #[.int .i64 a.kind, .slice A1 a.ints.length c1, .slice A2 a.texts.length c2, .slice A3 a.kids.length c3] 52 (0, 0)) := by simpa using heap_alloc_new w _
    exact (Below.block (below_alloc (Below.refl _ _) _) _ (by simp)).trans this)
  have HXb := Aside0.mk (show ((w.alloc (.cells #[.int .i64 a.kind, .slice A1 a.ints.length c1, .slice A2 a.texts.length c2, .slice A3 a.kids.length c3] 52)).alloc (.cells #[.int .i64 b.kind, .slice B1 b.ints.length d1, .slice B2 b.texts.length d2, .slice B3 b.kids.length d3] 52)).heap[w.heap.size + 1]? = some (.cells #[.int .i64 b.kind, .slice B1 b.ints.length d1, .slice B2 b.texts.length d2, .slice B3 b.kids.length d3] 52 (0, 0)) from by
    have := heap_alloc_new (w.alloc (.cells #[.int .i64 a.kind, .slice A1 a.ints.length c1, .slice A2 a.texts.length c2, .slice A3 a.kids.length c3] 52)) (.cells #[.int .i64 b.kind, .slice B1 b.ints.length d1, .slice B2 b.texts.length d2, .slice B3 b.kids.length d3] 52)
    simpa using this)
  have a0 := (blk_cell HXa.out 0).trans rfl
  have a1 := (blk_cell HXa.out 1).trans rfl
  have a2 := (blk_cell HXa.out 2).trans rfl
  have q0 := (blk_cell HXb.out 0).trans rfl
  have q1 := (blk_cell HXb.out 1).trans rfl
  have q2 := (blk_cell HXb.out 2).trans rfl
  have a3 := (blk_cell HXa.out 3).trans rfl
  have q3 := (blk_cell HXb.out 3).trans rfl
  clear h h' hs
  go_enter Tryd.func49, Tryd.ntmps49
  go_wp2_with fail
  refine (own_any a b A1 c1 A2 c2 A3 c3 B1 d1 B2 d2 B3 d3 _ (HA.out.below HB.out) (HBn.out.below HB.out) HSm.out).mono ?_
  rintro e w1 ⟨rfl, hB⟩
  have HB1 := Aside0.mk (below_step HB.out hB)
  replace HXa := Aside0.mk ((hB.block _ (blk_lt HXa.out)).trans HXa.out)
  replace HXb := Aside0.mk ((hB.block _ (blk_lt HXb.out)).trans HXb.out)
  replace a3 := (blk_cell HXa.out 3).trans rfl
  replace q3 := (blk_cell HXb.out 3).trans rfl
  clear hB a0 a1 a2 q0 q1 q2
  cases how : ownN a b with
  | false =>
    have HE : Aside0 (sameN a b = false) := ⟨decide_eq_false (fun hh => by
      have : ownN a b = true := decide_eq_true ⟨hh.1, hh.2.1, hh.2.2.1⟩
      rw [how] at this; cases this)⟩
    clear how
    go_wp2
    go_ret
    exact ⟨ret_bool HE.out.symm, HB1.out⟩
  | true =>
    have HO := Aside0.mk (of_decide_eq_true how)
    clear how
    by_cases hl : a.kids.length = b.kids.length
    · have HLn := Aside0.mk hl
      rw [← hl] at q3 HXb
      clear hl
      go_wp2
      go_loopw [5] (fun v5 W => ∃ i : Nat, i ≤ a.kids.length ∧ v5 = .int .i64 i ∧ Aside0 (∀ j : Nat, j < i → rd a.kids (j : Int) = rd b.kids (j : Int)) ∧ Aside0 (Below w1.heap.size w1 W)) (fun v5 _ => a.kids.length - (intOf v5).toNat)
      case atStart => exact ⟨0, by omega, rfl, ⟨fun j h => by omega⟩, ⟨Below.refl _ _⟩⟩
      case round =>
        obtain ⟨i, hi, rfl, HJ, HW⟩ := hrel
        replace a3 := pw_cell_below HW.out a3
        replace q3 := pw_cell_below HW.out q3
        by_cases hlt : i < a.kids.length
        · obtain ⟨ad, rfl, x1⟩ := at_nat (Kd.C_below HA.out.k (below_step HB1.out HW.out)) i hlt
          obtain ⟨bd, rfl, x2⟩ := at_nat (Kd.C_below HBn.out.k (below_step HB1.out HW.out)) i (by rw [← HLn.out]; exact hlt)
          by_cases he : rd a.kids (i : Int) = rd b.kids (i : Int)
          · have de : (rd a.kids (i : Int) != rd b.kids (i : Int)) = false := by simp [he]
            have HJ2 := Aside0.mk (ext_lt HJ.out he)
            have HW2 := Aside0.mk (pw_below_drewN HW.out 1)
            clear he
            go_wp2
            go_region
            go_wp2
            go_roundw
            case rel => exact ⟨i + 1, by omega, by go_num, HJ2, HW2⟩
            case measure => simp [intOf]; omega
          · have de : (rd a.kids (i : Int) != rd b.kids (i : Int)) = true := by simp [he]
            have HE : Aside0 (sameN a b = false) := ⟨decide_eq_false (fun hh => he (by rw [hh.2.2.2]))⟩
            clear he
            go_wp2
            go_region
            go_wp2
            go_ret
            exact ⟨ret_bool HE.out.symm, pw_below_drewN (below_step HB1.out HW.out) 1⟩
        · obtain rfl : i = a.kids.length := by omega
          have HE : Aside0 (sameN a b = true) := ⟨decide_eq_true ⟨HO.out.1, HO.out.2.1, HO.out.2.2, List.ext_getElem HLn.out (fun j h1 h2 => by rw [← rd_eq h1, ← rd_eq h2]; exact HJ.out j h1)⟩⟩
          go_wp2
          go_ret
          exact ⟨ret_bool HE.out.symm, below_step HB1.out HW.out⟩
    · have HE : Aside0 (sameN a b = false) := ⟨decide_eq_false (fun hh => hl (by rw [hh.2.2.2]))⟩
      have dl : (a.kids.length != b.kids.length) = true := by simp [hl]
      have dl' : ((a.kids.length : Int) != (b.kids.length : Int)) = true := by simp; omega
      clear hl
      go_wp2
      go_ret
      exact ⟨ret_bool HE.out.symm, HB1.out⟩
end Go.Proofs.YtdfneldenipljaaDoor.L
end
section
namespace Go.Proofs.YtdfneldenipljaaDoor.L
open Go.RowKit Go.ChangeShapes Go.WideShapes Go.Proofs.YtdfneldenipljaaDoorW.PrintWords Go.Proofs.YtdfneldenipljaaDoorW.PrintLast Go.Proofs.YtdfneldenipljaaDoorW.PrintMore
attribute [local go_sem] max2_int min2_int max_two min_two max_three min_three max_four min_four
theorem nodes_ext {xs ys : List Node} (hl : xs.length = ys.length) (h : ∀ j : Nat, j < xs.length → nd xs j = nd ys j) : xs = ys := List.ext_getElem hl (fun j h1 h2 => by
  have := h j h1
  unfold nd at this
  rw [getD_eq _ h1, getD_eq _ h2] at this
  exact this)
end Go.Proofs.YtdfneldenipljaaDoor.L
end
section
namespace Go.Proofs.YtdfneldenipljaaDoor.L
open Go.RowKit Go.ChangeShapes Go.WideShapes Go.Proofs.YtdfneldenipljaaDoorW.PrintWords Go.Proofs.YtdfneldenipljaaDoorW.PrintLast Go.Proofs.YtdfneldenipljaaDoorW.PrintMore
attribute [local go_sem] max2_int min2_int max_two min_two max_three min_three max_four min_four
open Classical in
noncomputable def sameS (s t : Scene) : Bool := decide (s = t)
theorem sameS_yes {s t : Scene} (h : s = t) : sameS s t = true := by unfold sameS; simp [h]
theorem sameS_no {s t : Scene} (h : ¬ s = t) : sameS s t = false := by unfold sameS; simp [h]
theorem scene_ext {s t : Scene} (h1 : s.nodes = t.nodes) (h2 : s.root = t.root) : s = t := by cases s; cases t; simp only at h1 h2; subst h1 h2; rfl
set_option maxRecDepth 100000 in
set_option maxHeartbeats 4000000 in
theorem sameS_any (A : Option Addr) (c : Nat) (s : Scene) (B : Option Addr) (d : Nat) (t : Scene) (w : World) (h : kNode.C w A s.nodes.length s.nodes) (h' : kNode.C w B t.nodes.length t.nodes) (hs : ∀ i : Nat, i < s.nodes.length → Small (nd s.nodes i)) :
    Calls Tryd.prog 34 #[.agg #[.slice A s.nodes.length c, .int .i64 s.root], .agg #[.slice B t.nodes.length d, .int .i64 t.root]] w fun e w' => e = .returned (.bool (sameS s t)) ∧ Below w.heap.size w w' := by
  have HA := Aside0.mk h
  have HBn := Aside0.mk h'
  have HSm := Aside0.mk hs
  have b0 := h.2.1
  have HB := Aside0.mk (below_alloc (below_alloc (Below.refl w.heap.size w) (.cells #[.slice A s.nodes.length c, .int .i64 s.root] 34)) (.cells #[.slice B t.nodes.length d, .int .i64 t.root] 34))
  have HXa := Aside0.mk (show ((w.alloc (.cells #[.slice A s.nodes.length c, .int .i64 s.root] 34)).alloc (.cells #[.slice B t.nodes.length d, .int .i64 t.root] 34)).heap[w.heap.size]? = some (.cells #[.slice A s.nodes.length c, .int .i64 s.root] 34 (0, 0)) from by
    have : (w.alloc (.cells #[.slice A s.nodes.length c, .int .i64 s.root] 34)).heap[w.heap.size]? = some (.cells #[.slice A s.nodes.length c, .int .i64 s.root] 34 (0, 0)) := by simpa using heap_alloc_new w _
    exact (Below.block (below_alloc (Below.refl _ _) _) _ (by simp)).trans this)
  have HXb := Aside0.mk (show ((w.alloc (.cells #[.slice A s.nodes.length c, .int .i64 s.root] 34)).alloc (.cells #[.slice B t.nodes.length d, .int .i64 t.root] 34)).heap[w.heap.size + 1]? = some (.cells #[.slice B t.nodes.length d, .int .i64 t.root] 34 (0, 0)) from by
    have := heap_alloc_new (w.alloc (.cells #[.slice A s.nodes.length c, .int .i64 s.root] 34)) (.cells #[.slice B t.nodes.length d, .int .i64 t.root] 34)
    simpa using this)
  have hus := Tryd.underlying34
  have a0 := (blk_cell HXa.out 0).trans rfl
  have a1 := (blk_cell HXa.out 1).trans rfl
  have q0 := (blk_cell HXb.out 0).trans rfl
  have q1 := (blk_cell HXb.out 1).trans rfl
  have hun := Tryd.underlying52
  clear h h' hs
  by_cases hr : ¬ s.root = t.root
  · have HE : Aside0 (sameS s t = false) := ⟨sameS_no (fun e => hr (by rw [e]))⟩
    have dr : (s.root != t.root) = true := by simp [hr]
    clear hr
    go_enter Tryd.func34, Tryd.ntmps34
    go_wp2
    go_ret
    exact ⟨ret_bool HE.out.symm, HB.out⟩
  replace hr := Classical.byContradiction hr
  have HRo := Aside0.mk hr
  have dr : (s.root != t.root) = false := by simp [hr]
  clear hr
  by_cases hl : s.nodes.length = t.nodes.length
  · have HL := Aside0.mk hl
    rw [← hl] at q0 HXb HXa a0 a1 q1 HB ⊢
    clear hl
    go_enter Tryd.func34, Tryd.ntmps34
    go_wp2
    go_loopw [5] (fun v5 W => ∃ i : Nat, i ≤ s.nodes.length ∧ v5 = .int .i64 i ∧ Aside0 (∀ j : Nat, j < i → nd s.nodes j = nd t.nodes j) ∧ Aside0 (Below w.heap.size w W) ∧ Aside0 (W.cell? ⟨w.heap.size, 0, none⟩ = some (.slice A s.nodes.length c) ∧ W.cell? ⟨w.heap.size + 1, 0, none⟩ = some (.slice B s.nodes.length d))) (fun v5 _ => s.nodes.length - (intOf v5).toNat)
    case atStart => exact ⟨0, by omega, rfl, ⟨fun j h => by omega⟩, HB, ⟨a0, q0⟩⟩
    case round =>
      obtain ⟨i, hi, rfl, HJ, HW, HC⟩ := hrel
      clear a0 q0
      have a0 := HC.out.1
      have q0 := HC.out.2
      by_cases hlt : i < s.nodes.length
      · obtain ⟨ad, A1, c1, A2, c2, A3, c3, rfl, x0, x1, x2, x3, hN⟩ := at_node HA.out i hlt
        obtain ⟨bd, B1, d1, B2, d2, B3, d3, rfl, y0, y1, y2, y3, hM⟩ := at_node HBn.out i (by rw [← HL.out]; exact hlt)
        replace x0 := pw_cell_below HW.out x0
        replace x1 := pw_cell_below HW.out x1
        replace x2 := pw_cell_below HW.out x2
        replace x3 := pw_cell_below HW.out x3
        replace y0 := pw_cell_below HW.out y0
        replace y1 := pw_cell_below HW.out y1
        replace y2 := pw_cell_below HW.out y2
        replace y3 := pw_cell_below HW.out y3
        have HN := Aside0.mk hN
        have HM := Aside0.mk hM
        clear hN hM
        go_wp2
        go_region_held3 (fun W => W.cell? ⟨w.heap.size, 0, none⟩ = some (.slice (some ad) s.nodes.length c) ∧ W.cell? ⟨w.heap.size + 1, 0, none⟩ = some (.slice (some bd) s.nodes.length d) ∧ W.cell? (ad.add (i * 4)) = some (.int .i64 (nd s.nodes i).kind) ∧ W.cell? ⟨(ad.add (i * 4)).block, (ad.add (i * 4)).off + 1, none⟩ = some (.slice A1 (nd s.nodes i).ints.length c1) ∧ W.cell? ⟨(ad.add (i * 4)).block, (ad.add (i * 4)).off + 2, none⟩ = some (.slice A2 (nd s.nodes i).texts.length c2) ∧ W.cell? ⟨(ad.add (i * 4)).block, (ad.add (i * 4)).off + 3, none⟩ = some (.slice A3 (nd s.nodes i).kids.length c3) ∧
            W.cell? (bd.add (i * 4)) = some (.int .i64 (nd t.nodes i).kind) ∧ W.cell? ⟨(bd.add (i * 4)).block, (bd.add (i * 4)).off + 1, none⟩ = some (.slice B1 (nd t.nodes i).ints.length d1) ∧ W.cell? ⟨(bd.add (i * 4)).block, (bd.add (i * 4)).off + 2, none⟩ = some (.slice B2 (nd t.nodes i).texts.length d2) ∧ W.cell? ⟨(bd.add (i * 4)).block, (bd.add (i * 4)).off + 3, none⟩ = some (.slice B3 (nd t.nodes i).kids.length d3))
          (first
            | (go_split_ands
               refine ⟨?_, ?_, ?_, ?_, ?_, ?_, ?_, ?_, ?_, ?_⟩
               all_goals first
                 | with_reducible assumption
                 | with_reducible exact pw_cell_below hB (by assumption)
                 | (simp [*]; done)))
          (first
            | (go_at_call 49; refine (same_any (nd s.nodes i) (nd t.nodes i) A1 c1 A2 c2 A3 c3 B1 d1 B2 d2 B3 d3 _ (HN.out.below (below_drew HW.out)) (HM.out.below (below_drew HW.out)) (HSm.out i hlt)).mono ?_; rintro e w2 ⟨rfl, hB2⟩; have hB := hB2))
        have HB2 := Aside0.mk (below_step (below_drew HW.out) hB2)
        have HC2 := Aside0.mk (And.intro (pw_cell_below hB2 (show wr.drew.cell? _ = _ from a0)) (pw_cell_below hB2 (show wr.drew.cell? _ = _ from q0)))
        clear x0 x1 x2 x3 y0 y1 y2 y3 a0 q0
        cases hc : sameN (nd s.nodes i) (nd t.nodes i) with
        | true =>
          have HJ2 := Aside0.mk (ext_lt HJ.out (sameN_iff.1 hc))
          clear hc
          go_wp2
          go_roundw
          case rel => exact ⟨i + 1, by omega, by go_num, HJ2, HB2, HC2⟩
          case measure => simp [intOf]; omega
        | false =>
          have HE : Aside0 (sameS s t = false) := ⟨sameS_no (fun e => by
            have : sameN (nd s.nodes i) (nd t.nodes i) = true := sameN_iff.2 (by rw [e])
            rw [hc] at this; cases this)⟩
          clear hc
          go_wp2
          go_ret
          exact ⟨ret_bool HE.out.symm, HB2.out⟩
      · obtain rfl : i = s.nodes.length := by omega
        have HE : Aside0 (sameS s t = true) := ⟨sameS_yes (scene_ext (nodes_ext HL.out HJ.out) HRo.out)⟩
        go_wp2
        go_ret
        exact ⟨ret_bool HE.out.symm, HW.out⟩
  · have HE : Aside0 (sameS s t = false) := ⟨sameS_no (fun e => hl (by rw [e]))⟩
    have dl : (s.nodes.length != t.nodes.length) = true := by simp [hl]
    have dl' : ((s.nodes.length : Int) != (t.nodes.length : Int)) = true := by simp; omega
    clear hl
    go_enter Tryd.func34, Tryd.ntmps34
    go_wp2
    go_ret
    exact ⟨ret_bool HE.out.symm, HB.out⟩
end Go.Proofs.YtdfneldenipljaaDoor.L
end
section
namespace Go.Proofs.YtdfneldenipljaaDoor.L
open Go.RowKit Go.ChangeShapes Go.WideShapes Go.Proofs.YtdfneldenipljaaDoorW.PrintWords Go.Proofs.YtdfneldenipljaaDoorW.PrintLast Go.Proofs.YtdfneldenipljaaDoorW.PrintMore
attribute [local go_sem] max2_int min2_int max_two min_two max_three min_three max_four min_four
def edgesTo (ns : List Node) : Nat → Int
  | 0 => 0
  | i + 1 => IntKind.i64.wrap (edgesTo ns i + ((nd ns i).kids.length : Int))
def edgesW (ns : List Node) : Int := edgesTo ns ns.length
set_option maxRecDepth 100000 in
set_option maxHeartbeats 2000000 in
theorem edges_any (A : Option Addr) (c : Nat) (s : Scene) (w : World) (h : kNode.C w A s.nodes.length s.nodes) :
    Calls Tryd.prog 40 #[.agg #[.slice A s.nodes.length c, .int .i64 s.root]] w fun e w' => e = .returned (.int .i64 (edgesW s.nodes)) ∧ Below w.heap.size w w' := by
  have HR := Aside0.mk h
  have b0 := h.2.1
  have HB := Aside0.mk (below_alloc (Below.refl w.heap.size w) (.cells #[.slice A s.nodes.length c, .int .i64 s.root] 34))
  have k0 := box_cell w _ rfl #[.slice A s.nodes.length c, .int .i64 s.root] 34 0 _ rfl
  have hu := Tryd.underlying34
  have hun := Tryd.underlying52
  clear h
  go_enter Tryd.func40, Tryd.ntmps40
  go_wp2
  go_loopw [4, 3] (fun v4 v3 W => ∃ i : Nat, i ≤ s.nodes.length ∧ v4 = .int .i64 i ∧ v3 = .int .i64 (edgesTo s.nodes i) ∧ W = w.alloc (.cells #[.slice A s.nodes.length c, .int .i64 s.root] 34)) (fun v4 _ _ => s.nodes.length - (intOf v4).toNat)
  case atStart => exact ⟨0, by omega, rfl, rfl, by first | rfl | trivial⟩
  case round =>
    obtain ⟨i, hi, rfl, rfl, rfl⟩ := hrel
    by_cases hlt : i < s.nodes.length
    · obtain ⟨adn, A1, c1, A2, c2, A3, c3, rfl, x0, x1, x2, x3, hN⟩ := at_node HR.out i hlt
      replace x3 := pw_cell_below HB.out x3
      have HE := Aside0.mk (show edgesTo s.nodes (i + 1) = IntKind.i64.wrap (edgesTo s.nodes i + ((nd s.nodes i).kids.length : Int)) from rfl)
      clear hN x0 x1 x2
      generalize edgesTo s.nodes i = a at HE ⊢
      go_wp2
      go_roundw
      case rel => exact ⟨i + 1, by omega, by go_num, by rw [HE.out, i64_w], by first | rfl | trivial⟩
      case measure => simp [intOf]; omega
    · obtain rfl : i = s.nodes.length := by omega
      go_wp2
      go_ret
      exact ⟨rfl, HB.out⟩
end Go.Proofs.YtdfneldenipljaaDoor.L
end
section
namespace Go.Proofs.YtdfneldenipljaaDoor.L
open Go.RowKit Go.ChangeShapes Go.WideShapes Go.Proofs.YtdfneldenipljaaDoorW.PrintWords Go.Proofs.YtdfneldenipljaaDoorW.PrintLast Go.Proofs.YtdfneldenipljaaDoorW.PrintMore
attribute [local go_sem] max2_int min2_int max_two min_two max_three min_three max_four min_four
def greatS (s : Scene) : Bool := decide (60 < s.nodes.length ∨ 300 < edgesW s.nodes ∨ ∃ j, j < s.nodes.length ∧ greatN (nd s.nodes j) = true)
set_option maxRecDepth 100000 in
set_option maxHeartbeats 2000000 in
theorem greatS_any (A : Option Addr) (c : Nat) (s : Scene) (w : World) (h : kNode.C w A s.nodes.length s.nodes) :
    Calls Tryd.prog 23 #[.agg #[.slice A s.nodes.length c, .int .i64 s.root]] w fun e w' => e = .returned (.bool (greatS s)) ∧ Below w.heap.size w w' := by
  have HR := Aside0.mk h
  have b0 := h.2.1
  have HB := Aside0.mk (below_alloc (Below.refl w.heap.size w) (.cells #[.slice A s.nodes.length c, .int .i64 s.root] 34))
  have k0 := box_cell w _ rfl #[.slice A s.nodes.length c, .int .i64 s.root] 34 0 _ rfl
  have k1 := box_cell w _ rfl #[.slice A s.nodes.length c, .int .i64 s.root] 34 1 _ rfl
  have hu := Tryd.underlying34
  have hun := Tryd.underlying52
  clear h
  by_cases h1 : 60 < s.nodes.length
  · have HE : Aside0 (greatS s = true) := ⟨decide_eq_true (.inl h1)⟩
    have d1 : decide (60 < (s.nodes.length : Int)) = true := decide_eq_true (by omega)
    clear h1
    go_enter Tryd.func23, Tryd.ntmps23
    go_wp2
    go_ret
    exact ⟨ret_bool HE.out.symm, HB.out⟩
  have H1 := Aside0.mk h1
  have d1 : decide (60 < (s.nodes.length : Int)) = false := decide_eq_false (by omega)
  clear h1
  go_enter Tryd.func23, Tryd.ntmps23
  go_wp2_with fail
  refine (edges_any A c s _ (Kd.C_below HR.out HB.out)).mono ?_
  rintro e w1 ⟨rfl, hB1⟩
  have HB1 := Aside0.mk (below_step HB.out hB1)
  replace k0 := pw_cell_below hB1 k0
  clear hB1 k1 d1
  by_cases h2 : 300 < edgesW s.nodes
  · have HE : Aside0 (greatS s = true) := ⟨decide_eq_true (.inr (.inl h2))⟩
    have d2 : decide (300 < edgesW s.nodes) = true := decide_eq_true h2
    clear h2
    go_wp2
    go_ret
    exact ⟨ret_bool HE.out.symm, HB1.out⟩
  have H2 := Aside0.mk h2
  have d2 : decide (300 < edgesW s.nodes) = false := decide_eq_false h2
  clear h2
  go_wp2
  clear d2
  go_loopw [3] (fun v3 W => ∃ i : Nat, i ≤ s.nodes.length ∧ v3 = .int .i64 i ∧ Aside0 (∀ j : Nat, j < i → ¬ greatN (nd s.nodes j) = true) ∧ Aside0 (Below w.heap.size w W ∧ W.cell? ⟨w.heap.size, 0, none⟩ = some (.slice A s.nodes.length c))) (fun v3 _ => s.nodes.length - (intOf v3).toNat)
  case atStart => exact ⟨0, by omega, rfl, ⟨fun j h => by omega⟩, ⟨HB1.out, k0⟩⟩
  case round =>
    clear k0
    obtain ⟨i, hi, rfl, HJ, HW⟩ := hrel
    have k0 := HW.out.2
    by_cases hlt : i < s.nodes.length
    · obtain ⟨adn, A1, c1, A2, c2, A3, c3, rfl, x0, x1, x2, x3, hN⟩ := at_node HR.out i hlt
      replace x0 := pw_cell_below HW.out.1 x0
      replace x1 := pw_cell_below HW.out.1 x1
      replace x2 := pw_cell_below HW.out.1 x2
      replace x3 := pw_cell_below HW.out.1 x3
      have HN := Aside0.mk hN
      clear hN
      go_wp2_with fail
      refine (great_any (nd s.nodes i) A1 c1 A2 c2 A3 c3 _ (HN.out.below HW.out.1)).mono ?_
      rintro e w2 ⟨rfl, hB2⟩
      have HB2 := Aside0.mk (And.intro (below_step HW.out.1 hB2) (pw_cell_below hB2 k0))
      clear hB2 k0 x0 x1 x2 x3
      cases hg : greatN (nd s.nodes i) with
      | true =>
        have HE : Aside0 (greatS s = true) := ⟨decide_eq_true (.inr (.inr ⟨i, hlt, hg⟩))⟩
        clear hg
        go_wp2
        go_ret
        exact ⟨ret_bool HE.out.symm, HB2.out.1⟩
      | false =>
        have HJ2 := Aside0.mk (ext_lt HJ.out (show ¬ greatN (nd s.nodes i) = true by rw [hg]; simp))
        clear hg
        go_wp2
        go_roundw
        case rel => exact ⟨i + 1, by omega, by go_num, HJ2, HB2⟩
        case measure => simp [intOf]; omega
    · obtain rfl : i = s.nodes.length := by omega
      have HE : Aside0 (greatS s = false) := ⟨decide_eq_false (fun h => by
        rcases h with h | h | ⟨j, hj, h⟩
        · exact H1.out h
        · have := H2.out; omega
        · exact HJ.out j hj h)⟩
      go_wp2
      go_ret
      exact ⟨ret_bool HE.out.symm, HW.out.1⟩
end Go.Proofs.YtdfneldenipljaaDoor.L
end
section
namespace Go.Proofs.YtdfneldenipljaaDoor.L
open Go.RowKit Go.ChangeShapes Go.WideShapes Go.Proofs.YtdfneldenipljaaDoorW.PrintWords Go.Proofs.YtdfneldenipljaaDoorW.PrintLast Go.Proofs.YtdfneldenipljaaDoorW.PrintMore
attribute [local go_sem] max2_int min2_int max_two min_two max_three min_three max_four min_four
def Lits {α : Type} (d : Kd α) (W : World) : List α → List Value → Prop
  | [], cs => cs = []
  | p :: ps, cs => ∃ c r, cs = c ++ r ∧ d.K W p c ∧ Lits d W ps r
theorem Lits.reps {α : Type} {d : Kd α} {W : World} : ∀ (ps : List α) (cs : List Value) (qs : List α) (ds : List Value), Lits d W ps cs → Reps (d.K W) d.sz qs ds → Reps (d.K W) d.sz (qs ++ ps) (ds ++ cs)
  | [], cs, qs, ds, h, hr => by
    obtain rfl : cs = [] := h
    simpa using hr
  | p :: ps, cs, qs, ds, h, hr => by
    obtain ⟨c, r, rfl, hk, hl⟩ := h
    have := Lits.reps ps r (qs ++ [p]) (ds ++ c) hl (Reps.snoc hr hk (d.K_len hk))
    simpa using this
theorem C_lits {α : Type} (d : Kd α) (W : World) (e n : Nat) (hn : W.heap.size = n) (ps : List α) (cs : List Value) (h : Lits d W ps cs) (hm : ps.length ≤ 1000000) {ca : Array Value} (hca : ca = cs.toArray) :
    d.C (W.alloc (.cells ca e)) (some ⟨n, 0, none⟩) ps.length ps := by
  subst hn hca
  have hr := Lits.reps ps cs [] [] h (Reps.none _ _)
  rw [List.nil_append, List.nil_append] at hr
  have hb : Below W.heap.size W (W.alloc (.cells cs.toArray e)) := below_alloc (Below.refl _ _) _
  refine ⟨rfl, by omega, fun _ => ⟨_, rfl, fun j p hj => ?_⟩⟩
  have hk := hr.2 j p hj
  refine ⟨_, d.K_len hk, d.K_below hb hk, fun q u hu => ?_⟩
  have hh : (W.alloc (.cells cs.toArray e)).heap[W.heap.size]? = some (.cells cs.toArray e (0, 0)) := by simpa using heap_alloc_new W _
  rw [Go.Proofs.YtdfneldenipljaaDoorW.PrintWords.add_plain, blk_cell hh]
  rw [List.getElem?_take] at hu
  split at hu
  · rw [List.getElem?_drop] at hu
    simpa using hu
  · cases hu
end Go.Proofs.YtdfneldenipljaaDoor.L
end
section
namespace Go.Proofs.YtdfneldenipljaaDoor.L
open Go.RowKit Go.ChangeShapes Go.WideShapes Go.Proofs.YtdfneldenipljaaDoorW.PrintWords Go.Proofs.YtdfneldenipljaaDoorW.PrintLast Go.Proofs.YtdfneldenipljaaDoorW.PrintMore
attribute [local go_sem] max2_int min2_int max_two min_two max_three min_three max_four min_four
theorem scK {w : World} {A : Option Addr} {c : Nat} {s : Scene} (h : kNode.C w A s.nodes.length s.nodes) (hc : s.nodes.length ≤ c) : kScene.K w s [.slice A s.nodes.length c, .int .i64 s.root] := ⟨_, _, rfl, ⟨A, c, rfl, hc, h⟩, rfl⟩
theorem sc_row1 (w : World) (g : Nat) (hg : w.heap.size = g) {a : Scene} {x0 x1 : Value} (ha : kScene.K w a [x0, x1]) : kScene.C (w.alloc (.cells #[x0, x1] 34)) (some ⟨g, 0, none⟩) 1 [a] := by
  subst hg
  exact C_lits kScene _ 34 _ rfl [a] _ ⟨_, _, (show _ = [_, _] ++ [] from rfl), ha, rfl⟩ (by simp) rfl
theorem sc_row2 (w : World) (g : Nat) (hg : w.heap.size = g) {a b : Scene} {x0 x1 y0 y1 : Value} (ha : kScene.K w a [x0, x1]) (hb : kScene.K w b [y0, y1]) : kScene.C (w.alloc (.cells #[x0, x1, y0, y1] 34)) (some ⟨g, 0, none⟩) 2 [a, b] := by
  subst hg
  exact C_lits kScene _ 34 _ rfl [a, b] _ ⟨_, _, (show _ = [_, _] ++ [_, _] from rfl), ha, _, _, (show _ = [_, _] ++ [] from rfl), hb, rfl⟩ (by simp) rfl
def kA : Node := ⟨3, [], [], []⟩
def kB : Node := ⟨1, [], [], [0, 1]⟩
def sK : Scene := ⟨[kA, kA, kB], 2⟩
end Go.Proofs.YtdfneldenipljaaDoor.L
end
section
namespace Go.Proofs.YtdfneldenipljaaDoor.L
open Go.RowKit Go.ChangeShapes Go.WideShapes Go.Proofs.YtdfneldenipljaaDoorW.PrintWords Go.Proofs.YtdfneldenipljaaDoorW.PrintLast Go.Proofs.YtdfneldenipljaaDoorW.PrintMore
attribute [local go_sem] max2_int min2_int max_two min_two max_three min_three max_four min_four
theorem at_ints {w : World} {A : Option Addr} {n : Nat} {xs : List (List Int)} (h : kInts.C w A n xs) (i : Nat) (h1 : i < n) :
    ∃ ad B d, A = some ad ∧ w.cell? (ad.add i) = some (.slice B (xs.getD i []).length d) ∧ (xs.getD i []).length ≤ d ∧ (Kd.int .i64).C w B (xs.getD i []).length (xs.getD i []) := by
  obtain ⟨ad, c, e, _, hK, hc0⟩ := Kd.C_get h [] (i : Int) (by omega) (by omega)
  have hK : kInts.K w (xs.getD i []) c := by simpa using hK
  obtain ⟨B, d, rfl, hl, hC⟩ := hK
  refine ⟨ad, B, d, e, ?_, hl, hC⟩
  have := hc0 0 _ rfl
  simpa [show kInts.sz = 1 from rfl] using this
theorem kA_K (w : World) : kNode.K w kA [.int .i64 3, .slice none 0 0, .slice none 0 0, .slice none 0 0] := kNode_mk (x := kA) ⟨by simp [kA], by simp [kA], by simp [kA], C_nil _ _, C_nil _ _, C_nil _ _⟩
theorem add_zero (ad : Addr) : ad.add (0 : Nat) = ad := by cases ad; simp [Addr.add]
end Go.Proofs.YtdfneldenipljaaDoor.L
end
section
namespace Go.Proofs.YtdfneldenipljaaDoor.L
open Go.RowKit Go.ChangeShapes Go.WideShapes Go.Proofs.YtdfneldenipljaaDoorW.PrintWords Go.Proofs.YtdfneldenipljaaDoorW.PrintLast Go.Proofs.YtdfneldenipljaaDoorW.PrintMore
attribute [local go_sem] max2_int min2_int max_two min_two max_three min_three max_four min_four
theorem sum_map_le {f : Nat → Nat} {b : Nat} : ∀ l : List Nat, (∀ x ∈ l, f x ≤ b) → (l.map f).sum ≤ l.length * b
  | [], _ => by simp
  | x :: l, h => by
    have h1 := sum_map_le l (fun y hy => h y (by simp [hy]))
    have h2 := h x (by simp)
    rw [List.map_cons, List.sum_cons, List.length_cons, Nat.succ_mul]
    omega
theorem rows_leB {ns : List Node} {b : Nat} (h : ∀ i : Nat, i < ns.length → (nd ns i).kids.length ≤ b) : rows ns ≤ ns.length * (b + 1) := by
  unfold rows
  have := sum_map_le (f := wt ns) (b := b + 1) (List.range ns.length) (fun x hx => by
    have := h x (List.mem_range.1 hx)
    unfold wt; omega)
  rwa [List.length_range] at this
end Go.Proofs.YtdfneldenipljaaDoor.L
end
section
namespace Go.Proofs.YtdfneldenipljaaDoor.L
open Go.RowKit Go.ChangeShapes Go.WideShapes Go.Proofs.YtdfneldenipljaaDoorW.PrintWords Go.Proofs.YtdfneldenipljaaDoorW.PrintLast Go.Proofs.YtdfneldenipljaaDoorW.PrintMore
attribute [local go_sem] max2_int min2_int max_two min_two max_three min_three max_four min_four
structure IntsOut (w : World) (outs : List (List Int)) (v W) : Prop where
  out : kInts.R 31 W w.heap.size (fun _ => True) v outs
  below : Below w.heap.size w W
structure IntsIn (w Wg : World) (outs : List (List Int)) (own : List Int) (vo v : Value) (W : World) : Prop where
  out : kInts.R 31 W w.heap.size (fun q => q < Wg.heap.size) vo outs
  own : (Kd.int .i64).R 3 W w.heap.size (fun q => Wg.heap.size ≤ q) v own
  since : Below Wg.heap.size Wg W
  below : Below w.heap.size w W
theorem IntsIn.later {w Wg : World} {outs : List (List Int)} {own : List Int} {vo v : Value} {W W1 : World} (h : IntsIn w Wg outs own vo v W) (hb : Below W.heap.size W W1) : IntsIn w Wg outs own vo v W1 :=
  ⟨Kd.R_below h.out hb, Kd.R_below h.own hb, below_step h.since hb, below_step h.below hb⟩
theorem IntsIn.start {w W : World} {outs : List (List Int)} {vo : Value} (h : IntsOut w outs vo W) : IntsIn w W outs [] vo (.slice (some ⟨W.heap.size, 0, none⟩) 0 0) (W.alloc (.cells #[] 3)) := by
  have hb := below_alloc (Below.refl W.heap.size W) (.cells #[] 3)
  refine ⟨Kd.R_below (Kd.R_mono (Kd.R_bound h.out) (fun q hq => hq.2.2.1)) hb, ?_, hb, below_step h.below hb⟩
  exact Kd.R_mono (Kd.R_bound (R_empty (Kd.int .i64) 3 W W.heap.size (Nat.le_refl _))) (fun q hq => hq.2.1) |> fun h' => Kd.R_lower h' h.below.size
theorem IntsIn.pushed {w Wg : World} {outs : List (List Int)} {own : List Int} {vo v v2 : Value} {x : Int} {W W2 : World} (h : IntsIn w Wg outs own vo v W) (hR : (Kd.int .i64).R 3 W2 w.heap.size (fun q => Wg.heap.size ≤ q) v2 (own ++ [x])) (hB : Below w.heap.size w W2) (hg : W.grownBy W2 v.ownBlock) : IntsIn w Wg outs (own ++ [x]) vo v2 W2 :=
  ⟨Kd.R_grown h.out hg (fun k hk e => by have := h.own.1 k e.symm; omega), hR, h.since.grown hg h.since.size (fun q hq => h.own.1 q hq), hB⟩
def Seek (c : Nat) (P : Prop) (t z : Int) : Prop := (z = -1 ∧ P) ∨ (z = t ∧ 0 ≤ t ∧ t < (c : Int))
theorem Seek.no {c : Nat} {P : Prop} {t z : Int} (h : Seek c P t z) (hz : z < 0) : z = -1 ∧ P := by
  rcases h with h | h
  · exact h
  · omega
theorem Seek.yes {c : Nat} {P : Prop} {t z : Int} (h : Seek c P t z) (hz : ¬ z < 0) : z = t ∧ 0 ≤ t ∧ t < (c : Int) := by
  rcases h with h | h
  · omega
  · exact h
end Go.Proofs.YtdfneldenipljaaDoor.L
end
section
namespace Go.Proofs.YtdfneldenipljaaDoor.L
open Go.RowKit Go.ChangeShapes Go.WideShapes Go.Proofs.YtdfneldenipljaaDoorW.PrintWords Go.Proofs.YtdfneldenipljaaDoorW.PrintLast Go.Proofs.YtdfneldenipljaaDoorW.PrintMore
attribute [local go_sem] max2_int min2_int max_two min_two max_three min_three max_four min_four
theorem wrap64_in (n : Int) (h : -9223372036854775808 ≤ n ∧ n ≤ 9223372036854775807) : wrap64 n = n := by unfold wrap64; omega
end Go.Proofs.YtdfneldenipljaaDoor.L
end
section
namespace Go.Proofs.YtdfneldenipljaaDoor.L
open Go.RowKit Go.ChangeShapes Go.WideShapes Go.Proofs.YtdfneldenipljaaDoorW.PrintWords Go.Proofs.YtdfneldenipljaaDoorW.PrintLast Go.Proofs.YtdfneldenipljaaDoorW.PrintMore
attribute [local go_sem] max2_int min2_int max_two min_two max_three min_three max_four min_four
theorem R_apart {α β : Type} {d : Kd α} {d' : Kd β} {e e' : Nat} {w : World} {b b' : Nat} {ok ok' : Nat → Prop} {v v' : Value} {xs : List α} {ys : List β} (h : d.R e w b ok v xs) (h' : d'.R e' w b' ok' v' ys) (hT : e ≠ e') (k : Nat) (hk : some k = v.ownBlock) : some k ≠ v'.ownBlock := fun hk' => by
  obtain ⟨c1, e1⟩ := Kd.R_typed h k hk.symm
  obtain ⟨c2, e2⟩ := Kd.R_typed h' k hk'.symm
  rw [e1] at e2
  injection e2 with e2
  injection e2 with _ e2
  exact hT e2
structure CnRel (w1 : World) (root : Int) (xs : List Node) (v4 : Value) (W : World) : Prop where
  below : Below w1.heap.size w1 W
  out : W.heap[w1.heap.size]? = some (.cells #[v4, .int .i64 root] 34 (0, 0))
  row : kNode.R 52 W w1.heap.size (fun _ => True) v4 xs
theorem CnRel.start (w1 : World) (root : Int) : CnRel w1 root [] (.slice none 0 0) (w1.alloc (.cells #[.slice none 0 0, .int .i64 root] 34)) :=
  ⟨below_alloc (Below.refl _ _) _, by simpa using heap_alloc_new w1 _, Kd.R_nil _ _ _ _ _⟩
theorem CnRel.later {w1 : World} {root : Int} {xs : List Node} {v4 : Value} {W W1 : World} (h : CnRel w1 root xs v4 W) (hb : Below W.heap.size W W1) : CnRel w1 root xs v4 W1 :=
  ⟨below_step h.below hb, (hb.block _ (blk_lt h.out)).trans h.out, Kd.R_below h.row hb⟩
theorem CnRel.drewN {w1 : World} {root : Int} {xs : List Node} {v4 : Value} {W : World} (h : CnRel w1 root xs v4 W) (m : Nat) : CnRel w1 root xs v4 (W.drewN m) := h.later (pw_below_drewN (Below.refl _ _) m)
theorem CnRel.put {w1 : World} {root : Int} {xs : List Node} {v4 v5 : Value} {ys : List Node} {W w2 : World} (h : CnRel w1 root xs v4 W) (hR : kNode.R 52 w2 w1.heap.size (fun _ => True) v5 ys) (hB : Below w1.heap.size w1 w2) (hg : W.grownBy w2 v4.ownBlock) :
    w2.heap[w1.heap.size]? = some (.cells #[v4, .int .i64 root] 34 (0, 0)) ∧ CnRel w1 root ys v5 (w2.setCell ⟨w1.heap.size, 0, none⟩ v5) := by
  have hb := blk_grown h.out hg (Kd.R_ne h.row h.out (by decide))
  refine ⟨hb, below_set hB (Nat.le_refl _), ?_, R_type hR hb (by decide) v5 0⟩
  have := blk_set hb 0 v5
  simpa using this
theorem node_off {W : World} {base : Nat} {n : Node} {v1 v2 v3 v4 : Value} {xs : List Node} (h1 : (Kd.int .i64).R 2 W base (fun _ => True) v1 n.ints) (h2 : Kd.string.R 9 W base (fun _ => True) v2 n.texts) (h3 : (Kd.int .i64).R 3 W base (fun _ => True) v3 n.kids)
    (h : kNode.R 52 W base (fun _ => True) v4 xs) : kNode.M W base (fun k => some k ≠ v4.ownBlock) n [.int .i64 n.kind, v1, v2, v3] :=
  kNode_mkM (Kd.R_mono (Kd.R_tight rfl h1) (fun k hk => R_apart h1 h (by decide) k hk)) (Kd.R_mono (Kd.R_tight rfl h2) (fun k hk => R_apart h2 h (by decide) k hk)) (Kd.R_mono (Kd.R_tight rfl h3) (fun k hk => R_apart h3 h (by decide) k hk))
end Go.Proofs.YtdfneldenipljaaDoor.L
end
section
namespace Go.Proofs.YtdfneldenipljaaDoor.L
open Go.RowKit Go.ChangeShapes Go.WideShapes Go.Proofs.YtdfneldenipljaaDoorW.PrintWords Go.Proofs.YtdfneldenipljaaDoorW.PrintLast Go.Proofs.YtdfneldenipljaaDoorW.PrintMore
attribute [local go_sem] max2_int min2_int max_two min_two max_three min_three max_four min_four
structure PF (w : World) (g r : Nat) (cs : Array Value) (W : World) (v1 v2 v3 : Value) (l1 : List Int) (l2 : List ByteArray) (l3 : List Int) : Prop where
  below : Below w.heap.size w W
  box : W.heap[g]? = some (.cells cs 52 (0, 0))
  res : W.heap[r]? = some (.cells #[.int .i64 0, .slice none 0 0, .slice none 0 0, .slice none 0 0] 52 (0, 0))
  r1 : (Kd.int .i64).R 2 W w.heap.size (fun _ => True) v1 l1
  r2 : Kd.string.R 9 W w.heap.size (fun _ => True) v2 l2
  r3 : (Kd.int .i64).R 3 W w.heap.size (fun _ => True) v3 l3
section
variable {w : World} {g r : Nat} {cs : Array Value} {W W1 : World} {v1 v2 v3 : Value} {l1 : List Int} {l2 : List ByteArray} {l3 : List Int}
theorem PF.later (h : PF w g r cs W v1 v2 v3 l1 l2 l3) (hb : Below W.heap.size W W1) : PF w g r cs W1 v1 v2 v3 l1 l2 l3 :=
  ⟨below_step h.below hb, (hb.block _ (blk_lt h.box)).trans h.box, (hb.block _ (blk_lt h.res)).trans h.res, Kd.R_below h.r1 hb, Kd.R_below h.r2 hb, Kd.R_below h.r3 hb⟩
theorem PF.alloc (h : PF w g r cs W v1 v2 v3 l1 l2 l3) (o : Obj) : PF w g r cs (W.alloc o) v1 v2 v3 l1 l2 l3 := h.later (below_alloc (Below.refl _ _) o)
theorem PF.drew (h : PF w g r cs W v1 v2 v3 l1 l2 l3) : PF w g r cs W.drew v1 v2 v3 l1 l2 l3 := h.later (below_drew (Below.refl _ _))
theorem PF.lives (h : PF w g r cs W v1 v2 v3 l1 l2 l3) : Lives 4 r W := ⟨_, rfl, _, h.res⟩
theorem PF.cell (h : PF w g r cs W v1 v2 v3 l1 l2 l3) (i : Nat) {v : Value} (hv : cs[i]? = some v) : W.cell? ⟨g, i, none⟩ = some v := (blk_cell h.box i).trans hv
theorem PF.lit1 (h : PF w g r cs W v1 v2 v3 l1 l2 l3) (b : Nat) (hb : b = W.heap.size) : PF w g r cs (W.alloc (.cells #[] 2)) (.slice (some ⟨b, 0, none⟩) 0 0) v2 v3 [] l2 l3 := by
  subst hb
  have h' := h.alloc (.cells #[] 2)
  exact { h' with r1 := R_empty _ _ _ _ h.below.size }
theorem PF.lit1a (h : PF w g r cs W v1 v2 v3 l1 l2 l3) : PF w g r cs (W.alloc (.cells #[] 2)) (.slice (some ⟨W.heap.size, 0, none⟩) 0 0) v2 v3 [] l2 l3 := h.lit1 _ rfl
theorem PF.lit1b {o : Obj} (h : PF w g r cs (W.alloc o) v1 v2 v3 l1 l2 l3) : PF w g r cs ((W.alloc o).alloc (.cells #[] 2)) (.slice (some ⟨W.heap.size + 1, 0, none⟩) 0 0) v2 v3 [] l2 l3 := h.lit1 _ (by simp)
theorem PF.lit1c {o o' : Obj} (h : PF w g r cs ((W.alloc o).alloc o') v1 v2 v3 l1 l2 l3) : PF w g r cs (((W.alloc o).alloc o').alloc (.cells #[] 2)) (.slice (some ⟨W.heap.size + 1 + 1, 0, none⟩) 0 0) v2 v3 [] l2 l3 := h.lit1 _ (by simp)
theorem PF.app1 {b n c : Nat} {u : Value} {m : List Int} (h : PF w g r cs W (.slice (some ⟨b, 0, none⟩) n c) v2 v3 l1 l2 l3) (hR : (Kd.int .i64).R 2 W1 w.heap.size (fun _ => True) u m) (hB : Below w.heap.size w W1) (hg : W.grownBy W1 (Value.slice (some ⟨b, 0, none⟩) n c).ownBlock) : PF w g r cs W1 u v2 v3 m l2 l3 := by
  obtain ⟨cells, hc⟩ := Kd.R_typed h.r1 b rfl
  have hg' : W.grownBy W1 (some b) := hg
  refine ⟨hB, blk_grown h.box hg' (fun e => ?_), blk_grown h.res hg' (fun e => ?_), hR, Kd.R_grown1 h.r2 rfl hg (Kd.R_ne h.r2 hc (by decide)), Kd.R_grown1 h.r3 rfl hg (Kd.R_ne h.r3 hc (by decide))⟩
  · injection e with e
    have h1 := h.box
    rw [e, hc] at h1
    injection h1 with h1
    injection h1 with _ h1
    exact absurd h1 (by decide)
  · injection e with e
    have h1 := h.res
    rw [e, hc] at h1
    injection h1 with h1
    injection h1 with _ h1
    exact absurd h1 (by decide)
theorem PF.lit2 (h : PF w g r cs W v1 v2 v3 l1 l2 l3) (b : Nat) (hb : b = W.heap.size) : PF w g r cs (W.alloc (.cells #[] 9)) v1 (.slice (some ⟨b, 0, none⟩) 0 0) v3 l1 [] l3 := by
  subst hb
  have h' := h.alloc (.cells #[] 9)
  exact { h' with r2 := R_empty _ _ _ _ h.below.size }
theorem PF.lit2a (h : PF w g r cs W v1 v2 v3 l1 l2 l3) : PF w g r cs (W.alloc (.cells #[] 9)) v1 (.slice (some ⟨W.heap.size, 0, none⟩) 0 0) v3 l1 [] l3 := h.lit2 _ rfl
theorem PF.lit2b {o : Obj} (h : PF w g r cs (W.alloc o) v1 v2 v3 l1 l2 l3) : PF w g r cs ((W.alloc o).alloc (.cells #[] 9)) v1 (.slice (some ⟨W.heap.size + 1, 0, none⟩) 0 0) v3 l1 [] l3 := h.lit2 _ (by simp)
theorem PF.lit2c {o o' : Obj} (h : PF w g r cs ((W.alloc o).alloc o') v1 v2 v3 l1 l2 l3) : PF w g r cs (((W.alloc o).alloc o').alloc (.cells #[] 9)) v1 (.slice (some ⟨W.heap.size + 1 + 1, 0, none⟩) 0 0) v3 l1 [] l3 := h.lit2 _ (by simp)
theorem PF.app2 {b n c : Nat} {u : Value} {m : List ByteArray} (h : PF w g r cs W v1 (.slice (some ⟨b, 0, none⟩) n c) v3 l1 l2 l3) (hR : Kd.string.R 9 W1 w.heap.size (fun _ => True) u m) (hB : Below w.heap.size w W1) (hg : W.grownBy W1 (Value.slice (some ⟨b, 0, none⟩) n c).ownBlock) : PF w g r cs W1 v1 u v3 l1 m l3 := by
  obtain ⟨cells, hc⟩ := Kd.R_typed h.r2 b rfl
  have hg' : W.grownBy W1 (some b) := hg
  refine ⟨hB, blk_grown h.box hg' (fun e => ?_), blk_grown h.res hg' (fun e => ?_), Kd.R_grown1 h.r1 rfl hg (Kd.R_ne h.r1 hc (by decide)), hR, Kd.R_grown1 h.r3 rfl hg (Kd.R_ne h.r3 hc (by decide))⟩
  · injection e with e
    have h1 := h.box
    rw [e, hc] at h1
    injection h1 with h1
    injection h1 with _ h1
    exact absurd h1 (by decide)
  · injection e with e
    have h1 := h.res
    rw [e, hc] at h1
    injection h1 with h1
    injection h1 with _ h1
    exact absurd h1 (by decide)
theorem PF.lit3 (h : PF w g r cs W v1 v2 v3 l1 l2 l3) (b : Nat) (hb : b = W.heap.size) : PF w g r cs (W.alloc (.cells #[] 3)) v1 v2 (.slice (some ⟨b, 0, none⟩) 0 0) l1 l2 [] := by
  subst hb
  have h' := h.alloc (.cells #[] 3)
  exact { h' with r3 := R_empty _ _ _ _ h.below.size }
theorem PF.lit3a (h : PF w g r cs W v1 v2 v3 l1 l2 l3) : PF w g r cs (W.alloc (.cells #[] 3)) v1 v2 (.slice (some ⟨W.heap.size, 0, none⟩) 0 0) l1 l2 [] := h.lit3 _ rfl
theorem PF.lit3b {o : Obj} (h : PF w g r cs (W.alloc o) v1 v2 v3 l1 l2 l3) : PF w g r cs ((W.alloc o).alloc (.cells #[] 3)) v1 v2 (.slice (some ⟨W.heap.size + 1, 0, none⟩) 0 0) l1 l2 [] := h.lit3 _ (by simp)
theorem PF.lit3c {o o' : Obj} (h : PF w g r cs ((W.alloc o).alloc o') v1 v2 v3 l1 l2 l3) : PF w g r cs (((W.alloc o).alloc o').alloc (.cells #[] 3)) v1 v2 (.slice (some ⟨W.heap.size + 1 + 1, 0, none⟩) 0 0) l1 l2 [] := h.lit3 _ (by simp)
theorem PF.app3 {b n c : Nat} {u : Value} {m : List Int} (h : PF w g r cs W v1 v2 (.slice (some ⟨b, 0, none⟩) n c) l1 l2 l3) (hR : (Kd.int .i64).R 3 W1 w.heap.size (fun _ => True) u m) (hB : Below w.heap.size w W1) (hg : W.grownBy W1 (Value.slice (some ⟨b, 0, none⟩) n c).ownBlock) : PF w g r cs W1 v1 v2 u l1 l2 m := by
  obtain ⟨cells, hc⟩ := Kd.R_typed h.r3 b rfl
  have hg' : W.grownBy W1 (some b) := hg
  refine ⟨hB, blk_grown h.box hg' (fun e => ?_), blk_grown h.res hg' (fun e => ?_), Kd.R_grown1 h.r1 rfl hg (Kd.R_ne h.r1 hc (by decide)), Kd.R_grown1 h.r2 rfl hg (Kd.R_ne h.r2 hc (by decide)), hR⟩
  · injection e with e
    have h1 := h.box
    rw [e, hc] at h1
    injection h1 with h1
    injection h1 with _ h1
    exact absurd h1 (by decide)
  · injection e with e
    have h1 := h.res
    rw [e, hc] at h1
    injection h1 with h1
    injection h1 with _ h1
    exact absurd h1 (by decide)
theorem PF.step1 {ops : Array Oper} {o : Oper} {a : Act} {Q : Exit → Act → World → Prop} {Kc : Act → World → Prop} {b : Nat} {A : Option Addr} {c : Nat} {l : List Int} (s x : Operand) (h : PF w g r cs W (.slice (some ⟨b, 0, none⟩) 0 0) v2 v3 [] l2 l3) (hw : Region.wanted o (yielded ops a.tmps) = true)
    (ho : o.op = .call { callee := .builtin .append, args := #[s, x], argTypes := #[49, 49] }) (hs : a.eval s = .slice (some ⟨b, 0, none⟩) 0 0) (hx : a.eval x = .slice A l.length c) (hC : (Kd.int .i64).C w A l.length l) (hl : l.length ≤ 1000000)
    (hK : ∀ B d W1, PF w g r cs W1 (.slice B l.length d) v2 v3 l l2 l3 → Kc (a.put o.dst (.slice B l.length d)) W1) : if Region.wanted o (yielded ops a.tmps) = true then Oper.wp Tryd.prog o a W Kc Q else Kc (a.put o.dst undef) W := by
  refine Kd.R_append_rows_step (Kd.int .i64) (Rr := fun x cs => cs = [.int .i64 x]) (w0 := w) w.heap.size hw s x 49 2 (.int .i64 0) 8 ho Tryd.underlying49 info_i64 rfl (by decide) (by omega) _ [] l A l.length c (fun _ => True) (fun _ => False) hs hx h.r1 (Kd.C_below hC h.below) (fun _ _ h => h) (fun _ h => h.elim) (fun _ _ => trivial) h.below h.below.size (by simp; omega) ?_
  intro u W1 hR hB hg _
  obtain ⟨B, d, rfl⟩ := Kd.R_slice hR
  exact hK B d W1 (h.app1 hR hB hg)
theorem PF.step2 {ops : Array Oper} {o : Oper} {a : Act} {Q : Exit → Act → World → Prop} {Kc : Act → World → Prop} {b : Nat} {A : Option Addr} {c : Nat} {l : List ByteArray} (s x : Operand) (h : PF w g r cs W v1 (.slice (some ⟨b, 0, none⟩) 0 0) v3 l1 [] l3) (hw : Region.wanted o (yielded ops a.tmps) = true)
    (ho : o.op = .call { callee := .builtin .append, args := #[s, x], argTypes := #[50, 50] }) (hs : a.eval s = .slice (some ⟨b, 0, none⟩) 0 0) (hx : a.eval x = .slice A l.length c) (hC : Kd.string.C w A l.length l) (hl : l.length ≤ 1000000)
    (hK : ∀ B d W1, PF w g r cs W1 v1 (.slice B l.length d) v3 l1 l l3 → Kc (a.put o.dst (.slice B l.length d)) W1) : if Region.wanted o (yielded ops a.tmps) = true then Oper.wp Tryd.prog o a W Kc Q else Kc (a.put o.dst undef) W := by
  refine Kd.R_append_rows_step Kd.string (Rr := fun x cs => cs = [.string x]) (w0 := w) w.heap.size hw s x 50 9 (.string ByteArray.empty) 16 ho Tryd.underlying50 info_str rfl (by decide) (by omega) _ [] l A l.length c (fun _ => True) (fun _ => False) hs hx h.r2 (Kd.C_below hC h.below) (fun _ _ h => h) (fun _ h => h.elim) (fun _ _ => trivial) h.below h.below.size (by simp; omega) ?_
  intro u W1 hR hB hg _
  obtain ⟨B, d, rfl⟩ := Kd.R_slice hR
  exact hK B d W1 (h.app2 hR hB hg)
theorem PF.step3 {ops : Array Oper} {o : Oper} {a : Act} {Q : Exit → Act → World → Prop} {Kc : Act → World → Prop} {b : Nat} {A : Option Addr} {c : Nat} {l : List Int} (s x : Operand) (h : PF w g r cs W v1 v2 (.slice (some ⟨b, 0, none⟩) 0 0) l1 l2 []) (hw : Region.wanted o (yielded ops a.tmps) = true)
    (ho : o.op = .call { callee := .builtin .append, args := #[s, x], argTypes := #[31, 31] }) (hs : a.eval s = .slice (some ⟨b, 0, none⟩) 0 0) (hx : a.eval x = .slice A l.length c) (hC : (Kd.int .i64).C w A l.length l) (hl : l.length ≤ 1000000)
    (hK : ∀ B d W1, PF w g r cs W1 v1 v2 (.slice B l.length d) l1 l2 l → Kc (a.put o.dst (.slice B l.length d)) W1) : if Region.wanted o (yielded ops a.tmps) = true then Oper.wp Tryd.prog o a W Kc Q else Kc (a.put o.dst undef) W := by
  refine Kd.R_append_rows_step (Kd.int .i64) (Rr := fun x cs => cs = [.int .i64 x]) (w0 := w) w.heap.size hw s x 31 3 (.int .i64 0) 8 ho Tryd.underlying31 info_int rfl (by decide) (by omega) _ [] l A l.length c (fun _ => True) (fun _ => False) hs hx h.r3 (Kd.C_below hC h.below) (fun _ _ h => h) (fun _ h => h.elim) (fun _ _ => trivial) h.below h.below.size (by simp; omega) ?_
  intro u W1 hR hB hg _
  obtain ⟨B, d, rfl⟩ := Kd.R_slice hR
  exact hK B d W1 (h.app3 hR hB hg)
theorem PF.done {n : Node} (h : PF w g r cs W v1 v2 v3 n.ints n.texts n.kids) (hr : w.heap.size ≤ r) :
    kNode.M ((((W.setCell ⟨r, 0, none⟩ (.int .i64 n.kind)).setCell ⟨r, 1, none⟩ v1).setCell ⟨r, 2, none⟩ v2).setCell ⟨r, 3, none⟩ v3) w.heap.size (fun _ => True) n [.int .i64 n.kind, v1, v2, v3] ∧
    Below w.heap.size w ((((W.setCell ⟨r, 0, none⟩ (.int .i64 n.kind)).setCell ⟨r, 1, none⟩ v1).setCell ⟨r, 2, none⟩ v2).setCell ⟨r, 3, none⟩ v3) := by
  have hb0 := h.res
  have hb1 := blk_set hb0 0 (.int .i64 n.kind)
  have hb2 := blk_set hb1 1 v1
  have hb3 := blk_set hb2 2 v2
  refine ⟨kNode_mkM ?_ ?_ ?_, below_set4 h.below hr⟩
  · exact Kd.R_set (Kd.R_set (Kd.R_set (Kd.R_set h.r1 hb0 (by decide) _ _) hb1 (by decide) _ _) hb2 (by decide) _ _) hb3 (by decide) _ _
  · exact Kd.R_set (Kd.R_set (Kd.R_set (Kd.R_set h.r2 hb0 (by decide) _ _) hb1 (by decide) _ _) hb2 (by decide) _ _) hb3 (by decide) _ _
  · exact Kd.R_set (Kd.R_set (Kd.R_set (Kd.R_set h.r3 hb0 (by decide) _ _) hb1 (by decide) _ _) hb2 (by decide) _ _) hb3 (by decide) _ _
end
set_option maxRecDepth 100000 in
set_option maxHeartbeats 4000000 in
theorem rcopy_any (n : Node) (A1 : Option Addr) (c1 : Nat) (A2 : Option Addr) (c2 : Nat) (A3 : Option Addr) (c3 : Nat) (w : World) (h : NodeC w n A1 c1 A2 c2 A3 c3) (hs : Small n) :
    Calls Tryd.prog 39 #[.agg #[.int .i64 n.kind, .slice A1 n.ints.length c1, .slice A2 n.texts.length c2, .slice A3 n.kids.length c3]] w (CopyPost n w) := by
  have HN := Aside0.mk h
  have HS := Aside0.mk hs
  have HP : Aside0 (PF w w.heap.size (w.heap.size + 1) #[.int .i64 n.kind, .slice A1 n.ints.length c1, .slice A2 n.texts.length c2, .slice A3 n.kids.length c3] ((w.alloc (.cells #[.int .i64 n.kind, .slice A1 n.ints.length c1, .slice A2 n.texts.length c2, .slice A3 n.kids.length c3] 52)).alloc (.cells #[.int .i64 0, .slice none 0 0, .slice none 0 0, .slice none 0 0] 52)) (.slice none 0 0) (.slice none 0 0) (.slice none 0 0) [] [] []) := ⟨by
    have b1 := below_alloc (Below.refl w.heap.size w) (.cells #[.int .i64 n.kind, .slice A1 n.ints.length c1, .slice A2 n.texts.length c2, .slice A3 n.kids.length c3] 52)
    have n1 := heap_alloc_new w (.cells #[.int .i64 n.kind, .slice A1 n.ints.length c1, .slice A2 n.texts.length c2, .slice A3 n.kids.length c3] 52)
    generalize hw1 : w.alloc (.cells #[.int .i64 n.kind, .slice A1 n.ints.length c1, .slice A2 n.texts.length c2, .slice A3 n.kids.length c3] 52) = W1 at b1 n1 ⊢
    have s1 : W1.heap.size = w.heap.size + 1 := by rw [← hw1]; simp
    have b2 := below_alloc (Below.refl W1.heap.size W1) (.cells #[.int .i64 0, .slice none 0 0, .slice none 0 0, .slice none 0 0] 52)
    have n2 := heap_alloc_new W1 (.cells #[.int .i64 0, .slice none 0 0, .slice none 0 0, .slice none 0 0] 52)
    rw [s1] at n2
    exact ⟨below_step b1 b2, (b2.block _ (by omega)).trans n1, n2, Kd.R_nil _ _ _ _ _, Kd.R_nil _ _ _ _ _, Kd.R_nil _ _ _ _ _⟩⟩
  have hu := Tryd.underlying52
  clear h hs
  have hL0 := fun (W : World) (h : Lives 4 (w.heap.size + 1) W) => h.at 0 (by omega)
  have hL1 := fun (W : World) (h : Lives 4 (w.heap.size + 1) W) => h.at 1 (by omega)
  have hL2 := fun (W : World) (h : Lives 4 (w.heap.size + 1) W) => h.at 2 (by omega)
  have hL3 := fun (W : World) (h : Lives 4 (w.heap.size + 1) W) => h.at 3 (by omega)
  go_enter Tryd.func39, Tryd.ntmps39
  go_wp2_with fail
  generalize (w.alloc (.cells #[.int .i64 n.kind, .slice A1 n.ints.length c1, .slice A2 n.texts.length c2, .slice A3 n.kids.length c3] 52)).alloc (.cells #[.int .i64 0, .slice none 0 0, .slice none 0 0, .slice none 0 0] 52) = W0 at HP ⊢
  go_region_held3 (fun W => W.cell? ⟨w.heap.size, 0, none⟩ = some (.int .i64 n.kind) ∧ W.cell? ⟨w.heap.size, 1, none⟩ = some (.slice A1 n.ints.length c1) ∧ W.cell? ⟨w.heap.size, 2, none⟩ = some (.slice A2 n.texts.length c2) ∧ W.cell? ⟨w.heap.size, 3, none⟩ = some (.slice A3 n.kids.length c3) ∧ Lives 4 (w.heap.size + 1) W)
    (first
      | (go_split_ands
         refine ⟨?_, ?_, ?_, ?_, ?_⟩
         all_goals first
           | with_reducible exact HP.out.cell _ rfl
           | with_reducible exact HP.out.lives
           | with_reducible exact HP.out.drew.cell _ rfl
           | with_reducible exact HP.out.drew.lives
           | with_reducible exact (HP.out.alloc _).cell _ rfl
           | with_reducible exact (HP.out.alloc _).lives
           | with_reducible exact (HP.out.alloc _).drew.cell _ rfl
           | with_reducible exact (HP.out.alloc _).drew.lives
           | with_reducible exact ((HP.out.alloc _).alloc _).cell _ rfl
           | with_reducible exact ((HP.out.alloc _).alloc _).lives
           | with_reducible exact ((HP.out.alloc _).alloc _).drew.cell _ rfl
           | with_reducible exact ((HP.out.alloc _).alloc _).drew.lives
           | with_reducible exact (((HP.out.alloc _).alloc _).alloc _).cell _ rfl
           | with_reducible exact (((HP.out.alloc _).alloc _).alloc _).lives
           | with_reducible exact (((HP.out.alloc _).alloc _).alloc _).drew.cell _ rfl
           | with_reducible exact (((HP.out.alloc _).alloc _).alloc _).drew.lives
           | with_reducible exact far_set (far_set (far_set (far_set (by assumption) _ _ (by simp) _) _ _ (by simp) _) _ _ (by simp) _) _ _ (by simp) _
           | with_reducible exact Lives.set (Lives.set (Lives.set (Lives.set (by assumption) _ _) _ _) _ _) _ _
           | (simp; done)))
    (first
      | (refine' PF.step1 (.tmp 5) (.tmp 7) ?hP ?hw ?ho ?hs ?hx HN.out.i HS.out.1 ?_; (case hw => rfl); (case ho => rfl); (case hs => rfl); (case hx => rfl); (case hP => first | with_reducible exact HP.out | with_reducible exact (HP.out).drew | with_reducible exact HP.out.lit1a | with_reducible exact (HP.out.lit1a).drew | with_reducible exact HP.out.lit2a | with_reducible exact (HP.out.lit2a).drew | with_reducible exact HP.out.lit3a | with_reducible exact (HP.out.lit3a).drew | with_reducible exact HP.out.lit1a.lit2b | with_reducible exact (HP.out.lit1a.lit2b).drew | with_reducible exact HP.out.lit1a.lit3b | with_reducible exact (HP.out.lit1a.lit3b).drew | with_reducible exact HP.out.lit2a.lit1b | with_reducible exact (HP.out.lit2a.lit1b).drew | with_reducible exact HP.out.lit2a.lit3b | with_reducible exact (HP.out.lit2a.lit3b).drew | with_reducible exact HP.out.lit3a.lit1b | with_reducible exact (HP.out.lit3a.lit1b).drew | with_reducible exact HP.out.lit3a.lit2b | with_reducible exact (HP.out.lit3a.lit2b).drew | with_reducible exact HP.out.lit1a.lit2b.lit3c | with_reducible exact (HP.out.lit1a.lit2b.lit3c).drew | with_reducible exact HP.out.lit1a.lit3b.lit2c | with_reducible exact (HP.out.lit1a.lit3b.lit2c).drew | with_reducible exact HP.out.lit2a.lit1b.lit3c | with_reducible exact (HP.out.lit2a.lit1b.lit3c).drew | with_reducible exact HP.out.lit2a.lit3b.lit1c | with_reducible exact (HP.out.lit2a.lit3b.lit1c).drew | with_reducible exact HP.out.lit3a.lit1b.lit2c | with_reducible exact (HP.out.lit3a.lit1b.lit2c).drew | with_reducible exact HP.out.lit3a.lit2b.lit1c | with_reducible exact (HP.out.lit3a.lit2b.lit1c).drew); intro B1 d1 w1 hP; replace HP := Aside0.mk hP; clear hP)
      | (refine' PF.step2 (.tmp 9) (.tmp 11) ?hP ?hw ?ho ?hs ?hx HN.out.t HS.out.2.1 ?_; (case hw => rfl); (case ho => rfl); (case hs => rfl); (case hx => rfl); (case hP => first | with_reducible exact HP.out | with_reducible exact (HP.out).drew | with_reducible exact HP.out.lit1a | with_reducible exact (HP.out.lit1a).drew | with_reducible exact HP.out.lit2a | with_reducible exact (HP.out.lit2a).drew | with_reducible exact HP.out.lit3a | with_reducible exact (HP.out.lit3a).drew | with_reducible exact HP.out.lit1a.lit2b | with_reducible exact (HP.out.lit1a.lit2b).drew | with_reducible exact HP.out.lit1a.lit3b | with_reducible exact (HP.out.lit1a.lit3b).drew | with_reducible exact HP.out.lit2a.lit1b | with_reducible exact (HP.out.lit2a.lit1b).drew | with_reducible exact HP.out.lit2a.lit3b | with_reducible exact (HP.out.lit2a.lit3b).drew | with_reducible exact HP.out.lit3a.lit1b | with_reducible exact (HP.out.lit3a.lit1b).drew | with_reducible exact HP.out.lit3a.lit2b | with_reducible exact (HP.out.lit3a.lit2b).drew | with_reducible exact HP.out.lit1a.lit2b.lit3c | with_reducible exact (HP.out.lit1a.lit2b.lit3c).drew | with_reducible exact HP.out.lit1a.lit3b.lit2c | with_reducible exact (HP.out.lit1a.lit3b.lit2c).drew | with_reducible exact HP.out.lit2a.lit1b.lit3c | with_reducible exact (HP.out.lit2a.lit1b.lit3c).drew | with_reducible exact HP.out.lit2a.lit3b.lit1c | with_reducible exact (HP.out.lit2a.lit3b.lit1c).drew | with_reducible exact HP.out.lit3a.lit1b.lit2c | with_reducible exact (HP.out.lit3a.lit1b.lit2c).drew | with_reducible exact HP.out.lit3a.lit2b.lit1c | with_reducible exact (HP.out.lit3a.lit2b.lit1c).drew); intro B2 d2 w2 hP; replace HP := Aside0.mk hP; clear hP)
      | (refine' PF.step3 (.tmp 13) (.tmp 15) ?hP ?hw ?ho ?hs ?hx HN.out.k HS.out.2.2 ?_; (case hw => rfl); (case ho => rfl); (case hs => rfl); (case hx => rfl); (case hP => first | with_reducible exact HP.out | with_reducible exact (HP.out).drew | with_reducible exact HP.out.lit1a | with_reducible exact (HP.out.lit1a).drew | with_reducible exact HP.out.lit2a | with_reducible exact (HP.out.lit2a).drew | with_reducible exact HP.out.lit3a | with_reducible exact (HP.out.lit3a).drew | with_reducible exact HP.out.lit1a.lit2b | with_reducible exact (HP.out.lit1a.lit2b).drew | with_reducible exact HP.out.lit1a.lit3b | with_reducible exact (HP.out.lit1a.lit3b).drew | with_reducible exact HP.out.lit2a.lit1b | with_reducible exact (HP.out.lit2a.lit1b).drew | with_reducible exact HP.out.lit2a.lit3b | with_reducible exact (HP.out.lit2a.lit3b).drew | with_reducible exact HP.out.lit3a.lit1b | with_reducible exact (HP.out.lit3a.lit1b).drew | with_reducible exact HP.out.lit3a.lit2b | with_reducible exact (HP.out.lit3a.lit2b).drew | with_reducible exact HP.out.lit1a.lit2b.lit3c | with_reducible exact (HP.out.lit1a.lit2b.lit3c).drew | with_reducible exact HP.out.lit1a.lit3b.lit2c | with_reducible exact (HP.out.lit1a.lit3b.lit2c).drew | with_reducible exact HP.out.lit2a.lit1b.lit3c | with_reducible exact (HP.out.lit2a.lit1b.lit3c).drew | with_reducible exact HP.out.lit2a.lit3b.lit1c | with_reducible exact (HP.out.lit2a.lit3b.lit1c).drew | with_reducible exact HP.out.lit3a.lit1b.lit2c | with_reducible exact (HP.out.lit3a.lit1b.lit2c).drew | with_reducible exact HP.out.lit3a.lit2b.lit1c | with_reducible exact (HP.out.lit3a.lit2b.lit1c).drew); intro B3 d3 w3 hP; replace HP := Aside0.mk hP; clear hP))
  all_goals
    clear hL0 hL1 hL2 hL3
    go_wp2
    have h4 := HP.out.lives.set4 (.int .i64 n.kind) (.slice B1 n.ints.length d1) (.slice B2 n.texts.length d2) (.slice B3 n.kids.length d3)
    obtain ⟨hM, hB⟩ := HP.out.done (n := n) (Nat.le_succ _)
    exact bodyPost_ret (v := .agg #[.int .i64 n.kind, .slice B1 n.ints.length d1, .slice B2 n.texts.length d2, .slice B3 n.kids.length d3]) (by simp [results, Tryd.results39, go_sem, h4]) rfl ⟨_, rfl, ⟨_, _, _, rfl, hM⟩, hB⟩
end Go.Proofs.YtdfneldenipljaaDoor.L
end
section
namespace Go.Proofs.YtdfneldenipljaaDoor.L
open Go.RowKit Go.ChangeShapes Go.WideShapes Go.Proofs.YtdfneldenipljaaDoorW.PrintWords Go.Proofs.YtdfneldenipljaaDoorW.PrintLast Go.Proofs.YtdfneldenipljaaDoorW.PrintMore
attribute [local go_sem] max2_int min2_int max_two min_two max_three min_three max_four min_four
def SceneCPost (t : Scene) (w : World) (e : Ending) (w' : World) : Prop := ∃ A c, e = .returned (.agg #[.slice A t.nodes.length c, .int .i64 t.root]) ∧ t.nodes.length ≤ c ∧ kNode.C w' A t.nodes.length t.nodes ∧ Below w.heap.size w w'
set_option maxRecDepth 100000 in
set_option maxHeartbeats 4000000 in
theorem scopy_any (A : Option Addr) (c : Nat) (s : Scene) (w : World) (h : kNode.C w A s.nodes.length s.nodes) (hc : s.nodes.length ≤ c) (hn : s.nodes.length ≤ 1000000) (hs : ∀ i : Nat, i < s.nodes.length → Small (nd s.nodes i)) :
    Calls Tryd.prog 25 #[.agg #[.slice A s.nodes.length c, .int .i64 s.root]] w (SceneCPost s w) := by
  have HR := Aside0.mk h
  have HSm := Aside0.mk hs
  have hu := Tryd.underlying34
  have hun := Tryd.underlying52
  obtain ⟨w1, hw1⟩ : ∃ w1, w1 = (w.alloc (.cells #[.slice A s.nodes.length c, .int .i64 s.root] 34)).alloc (.cells #[.slice none 0 0, .int .i64 0] 34) := ⟨_, rfl⟩
  have b1 := below_alloc (Below.refl w.heap.size w) (.cells #[.slice A s.nodes.length c, .int .i64 s.root] 34)
  have b2 := below_alloc (Below.refl (w.alloc (.cells #[.slice A s.nodes.length c, .int .i64 s.root] 34)).heap.size (w.alloc (.cells #[.slice A s.nodes.length c, .int .i64 s.root] 34))) (.cells #[.slice none 0 0, .int .i64 0] 34)
  have k0 := box_cell2 w _ rfl #[.slice A s.nodes.length c, .int .i64 s.root] 34 (.cells #[.slice none 0 0, .int .i64 0] 34) 0 (.slice A s.nodes.length c) rfl
  have k1 := box_cell2 w _ rfl #[.slice A s.nodes.length c, .int .i64 s.root] 34 (.cells #[.slice none 0 0, .int .i64 0] 34) 1 (.int .i64 s.root) rfl
  have HZ := Aside0.mk (show w1.heap[w.heap.size + 1]? = some (.cells #[.slice none 0 0, .int .i64 0] 34 (0, 0)) from by
    rw [hw1]
    have := heap_alloc_new (w.alloc (.cells #[.slice A s.nodes.length c, .int .i64 s.root] 34)) (.cells #[.slice none 0 0, .int .i64 0] 34)
    simpa using this)
  have HB := Aside0.mk (show Below w.heap.size w w1 from by rw [hw1]; exact below_step b1 b2)
  have HZs := Aside0.mk (show w1.heap.size = w.heap.size + 2 from by rw [hw1]; simp)
  have HK := Aside0.mk (show w1.cell? ⟨w.heap.size, 0, none⟩ = some (.slice A s.nodes.length c) from by rw [hw1]; exact k0)
  have HI := Aside0.mk (CnRel.start w1 s.root)
  clear h hs b1 b2
  go_enter Tryd.func25, Tryd.ntmps25
  go_wp2
  rw [← hw1]
  clear k0 k1 hw1
  rw [show w.heap.size + 1 + 1 = w1.heap.size from by have := HZs.out; omega]
  generalize w1.alloc (.cells #[.slice none 0 0, .int .i64 s.root] 34) = W5 at HI ⊢
  go_loopw [4] (fun v4 W => ∃ i : Nat, i ≤ s.nodes.length ∧ v4 = .int .i64 i ∧ ∃ A4 c4, Aside0 (CnRel w1 s.root (s.nodes.take i) (.slice A4 i c4) W)) (fun v4 _ => s.nodes.length - (intOf v4).toNat)
  case atStart => exact ⟨0, by omega, rfl, none, 0, by rw [List.take_zero]; exact HI⟩
  case round =>
    clear HI
    obtain ⟨i, hi, rfl, A4, c4, HI⟩ := hrel
    have HW := Aside0.mk (below_step HB.out HI.out.below)
    have k0 := pw_cell_below HI.out.below HK.out
    by_cases hlt : i < s.nodes.length
    · obtain ⟨adn, A1, c1, A2, c2, A3, c3, rfl, x0, x1, x2, x3, hN⟩ := at_node HR.out i hlt
      have hTk := Aside0.mk (show s.nodes.take (i + 1) = s.nodes.take i ++ [nd s.nodes i] from by rw [take_succ_getD nodez hlt]; rfl)
      have HSq := Aside0.mk (HSm.out i hlt)
      have HN := Aside0.mk hN
      have HX := Aside0.mk (And.intro x0 (And.intro x1 (And.intro x2 x3)))
      generalize nd s.nodes i = q at HX HN HSq hTk x0 x1 x2 x3
      replace x0 := pw_cell_below HW.out x0
      replace x1 := pw_cell_below HW.out x1
      replace x2 := pw_cell_below HW.out x2
      replace x3 := pw_cell_below HW.out x3
      have o0 : wr.cell? ⟨w1.heap.size, 0, none⟩ = some (.slice A4 i c4) := (blk_cell HI.out.out 0).trans rfl
      have o0d : wr.drew.cell? ⟨w1.heap.size, 0, none⟩ = some (.slice A4 i c4) := o0
      clear hN
      go_wp2
      go_region_law (first
          | (rw [if_pos (by rfl)]; go_simp; go_at_call 39; refine (rcopy_any q A1 c1 A2 c2 A3 c3 wr.drew (HN.out.below (below_drew HW.out)) HSq.out).mono ?_; rintro e w6 ⟨_, rfl, ⟨v1, v2, v3, rfl, hM⟩, hB⟩; obtain ⟨v1', v2', v3', ev, hR1, hR2, hR3⟩ := kNode_openM hM; injection ev with _ ev; injection ev with e1 ev; injection ev with e2 ev; injection ev with e3 _; subst e1 e2 e3; have HI6 := Aside0.mk ((HI.out.drewN 1).later hB); have hs1 := (HI.out.drewN 1).below.size; have HMk := Aside0.mk (node_off (n := q) (Kd.R_lower hR1 hs1) (Kd.R_lower hR2 hs1) (Kd.R_lower hR3 hs1) HI6.out.row); obtain ⟨B1, d1, rfl⟩ := Kd.R_slice hR1; obtain ⟨B2, d2, rfl⟩ := Kd.R_slice hR2; obtain ⟨B3, d3, rfl⟩ := Kd.R_slice hR3; have HB6 := Aside0.mk (below_step HB.out HI6.out.below); have y0 := pw_cell_below HI6.out.below HK.out; have y1 := pw_cell_below HB6.out HX.out.1; have y2 := pw_cell_below HB6.out HX.out.2.1; have y3 := pw_cell_below HB6.out HX.out.2.2.1; have y4 := pw_cell_below HB6.out HX.out.2.2.2; have o1 : w6.cell? ⟨w1.heap.size, 0, none⟩ = some (.slice A4 i c4) := (blk_cell HI6.out.out 0).trans rfl; have o2 := pw_cell_below (below_alloc (Below.refl _ _) (.cells #[.int .i64 q.kind, .slice B1 q.ints.length d1, .slice B2 q.texts.length d2, .slice B3 q.kids.length d3] 52)) o1; clear hM hR1 hR2 hR3 hB hs1; go_simp)
          | (refine Kd.R_append_step kNode (W := w6) (w0 := w1) w1.heap.size (by rfl) (.tmp 16) (.tmp 23) 32 52 (.agg #[.int .i64 0, .slice none 0 0, .slice none 0 0, .slice none 0 0]) 80 rfl Tryd.underlying32 info_nodez rfl (by decide) (by omega) (.slice A4 i c4) (s.nodes.take i) q [.int .i64 q.kind, .slice B1 q.ints.length d1, .slice B2 q.texts.length d2, .slice B3 q.kids.length d3] (fun _ => True) (fun k => some k ≠ (Value.slice A4 i c4).ownBlock) rfl rfl HMk.out (fun k hk => ⟨trivial, hk⟩) (fun _ _ => trivial) HI6.out.row HI6.out.below HI6.out.below.size (by rw [List.length_take]; omega) ?_; intro v5 w8 hR8 hB8 hg8 hat8; rw [← hTk.out] at hR8; obtain ⟨A5, c5, rfl⟩ := Kd.R_slice hR8; have hl8 : (s.nodes.take (i + 1)).length = i + 1 := List.length_take_of_le hlt; rw [hl8] at hR8 ⊢; obtain ⟨hb8, hN8⟩ := HI6.out.put hR8 hB8 hg8; have HN8 := Aside0.mk hN8; have f0 := (blk_cell hb8 0).trans rfl; have f0f := blk_frozen hb8 0; have HB8 := Aside0.mk hB8; have HBn := Aside0.mk (below_step HB.out HB8.out); have z0 := pw_cell_below HB8.out HK.out; have z1 := pw_cell_below HBn.out HX.out.1; have z2 := pw_cell_below HBn.out HX.out.2.1; have z3 := pw_cell_below HBn.out HX.out.2.2.1; have z4 := pw_cell_below HBn.out HX.out.2.2.2; have HBm := Aside0.mk (below_step HB.out HN8.out.below); have t0 := pw_cell_below HN8.out.below HK.out; have t1 := pw_cell_below HBm.out HX.out.1; have t2 := pw_cell_below HBm.out HX.out.2.1; have t3 := pw_cell_below HBm.out HX.out.2.2.1; have t4 := pw_cell_below HBm.out HX.out.2.2.2; clear hR8 hB8 hg8 hat8 hN8 hb8 hl8))
      all_goals
        clear x0 x1 x2 x3 k0 o0 o0d y0 y1 y2 y3 y4 o1 o2 f0 f0f z0 z1 z2 z3 z4 t0 t1 t2 t3 t4
        go_wp2
        go_roundw
        case rel => exact ⟨i + 1, by omega, by go_num, A5, c5, HN8⟩
        case measure => simp [intOf]; omega
    · obtain rfl : i = s.nodes.length := by omega
      have o0 := (blk_cell HI.out.out 0).trans rfl
      have o1 := (blk_cell HI.out.out 1).trans rfl
      have hz := (HI.out.below.block _ (blk_lt HZ.out)).trans HZ.out
      have e0 : wr.cell? ⟨w.heap.size + 1, 0, none⟩ = some (.slice none 0 0) := (blk_cell hz 0).trans rfl
      have e0f := blk_frozen hz 0
      have hz1 := blk_set hz 0 (.slice A4 s.nodes.length c4)
      have e1 : (wr.setCell ⟨w.heap.size + 1, 0, none⟩ (.slice A4 s.nodes.length c4)).cell? ⟨w.heap.size + 1, 1, none⟩ = some (.int .i64 0) := (blk_cell hz1 1).trans rfl
      have e1f := blk_frozen hz1 1
      have hne : w1.heap.size ≠ w.heap.size + 1 := by have := HZs.out; omega
      have HRow := Aside0.mk (R_type (R_type HI.out.row hz (by decide) (.slice A4 s.nodes.length c4) 0) hz1 (by decide) (.int .i64 s.root) 1)
      rw [List.take_length] at HRow
      have hz2 := blk_set hz1 1 (.int .i64 s.root)
      have r0 : ((wr.setCell ⟨w.heap.size + 1, 0, none⟩ (.slice A4 s.nodes.length c4)).setCell ⟨w.heap.size + 1, 1, none⟩ (.int .i64 s.root)).cell? ⟨w.heap.size + 1, 0, none⟩ = some (.slice A4 s.nodes.length c4) := (blk_cell hz2 0).trans rfl
      have r1 : ((wr.setCell ⟨w.heap.size + 1, 0, none⟩ (.slice A4 s.nodes.length c4)).setCell ⟨w.heap.size + 1, 1, none⟩ (.int .i64 s.root)).cell? ⟨w.heap.size + 1, 1, none⟩ = some (.int .i64 s.root) := (blk_cell hz2 1).trans rfl
      clear hz hz1 hz2
      go_wp2
      exact bodyPost_ret (v := .agg #[.slice A4 s.nodes.length c4, .int .i64 s.root]) (by simp [results, Tryd.results25, go_sem, r0, r1]) rfl ⟨A4, c4, rfl, (Kd.R_reads' HRow.out).2.1, (Kd.R_reads' HRow.out).2.2, below_set2 HW.out (Nat.le_succ _)⟩
end Go.Proofs.YtdfneldenipljaaDoor.L
end
section
namespace Go.Proofs.YtdfneldenipljaaDoor.L
open Go.RowKit Go.ChangeShapes Go.WideShapes Go.Proofs.YtdfneldenipljaaDoorW.PrintWords Go.Proofs.YtdfneldenipljaaDoorW.PrintLast Go.Proofs.YtdfneldenipljaaDoorW.PrintMore
attribute [local go_sem] max2_int min2_int max_two min_two max_three min_three max_four min_four
def isPl (n : Nat) (k : Int) : Bool := decide (0 ≤ k ∧ k < (n : Int))
set_option maxRecDepth 100000 in
set_option maxHeartbeats 1000000 in
theorem place_any (A : Option Addr) (c n : Nat) (r k : Int) (w : World) :
    Calls Tryd.prog 43 #[.agg #[.slice A n c, .int .i64 r], .int .i64 k] w fun e w' => e = .returned (.bool (isPl n k)) ∧ Below w.heap.size w w' := by
  have HB := Aside0.mk (below_alloc (Below.refl w.heap.size w) (.cells #[.slice A n c, .int .i64 r] 34))
  have k0 := box_cell w _ rfl #[.slice A n c, .int .i64 r] 34 0 _ rfl
  have hu := Tryd.underlying34
  by_cases h0 : 0 ≤ k
  · by_cases h1 : k < (n : Int)
    · have HE : Aside0 (isPl n k = true) := ⟨decide_eq_true ⟨h0, h1⟩⟩
      have d0 : decide (0 ≤ k) = true := decide_eq_true h0
      have d1 : decide (k < (n : Int)) = true := decide_eq_true h1
      clear h0 h1
      go_enter Tryd.func43, Tryd.ntmps43
      go_wp2
      go_ret
      exact ⟨ret_bool HE.out.symm, HB.out⟩
    · have HE : Aside0 (isPl n k = false) := ⟨decide_eq_false (fun h => h1 h.2)⟩
      have d0 : decide (0 ≤ k) = true := decide_eq_true h0
      have d1 : decide (k < (n : Int)) = false := decide_eq_false h1
      clear h0 h1
      go_enter Tryd.func43, Tryd.ntmps43
      go_wp2
      go_ret
      exact ⟨ret_bool HE.out.symm, HB.out⟩
  · have HE : Aside0 (isPl n k = false) := ⟨decide_eq_false (fun h => h0 h.1)⟩
    have d0 : decide (0 ≤ k) = false := decide_eq_false h0
    clear h0
    go_enter Tryd.func43, Tryd.ntmps43
    go_wp2
    go_ret
    exact ⟨ret_bool HE.out.symm, HB.out⟩
end Go.Proofs.YtdfneldenipljaaDoor.L
end
section
namespace Go.Proofs.YtdfneldenipljaaDoor.L
open Go.RowKit Go.ChangeShapes Go.WideShapes Go.Proofs.YtdfneldenipljaaDoorW.PrintWords Go.Proofs.YtdfneldenipljaaDoorW.PrintLast Go.Proofs.YtdfneldenipljaaDoorW.PrintMore
attribute [local go_sem] max2_int min2_int max_two min_two max_three min_three max_four min_four
theorem isPl_no {n : Nat} {k : Int} : isPl n k = !noPlace n k := by
  unfold isPl noPlace
  by_cases h0 : 0 ≤ k
  · by_cases h1 : k < (n : Int)
    · rw [decide_eq_true (And.intro h0 h1), decide_eq_false (by omega : ¬ k < 0), decide_eq_false (by omega : ¬ (n : Int) ≤ k)]; rfl
    · rw [decide_eq_false (fun h => h1 h.2), decide_eq_false (by omega : ¬ k < 0), decide_eq_true (by omega : (n : Int) ≤ k)]; rfl
  · rw [decide_eq_false (fun h => h0 h.1), decide_eq_true (by omega : k < 0)]; rfl
set_option maxRecDepth 100000 in
set_option maxHeartbeats 4000000 in
theorem rrefs_any (A : Option Addr) (c : Nat) (s : Scene) (w : World) (h : kNode.C w A s.nodes.length s.nodes) :
    Calls Tryd.prog 44 #[.agg #[.slice A s.nodes.length c, .int .i64 s.root]] w fun e w' => e = .returned (.int .i64 (refsAt s.nodes)) ∧ Below w.heap.size w w' := by
  have HR := Aside0.mk h
  have b0 := h.2.1
  have HB := Aside0.mk (below_alloc (Below.refl w.heap.size w) (.cells #[.slice A s.nodes.length c, .int .i64 s.root] 34))
  have k0 := box_cell w _ rfl #[.slice A s.nodes.length c, .int .i64 s.root] 34 0 _ rfl
  have k1 := box_cell w _ rfl #[.slice A s.nodes.length c, .int .i64 s.root] 34 1 _ rfl
  have HK := Aside0.mk (And.intro HB.out (And.intro k0 k1))
  have hu := Tryd.underlying34
  have hun := Tryd.underlying52
  clear h
  go_enter Tryd.func44, Tryd.ntmps44
  go_wp2
  clear k0 k1
  go_loopw [3] (fun v3 W => ∃ i : Nat, i ≤ s.nodes.length ∧ v3 = .int .i64 i ∧ Aside0 (∀ j, j < i → kidsBad s.nodes.length (nd s.nodes j).kids = false) ∧ Aside0 (Below w.heap.size w W ∧ W.cell? ⟨w.heap.size, 0, none⟩ = some (.slice A s.nodes.length c) ∧ W.cell? ⟨w.heap.size, 1, none⟩ = some (.int .i64 s.root))) (fun v3 _ => s.nodes.length - (intOf v3).toNat)
  case atStart => exact ⟨0, by omega, rfl, ⟨fun j h => by omega⟩, HK⟩
  case round =>
    clear HK
    obtain ⟨i, hi, rfl, HJ, HK⟩ := hrel
    have k0 := HK.out.2.1
    by_cases hlt : i < s.nodes.length
    · obtain ⟨adn, A1, c1, A2, c2, A3, c3, rfl, y0, y1, y2, y3, hN⟩ := at_node HR.out i hlt
      have HN := Aside0.mk hN.k
      have HY := Aside0.mk y3
      have b3 := hN.k.2.1
      clear hN y0 y1 y2 y3
      go_wp2
      go_loopw [4] (fun v4 W => ∃ j : Nat, j ≤ (nd s.nodes i).kids.length ∧ v4 = .int .i64 j ∧ Aside0 (∀ q, q < j → noPlace s.nodes.length (rd (nd s.nodes i).kids (q : Int)) = false) ∧ Aside0 (Below w.heap.size w W ∧ W.cell? ⟨w.heap.size, 0, none⟩ = some (.slice (some adn) s.nodes.length c) ∧ W.cell? ⟨w.heap.size, 1, none⟩ = some (.int .i64 s.root))) (fun v4 _ => (nd s.nodes i).kids.length - (intOf v4).toNat)
      case atStart => exact ⟨0, by omega, rfl, ⟨fun j h => by omega⟩, HK⟩
      case round =>
        clear HK k0
        obtain ⟨j, hj, rfl, HQ, HK⟩ := hrel
        have k0 := HK.out.2.1
        have k1 := HK.out.2.2
        have x3 := pw_cell_below HK.out.1 HY.out
        by_cases hjl : j < (nd s.nodes i).kids.length
        · obtain ⟨adk, rfl, xk⟩ := at_nat (Kd.C_below HN.out HK.out.1) j hjl
          go_wp2
          go_region_held3 (fun W => W.cell? ⟨w.heap.size, 0, none⟩ = some (.slice (some adn) s.nodes.length c) ∧ W.cell? ⟨w.heap.size, 1, none⟩ = some (.int .i64 s.root) ∧ W.cell? ⟨(adn.add (i * 4)).block, (adn.add (i * 4)).off + 3, none⟩ = some (.slice (some adk) (nd s.nodes i).kids.length c3) ∧ W.cell? (adk.add j) = some (.int .i64 (rd (nd s.nodes i).kids (j : Int))))
            (first
              | (go_split_ands
                 refine ⟨?_, ?_, ?_, ?_⟩
                 all_goals first
                   | with_reducible assumption
                   | with_reducible exact pw_cell_below hB (by assumption)
                   | (simp [*]; done)))
            (first
              | (go_at_call 43; refine (place_any (some adn) c s.nodes.length s.root (rd (nd s.nodes i).kids (j : Int)) _).mono ?_; rintro e w2 ⟨rfl, hB2⟩; have hB := hB2))
          have HK2 := Aside0.mk (And.intro (below_step (below_drew HK.out.1) hB2) (And.intro (pw_cell_below hB2 (show wr.drew.cell? _ = _ from k0)) (pw_cell_below hB2 (show wr.drew.cell? _ = _ from k1))))
          rw [isPl_no]
          clear k0 k1 x3 xk
          cases hp : noPlace s.nodes.length (rd (nd s.nodes i).kids (j : Int)) with
          | true =>
            have HE : Aside0 (refsAt s.nodes = (i : Int)) := ⟨by unfold refsAt; rw [refsFrom_at s.nodes 0 i hlt HJ.out (kidsBad_at hjl hp)]; simp⟩
            clear hp
            go_wp2
            go_ret
            exact ⟨ret_int HE.out.symm, HK2.out.1⟩
          | false =>
            have HQ2 := Aside0.mk (ext_lt HQ.out hp)
            clear hp
            go_wp2
            go_roundw
            case rel => exact ⟨j + 1, by omega, by go_num, HQ2, HK2⟩
            case measure => simp [intOf]; omega
        · obtain rfl : j = (nd s.nodes i).kids.length := by omega
          have HJ2 := Aside0.mk (ext_lt HJ.out (kidsBad_no (Nat.le_refl _) HQ.out))
          go_wp2
          go_roundw
          case rel => exact ⟨i + 1, by omega, by go_num, HJ2, HK⟩
          case measure => simp [intOf]; omega
    · obtain rfl : i = s.nodes.length := by omega
      have HE : Aside0 (refsAt s.nodes = -1) := ⟨refsFrom_no s.nodes 0 HJ.out⟩
      go_wp2
      go_ret
      exact ⟨ret_int HE.out.symm, HK.out.1⟩
end Go.Proofs.YtdfneldenipljaaDoor.L
end
section
-- PRINTED BY print.sh 35421559b90ae4d0a3588c463048766b98c2df88dd9212a6774a882060cdf62d: not written by this session
namespace Go.Proofs.YtdfneldenipljaaDoor.PClassNumbers
open Go.RowKit Go.Proofs.YtdfneldenipljaaDoorW.PrintWords Go.Proofs.YtdfneldenipljaaDoorW.PrintLast Go.Proofs.YtdfneldenipljaaDoorW.PrintMore
attribute [local go_sem] max2_int min2_int max_two min_two max_three min_three max_four min_four   -- for this text's walks alone
set_option linter.unusedVariables false
set_option linter.unusedSimpArgs false
def errW : Option Int → Value
  | none => .nilIface
  | some c => .iface 0 (.int .i64 c)
theorem errW_none : errW none = .nilIface := rfl
theorem errW_some (c : Int) : errW (some c) = .iface 0 (.int .i64 c) := rfl

theorem info3 : (Tryd.prog.info? 3).map (fun i => (i.zero, i.size, i.bytes)) = some (some (.int .i64 0), 1, 8) := by kernel_rfl
theorem info4 : (Tryd.prog.info? 4).map (fun i => (i.zero, i.size, i.bytes)) = some (some (.bool false), 1, 1) := by kernel_rfl
structure S52 where
  f0 : Int
  f1 : (List Int)
  f2 : (List ByteArray)
  f3 : (List Int)
def z52 : S52 := ⟨(0 : Int), ([] : List Int), ([] : List ByteArray), ([] : List Int)⟩
def k52 : Kd S52 := Kd.iso (Kd.pair (Kd.int .i64) (Kd.pair (Kd.slice 2 (Kd.int .i64)) (Kd.pair (Kd.slice 9 Kd.string) (Kd.slice 3 (Kd.int .i64))))) (fun x : S52 => (x.f0, x.f1, x.f2, x.f3))
theorem k52_open {w : World} {x : S52} {cs : List Value} (h : k52.K w x cs) : ∃ A1 c1 A2 c2 A3 c3, cs = [.int .i64 x.f0, .slice A1 x.f1.length c1, .slice A2 x.f2.length c2, .slice A3 x.f3.length c3] ∧ x.f1.length ≤ c1 ∧ (Kd.int .i64).C w A1 x.f1.length x.f1 ∧ x.f2.length ≤ c2 ∧ Kd.string.C w A2 x.f2.length x.f2 ∧ x.f3.length ≤ c3 ∧ (Kd.int .i64).C w A3 x.f3.length x.f3 := by
  obtain ⟨_, _, rfl, rfl, ⟨_, _, rfl, ⟨A1, c1, rfl, l1, g1⟩, ⟨_, _, rfl, ⟨A2, c2, rfl, l2, g2⟩, ⟨A3, c3, rfl, l3, g3⟩⟩⟩⟩ := h
  exact ⟨A1, c1, A2, c2, A3, c3, rfl, l1, g1, l2, g2, l3, g3⟩
def rd_T52 (xs : List S52) (i : Int) : S52 := xs.getD i.toNat z52
theorem at_T52 {w : World} {A : Option Addr} {n : Nat} {xs : List S52} (h : Kd.C k52 w A n xs) (i : Int) (h0 : 0 ≤ i) (h1 : i < n) : ∃ ad A1 c1 A2 c2 A3 c3, A = some ad ∧ w.cell? (ad.add (i.toNat * 4)) = some (.int .i64 (rd_T52 xs i).f0) ∧ w.cell? ⟨(ad.add (i.toNat * 4)).block, (ad.add (i.toNat * 4)).off + 1, none⟩ = some (.slice A1 (rd_T52 xs i).f1.length c1) ∧ w.cell? ⟨(ad.add (i.toNat * 4)).block, (ad.add (i.toNat * 4)).off + 2, none⟩ = some (.slice A2 (rd_T52 xs i).f2.length c2) ∧ w.cell? ⟨(ad.add (i.toNat * 4)).block, (ad.add (i.toNat * 4)).off + 3, none⟩ = some (.slice A3 (rd_T52 xs i).f3.length c3) ∧ (rd_T52 xs i).f1.length ≤ c1 ∧ (Kd.int .i64).C w A1 (rd_T52 xs i).f1.length (rd_T52 xs i).f1 ∧ (rd_T52 xs i).f2.length ≤ c2 ∧ Kd.string.C w A2 (rd_T52 xs i).f2.length (rd_T52 xs i).f2 ∧ (rd_T52 xs i).f3.length ≤ c3 ∧ (Kd.int .i64).C w A3 (rd_T52 xs i).f3.length (rd_T52 xs i).f3 := by
  obtain ⟨ad, c, e, _, hK, hc0⟩ := Kd.C_get h z52 i h0 h1
  have hc : ∀ j u, c[j]? = some u → w.cell? (ad.add (i.toNat * 4 + j)) = some u := hc0
  obtain ⟨A1, c1, A2, c2, A3, c3, rfl, l1, g1, l2, g2, l3, g3⟩ := k52_open hK
  exact ⟨ad, A1, c1, A2, c2, A3, c3, e, hc 0 _ rfl, by rw [← add_field _ _ 1 (by omega)]; exact hc 1 _ rfl, by rw [← add_field _ _ 2 (by omega)]; exact hc 2 _ rfl, by rw [← add_field _ _ 3 (by omega)]; exact hc 3 _ rfl, l1, g1, l2, g2, l3, g3⟩

end Go.Proofs.YtdfneldenipljaaDoor.PClassNumbers
end
section
namespace Go.Proofs.YtdfneldenipljaaDoor.L
open Go.RowKit Go.ChangeShapes Go.WideShapes Go.Proofs.YtdfneldenipljaaDoorW.PrintWords Go.Proofs.YtdfneldenipljaaDoorW.PrintLast Go.Proofs.YtdfneldenipljaaDoorW.PrintMore
attribute [local go_sem] max2_int min2_int max_two min_two max_three min_three max_four min_four
open Go.Proofs.YtdfneldenipljaaDoor.PClassNumbers
def toS (n : Node) : S52 := ⟨n.kind, n.ints, n.texts, n.kids⟩
def ofS (x : S52) : Node := ⟨x.f0, x.f1, x.f2, x.f3⟩
theorem of_to (n : Node) : ofS (toS n) = n := rfl
theorem map_of_to (ns : List Node) : (ns.map toS).map ofS = ns := by
  rw [List.map_map]
  exact (List.map_congr_left (fun x _ => of_to x)).trans (List.map_id _)
theorem C_to {w : World} {A : Option Addr} {n : Nat} {ns : List Node} (h : kNode.C w A n ns) : k52.C w A n (ns.map toS) := by
  refine ⟨by rw [List.length_map]; exact h.1, h.2.1, fun hp => ?_⟩
  obtain ⟨ad, ha, hc⟩ := h.2.2 hp
  refine ⟨ad, ha, fun j p hj => ?_⟩
  rw [List.getElem?_map] at hj
  obtain ⟨x, hx, rfl⟩ := Option.map_eq_some_iff.1 hj
  exact hc j x hx
theorem C_of {w : World} {A : Option Addr} {n : Nat} {xs : List S52} (h : k52.C w A n xs) : kNode.C w A n (xs.map ofS) := by
  refine ⟨by rw [List.length_map]; exact h.1, h.2.1, fun hp => ?_⟩
  obtain ⟨ad, ha, hc⟩ := h.2.2 hp
  refine ⟨ad, ha, fun j p hj => ?_⟩
  rw [List.getElem?_map] at hj
  obtain ⟨x, hx, rfl⟩ := Option.map_eq_some_iff.1 hj
  exact hc j x hx
theorem rd_to (ns : List Node) (i : Int) : rd_T52 (ns.map toS) i = toS (nd ns i.toNat) := by
  unfold rd_T52 nd
  rw [List.getD_eq_getElem?_getD, List.getD_eq_getElem?_getD, List.getElem?_map]
  cases ns[i.toNat]? <;> rfl
theorem kids_to (ns : List Node) (i : Int) : (rd_T52 (ns.map toS) i).f3 = kids ns i := by rw [rd_to]; rfl
end Go.Proofs.YtdfneldenipljaaDoor.L
end
section
namespace Go.Proofs.YtdfneldenipljaaDoor.L
open Go.RowKit Go.ChangeShapes Go.WideShapes Go.Proofs.YtdfneldenipljaaDoorW.PrintWords Go.Proofs.YtdfneldenipljaaDoorW.PrintLast Go.Proofs.YtdfneldenipljaaDoorW.PrintMore
attribute [local go_sem] max2_int min2_int max_two min_two max_three min_three max_four min_four
open Go.Proofs.YtdfneldenipljaaDoor.PClassNumbers
theorem C_len {w : World} {A : Option Addr} {xs : List S52} (h : k52.C w A xs.length xs) : kNode.C w A (xs.map ofS).length (xs.map ofS) := by rw [List.length_map]; exact C_of h
def _root_.Go.Proofs.YtdfneldenipljaaDoor.PClassNumbers.dioramaref09_Place.f (xs : List S52) (_ : Int) (a : Int) : Option Bool := some (isPl xs.length a)
def _root_.Go.Proofs.YtdfneldenipljaaDoor.PClassNumbers.dioramaref09_Refs.f (_ : Nat) (xs : List S52) (_ : Int) : Option Int := some (refsAt (xs.map ofS))
theorem _root_.Go.Proofs.YtdfneldenipljaaDoor.PClassNumbers.dioramaref09_Refs.mono : ∀ a0 a1 k, LeO (dioramaref09_Refs.f k a0 a1) (dioramaref09_Refs.f (k + 1) a0 a1) := fun _ _ _ => LeO.refl _
theorem _root_.Go.Proofs.YtdfneldenipljaaDoor.PClassNumbers.dioramaref09_Place.calls (A0_0 : Option Addr) (c0_0 : Nat) (l0_0 : List S52) (a0_1 : Int) (a1 : Int) (r : Bool) (w : World) (hr0_0 : Kd.C k52 w A0_0 l0_0.length l0_0) (hc0_0 : l0_0.length ≤ c0_0) (h : dioramaref09_Place.f l0_0 a0_1 a1 = some r) :
    Calls Tryd.prog 43 #[.agg #[.slice A0_0 l0_0.length c0_0, .int .i64 a0_1], .int .i64 a1] w fun e w' => e = .returned (.bool r) ∧ Below w.heap.size w w' := by
  obtain rfl := Option.some.inj h
  exact place_any A0_0 c0_0 l0_0.length a0_1 a1 w
theorem _root_.Go.Proofs.YtdfneldenipljaaDoor.PClassNumbers.dioramaref09_Refs.calls (k : Nat) (A0_0 : Option Addr) (c0_0 : Nat) (l0_0 : List S52) (a0_1 : Int) (r : Int) (w : World) (hr0_0 : Kd.C k52 w A0_0 l0_0.length l0_0) (hc0_0 : l0_0.length ≤ c0_0) (h : dioramaref09_Refs.f k l0_0 a0_1 = some r) :
    Calls Tryd.prog 44 #[.agg #[.slice A0_0 l0_0.length c0_0, .int .i64 a0_1]] w fun e w' => e = .returned (.int .i64 r) ∧ Below w.heap.size w w' := by
  obtain rfl := Option.some.inj h
  have := rrefs_any A0_0 c0_0 ⟨l0_0.map ofS, a0_1⟩ w (C_len hr0_0)
  rw [show (Scene.mk (l0_0.map ofS) a0_1).nodes.length = l0_0.length from by simp] at this
  exact this
end Go.Proofs.YtdfneldenipljaaDoor.L
end
