/- Part 5 of the texts that YtggldnbhmebcpaaDoorRowMC rests on, joined by a program: what its functions come to. Conditions: those that each theorem states. -/
import Derived.Test.YtggldnbhmebcpaaDoorQjd
import Derived.Lib.AppendIntMem
import Derived.Lib.LaidTab
import Derived.Lib.ItoaLen
import Derived.Lib.UnsafeStr
set_option linter.unusedVariables false
set_option linter.unusedSimpArgs false
section
namespace Go.Proofs.YtggldnbhmebcpaaDoor.L
open Go.RowKit Go.ChangeShapes Go.WideShapes Go.Proofs.YtggldnbhmebcpaaDoorW.PrintWords Go.Proofs.YtggldnbhmebcpaaDoorW.PrintLast Go.Proofs.YtggldnbhmebcpaaDoorW.PrintMore
attribute [local go_sem] max2_int min2_int max_two min_two max_three min_three max_four min_four
structure QTabs (T : Lib.PrintTabs) (w : World) : Prop where
  utf : Tabs w
  prt : Lib.PrintTabsAt 5 6 7 8 T w
  pow : Lib.TabIs Tryd.prog w "internal/strconv.uint64pow10" .u64 Lib.pow10Tab
theorem tabSlice_below {g : Nat} {k : IntKind} {t : List Nat} {w w' : World} (h : Lib.TabSlice g k t w) (hb : Below w.heap.size w w') : Lib.TabSlice g k t w' := by
  obtain ⟨R, o, c, h1, h2⟩ := h
  exact ⟨R, o, c, pw_cell_below hb h1, fun j hj => pw_cell_below hb (h2 j hj)⟩
theorem QTabs.below {T : Lib.PrintTabs} {w w' : World} (h : QTabs T w) (hb : Below w.heap.size w w') : QTabs T w' := by
  obtain ⟨a, b, c, d, e⟩ := h.prt
  exact ⟨h.utf.below hb, ⟨tabSlice_below a hb, tabSlice_below b hb, tabSlice_below c hb, tabSlice_below d hb, e⟩, Lib.tabBelow_of_tabIs h.pow w' hb⟩
def I64 (x : Int) : Prop := -9223372036854775808 ≤ x ∧ x ≤ 9223372036854775807
structure NBd (n : Node) : Prop where
  kind : I64 n.kind
  ints : ∀ x ∈ n.ints, I64 x
theorem itoa_any (T : Lib.PrintTabs) (x : Int) (w : World) (hx : I64 x) (hT : QTabs T w) : Calls Tryd.prog 24 #[.int .i64 x] w fun e w' => e = .returned (.string ⟨(Lib.itoa x).toArray⟩) ∧ Below w.heap.size w w' := by
  refine (Tryd.strconv_Itoa x hx.1 hx.2 w hT.pow).mono ?_
  rintro e w' ⟨rfl, k, os, rfl⟩
  exact ⟨rfl, Lib.below_grow _ w (Nat.le_refl _) k os⟩
theorem fint_any (T : Lib.PrintTabs) (x : Int) (w : World) (hx : I64 x) (hT : QTabs T w) : Calls Tryd.prog 48 #[.int .i64 x, .int .i64 10] w fun e w' => e = .returned (.string ⟨(Lib.itoa x).toArray⟩) ∧ Below w.heap.size w w' := by
  refine (Tryd.strconv_FormatInt_10 x hx.1 hx.2 w hT.pow).mono ?_
  rintro e w' ⟨rfl, k, os, rfl⟩
  exact ⟨rfl, Lib.below_grow _ w (Nat.le_refl _) k os⟩
theorem quote_any (T : Lib.PrintTabs) (s : ByteArray) (w : World) (hs : s.size ≤ 1000000) (hT : QTabs T w) : Calls Tryd.prog 49 #[.string s] w fun e w' => e = .returned (.string ⟨(qB T s).toArray⟩) ∧ Below w.heap.size w w' := by
  refine (Tryd.strconv_Quote T s w (by omega) hT.prt hT.utf).mono ?_
  rintro e w' ⟨rfl, hb⟩
  exact ⟨rfl, hb⟩
theorem qB_len (T : Lib.PrintTabs) (s : ByteArray) : (qB T s).length ≤ 10 * s.size + 2 := by
  unfold qB
  rw [Lib.bytesOf_length]
  exact Lib.quoteZ_length_le T s
theorem itoa_len {x : Int} (h : I64 x) : (Lib.itoa x).length ≤ 21 := Lib.itoa_length_le x h.1 h.2
theorem wNums_len {l : List Int} (h : ∀ x ∈ l, I64 x) : (wNums l).length ≤ l.length * 22 := by
  induction l with
  | nil => exact Nat.zero_le _
  | cons v l ih =>
    have h1 := ih (fun x hx => h x (by simp [hx]))
    have h2 := itoa_len (h v (by simp))
    have e : wNums (v :: l) = 32 :: (Lib.itoa v ++ wNums l) := rfl
    rw [e, List.length_cons, List.length_append, List.length_cons, Nat.succ_mul]
    omega
theorem wTexts_len (T : Lib.PrintTabs) {l : List ByteArray} (h : ∀ x ∈ l, x.size ≤ 1000000) : (wTexts T l).length ≤ l.length * 10000003 := by
  induction l with
  | nil => exact Nat.zero_le _
  | cons v l ih =>
    have h1 := ih (fun x hx => h x (by simp [hx]))
    have h2 := qB_len T v
    have h3 := h v (by simp)
    have e : wTexts T (v :: l) = 32 :: (qB T v ++ wTexts T l) := rfl
    rw [e, List.length_cons, List.length_append, List.length_cons, Nat.succ_mul]
    omega
structure WRel (b : Nat) (w0 : World) (l : List UInt8) (W : World) : Prop where
  is : Lib.IsBuilder 83 5 b b (Lib.byteCells l) W
  below : Below b w0 W
  ge : b ≤ W.heap.size
theorem WRel.later {b : Nat} {w0 W W1 : World} {l : List UInt8} (h : WRel b w0 l W) (hb : Below W.heap.size W W1) : WRel b w0 l W1 := by
  have key : ∀ {p : Value}, Lib.BuilderAt 83 5 b b p (Lib.byteCells l) W → Lib.BuilderAt 83 5 b b p (Lib.byteCells l) W1 := by
    rintro p ⟨h1, v, h2, h3, h4⟩
    refine ⟨h1, v, (hb.block b (blk_lt h2)).trans h2, h3.kept (row := none) ⟨hb.os, hb.tape, hb.output, hb.size, fun i hi _ => hb.block i hi⟩ ?_, h4⟩
    cases v.ownBlock with
    | none => exact .inl rfl
    | some k => exact .inr (by simp)
  refine ⟨?_, h.below.trans (hb.mono h.ge), Nat.le_trans h.ge hb.size⟩
  rcases h.is with h | h
  · exact .inl (key h)
  · exact .inr (key h)
theorem WRel.wrote {b : Nat} {w0 W W1 : World} {l m : List UInt8} {s : ByteArray} (h : WRel b w0 l W) (hs : s.data.toList = m) (h1 : Lib.BuilderAt 83 5 b b (.pointer (some ⟨b, 0, none⟩)) (Lib.byteCells l ++ Lib.strCells s) W1) (hb : Below b W W1) : WRel b w0 (l ++ m) W1 := by
  refine ⟨.inr ?_, h.below.trans hb, Nat.le_trans h.ge hb.size⟩
  rw [Lib.strCells_eq, hs] at h1
  rwa [show Lib.byteCells (l ++ m) = Lib.byteCells l ++ Lib.byteCells m from List.map_append]
theorem WRel.lt {b : Nat} {w0 W : World} {l : List UInt8} (h : WRel b w0 l W) : b < W.heap.size := by
  rcases h.is with h | h <;> exact h.lt
theorem M_slicesW {W : World} {B : Nat} {m : Node} {v1 v2 v3 : Value} (h : kNode.M W B (fun _ => True) m [.int .i64 m.kind, v1, v2, v3]) : ∃ A1 c1 A2 c2 A3 c3, v1 = .slice A1 m.ints.length c1 ∧ v2 = .slice A2 m.texts.length c2 ∧ v3 = .slice A3 m.kids.length c3 := by
  obtain ⟨x1, x2, x3, e, h1, h2, h3⟩ := kNode_openM h
  injection e with _ e
  injection e with e1 e
  injection e with e2 e
  injection e with e3 _
  subst e1 e2 e3
  obtain ⟨A1, c1, r1⟩ := Kd.R_slice h1
  obtain ⟨A2, c2, r2⟩ := Kd.R_slice h2
  obtain ⟨A3, c3, r3⟩ := Kd.R_slice h3
  exact ⟨A1, c1, A2, c2, A3, c3, r1, r2, r3⟩
end Go.Proofs.YtggldnbhmebcpaaDoor.L
end
section
namespace Go.Proofs.YtggldnbhmebcpaaDoor.L
open Go.RowKit Go.ChangeShapes Go.WideShapes Go.Proofs.YtggldnbhmebcpaaDoorW.PrintWords Go.Proofs.YtggldnbhmebcpaaDoorW.PrintLast Go.Proofs.YtggldnbhmebcpaaDoorW.PrintMore
attribute [local go_sem] max2_int min2_int max_two min_two max_three min_three max_four min_four
theorem wTexts_snoc (T : Lib.PrintTabs) (l : List ByteArray) (x : ByteArray) : wTexts T (l ++ [x]) = wTexts T l ++ 32 :: qB T x := by simp [wTexts]
set_option maxRecDepth 100000 in
set_option maxHeartbeats 8000000 in
theorem word_any (T : Lib.PrintTabs) (n : Node) (A1 : Option Addr) (c1 : Nat) (A2 : Option Addr) (c2 : Nat) (A3 : Option Addr) (c3 : Nat) (Ao : Option Addr) (co : Nat) (own : List Int) (w : World) (h : NodeC w n A1 c1 A2 c2 A3 c3) (hs : Small n) (hts : ∀ x ∈ n.texts, x.size ≤ 1000000) (hn : NBd n)
    (ho : (Kd.int .i64).C w Ao own.length own) (hk : ∀ k ∈ n.kids, 0 ≤ k ∧ k < (own.length : Int)) (hoB : ∀ x ∈ own, I64 x) (hT : QTabs T w) :
    Calls Tryd.prog 37 #[.agg #[.int .i64 n.kind, .slice A1 n.ints.length c1, .slice A2 n.texts.length c2, .slice A3 n.kids.length c3], .slice Ao own.length co] w fun e w' => e = .returned (.string ⟨(nodeW T n own).toArray⟩) ∧ Below w.heap.size w w' := by
  have HN := Aside0.mk h
  have HS := Aside0.mk hs
  have HTS := Aside0.mk hts
  have HB := Aside0.mk hn
  have HO := Aside0.mk ho
  have HK := Aside0.mk hk
  have HOB := Aside0.mk hoB
  have HT := Aside0.mk hT
  have hun := Tryd.underlying46
  have hub := Tryd.underlying83
  have HA := Aside0.mk (below_alloc (Below.refl w.heap.size w) (.cells #[.int .i64 n.kind, .slice A1 n.ints.length c1, .slice A2 n.texts.length c2, .slice A3 n.kids.length c3] 46))
  clear h hs hts hn ho hk hoB hT
  go_enter Tryd.func37, Tryd.ntmps37
  go_wp2_with fail
  refine (copy_any n A1 c1 A2 c2 A3 c3 _ (HN.out.below HA.out) HS.out).mono ?_
  rintro e w1 ⟨v', rfl, ⟨v1, v2, v3, rfl, hM⟩, hB1⟩
  obtain ⟨A5, c5, A6, c6, A7, c7, rfl, rfl, rfl⟩ := M_slicesW hM
  have HN1 : Aside0 (NodeC w1 n A5 c5 A6 c6 A7 c7) := by
    obtain ⟨x1, x2, x3, e, h1, h2, h3⟩ := kNode_openM hM
    injection e with _ e
    injection e with e1 e
    injection e with e2 e
    injection e with e3 _
    subst e1 e2 e3
    have r1 := Kd.R_reads' h1
    have r2 := Kd.R_reads' h2
    have r3 := Kd.R_reads' h3
    exact ⟨r1.2.1, r2.2.1, r3.2.1, r1.2.2, r2.2.2, r3.2.2⟩
  have HB1 := Aside0.mk (below_step HA.out hB1)
  clear hM hB1 HN HA
  go_wp2_with fail
  have hA2 := below_alloc (Below.refl w1.heap.size w1) (.cells #[.int .i64 n.kind, .slice A5 n.ints.length c5, .slice A6 n.texts.length c6, .slice A7 n.kids.length c7] 46)
  have y1 := box_cell w1 _ rfl #[.int .i64 n.kind, .slice A5 n.ints.length c5, .slice A6 n.texts.length c6, .slice A7 n.kids.length c7] 46 1 (.slice A5 n.ints.length c5) rfl
  have y2 := box_cell w1 _ rfl #[.int .i64 n.kind, .slice A5 n.ints.length c5, .slice A6 n.texts.length c6, .slice A7 n.kids.length c7] 46 2 (.slice A6 n.texts.length c6) rfl
  have y3 := box_cell w1 _ rfl #[.int .i64 n.kind, .slice A5 n.ints.length c5, .slice A6 n.texts.length c6, .slice A7 n.kids.length c7] 46 3 (.slice A7 n.kids.length c7) rfl
  have HN2 := Aside0.mk (HN1.out.below hA2)
  have HB2 := Aside0.mk (below_step HB1.out hA2)
  have HO2 := Aside0.mk (Kd.C_below HO.out HB2.out)
  have HT2 := Aside0.mk (HT.out.below HB2.out)
  have hgx : w1.heap.size + 1 = (w1.alloc (.cells #[.int .i64 n.kind, .slice A5 n.ints.length c5, .slice A6 n.texts.length c6, .slice A7 n.kids.length c7] 46)).heap.size := by simp
  have HGx := Aside0.mk hgx
  rw [hgx]
  clear HN1 HB1 HO HT hA2 hgx
  generalize w1.alloc (.cells #[.int .i64 n.kind, .slice A5 n.ints.length c5, .slice A6 n.texts.length c6, .slice A7 n.kids.length c7] 46) = w2 at HN2 HB2 HO2 HT2 HGx y1 y2 y3 ⊢
  generalize w1.heap.size = gx at HGx y1 y2 y3 ⊢
  have HW2 : Aside0 (WRel w2.heap.size w2 [] (w2.alloc (.cells #[.pointer none, .slice none 0 0] 83))) :=
    ⟨Lib.fresh_isBuilder 83 5 w2, below_alloc (Below.refl _ _) _, by simp⟩
  have Y1 : ∀ W, Below w2.heap.size w2 W → W.cell? ⟨gx, 1, none⟩ = some (.slice A5 n.ints.length c5) := fun W h => pw_cell_below h y1
  have Y2 : ∀ W, Below w2.heap.size w2 W → W.cell? ⟨gx, 2, none⟩ = some (.slice A6 n.texts.length c6) := fun W h => pw_cell_below h y2
  have Y3 : ∀ W, Below w2.heap.size w2 W → W.cell? ⟨gx, 3, none⟩ = some (.slice A7 n.kids.length c7) := fun W h => pw_cell_below h y3
  have HY1 := Aside0.mk Y1
  have HY2 := Aside0.mk Y2
  have HY3 := Aside0.mk Y3
  clear y1 y2 y3 Y1 Y2 Y3
  have HLi := Aside0.mk (itoa_len HB.out.kind)
  refine (itoa_any T n.kind _ HB.out.kind (HT2.out.below (below_alloc (Below.refl _ _) _))).mono ?_
  rintro e w3 ⟨rfl, hB3⟩
  have HW3 := Aside0.mk (HW2.out.later hB3)
  clear HW2 hB3
  go_wp2_with fail
  refine (wstr_any _ _ _ _ _ HW3.out.is (by rw [Lib.byteCells_length]; show 0 + (Lib.itoa n.kind).length ≤ _; have := HLi.out; omega) HW3.out.ge).mono ?_
  rintro e w4 ⟨rfl, hw4, hB4⟩
  have HW4 := Aside0.mk (HW3.out.wrote (m := Lib.itoa n.kind) rfl hw4 hB4)
  have x1 := HY1.out _ HW4.out.below
  clear HW3 hw4 hB4
  go_wp2
  clear x1
  go_loopw [22] (fun v22 W => ∃ i : Nat, i ≤ n.ints.length ∧ v22 = .int .i64 i ∧ Aside0 (WRel w2.heap.size w2 (Lib.itoa n.kind ++ wNums (n.ints.take i)) W)) (fun v22 _ => n.ints.length - (intOf v22).toNat)
  case atStart => exact ⟨0, by omega, rfl, by rw [List.take_zero]; exact ⟨by have := HW4.out; simpa [wNums] using this⟩⟩
  case round =>
    clear HW4
    obtain ⟨i, hi, rfl, HI⟩ := hrel
    have hil : n.ints.length ≤ 1000000 := HS.out.1
    by_cases hlt : i < n.ints.length
    · obtain ⟨ad, rfl, z0⟩ := at_nat (HN2.out.below HI.out.below).i i hlt
      have HX := Aside0.mk (HB.out.ints _ (rd_mem hlt))
      have HLx := Aside0.mk (itoa_len HX.out)
      have HTk := Aside0.mk (show wNums (n.ints.take (i + 1)) = wNums (n.ints.take i) ++ 32 :: Lib.itoa (rd n.ints (i : Int)) from by rw [take_succ_rd hlt]; simp [wNums])
      have HLp := Aside0.mk (wNums_len (l := n.ints.take i) (fun x hx => HB.out.ints x (List.mem_of_mem_take hx)))
      generalize rd n.ints (i : Int) = x at z0 HX HLx HTk
      have hlx := HLx.out
      go_wp2_with fail
      refine (fint_any T x _ HX.out (HT2.out.below HI.out.below)).mono ?_
      rintro e w6 ⟨rfl, hB6⟩
      have HW6 := Aside0.mk (HI.out.later hB6)
      clear hB6 z0
      go_wp2_with fail
      refine (wstr_any _ _ _ _ _ HW6.out.is (by
        rw [Lib.byteCells_length, List.length_append]
        have h1 := HLi.out
        have h2 := HLp.out
        have h3 : (n.ints.take i).length ≤ 1000000 := by rw [List.length_take]; omega
        have h4 : (⟨#[32]⟩ ++ ⟨(Lib.itoa x).toArray⟩ : ByteArray).size = 1 + (Lib.itoa x).length := by rw [ByteArray.size_append]; rfl
        rw [h4]; omega) HW6.out.ge).mono ?_
      rintro e w7 ⟨rfl, hw7, hB7⟩
      have HW7 := Aside0.mk (HW6.out.wrote (m := 32 :: Lib.itoa x) (by simp) hw7 hB7)
      clear HW6 hw7 hB7
      rw [List.append_assoc, ← HTk.out] at HW7
      go_wp2
      go_roundw
      case rel => exact ⟨i + 1, by omega, by go_num, HW7⟩
      case measure => simp [intOf]; omega
    · obtain rfl : i = n.ints.length := by omega
      rw [List.take_length] at HI
      have x2 := HY2.out _ HI.out.below
      have HLp := Aside0.mk (wNums_len (l := n.ints) HB.out.ints)
      clear hlt hi
      go_wp2
      clear x2
      go_loopw [34] (fun v34 W => ∃ i : Nat, i ≤ n.texts.length ∧ v34 = .int .i64 i ∧ Aside0 (WRel w2.heap.size w2 (Lib.itoa n.kind ++ (wNums n.ints ++ wTexts T (n.texts.take i))) W)) (fun v34 _ => n.texts.length - (intOf v34).toNat)
      case atStart => exact ⟨0, by omega, rfl, by rw [List.take_zero]; exact ⟨by have := HI.out; simpa [wTexts] using this⟩⟩
      case round =>
        clear HI
        obtain ⟨i, hi, rfl, HI⟩ := hrel
        have htl : n.texts.length ≤ 1000000 := HS.out.2.1
        by_cases hlt : i < n.texts.length
        · obtain ⟨ad, rfl, z0⟩ := at_str (HN2.out.below HI.out.below).t i hlt
          have HX := Aside0.mk (show (str n.texts i).size ≤ 1000000 from HTS.out _ (by
            have : str n.texts i = n.texts[i] := by unfold str; rw [List.getD_eq_getElem?_getD, List.getElem?_eq_getElem hlt]; rfl
            rw [this]; exact List.getElem_mem hlt))
          have HTk := Aside0.mk (show wTexts T (n.texts.take (i + 1)) = wTexts T (n.texts.take i) ++ 32 :: qB T (str n.texts i) from by
            have : str n.texts i = n.texts[i] := by unfold str; rw [List.getD_eq_getElem?_getD, List.getElem?_eq_getElem hlt]; rfl
            rw [List.take_succ_eq_append_getElem hlt, this, wTexts_snoc])
          have HLt := Aside0.mk (wTexts_len T (l := n.texts.take i) (fun x hx => HTS.out x (List.mem_of_mem_take hx)))
          generalize str n.texts i = x at z0 HX HTk
          have hlx := qB_len T x
          have hx1 := HX.out
          go_wp2_with fail
          refine (quote_any T x _ HX.out (HT2.out.below HI.out.below)).mono ?_
          rintro e w6 ⟨rfl, hB6⟩
          have HW6 := Aside0.mk (HI.out.later hB6)
          clear hB6 z0
          go_wp2_with fail
          refine (wstr_any _ _ _ _ _ HW6.out.is (by
            rw [Lib.byteCells_length, List.length_append, List.length_append]
            have h1 := HLi.out
            have h2 := HLp.out
            have h2' := HLt.out
            have h5 : n.ints.length ≤ 1000000 := HS.out.1
            have h3 : (n.texts.take i).length ≤ 1000000 := by rw [List.length_take]; omega
            have h4 : (⟨#[32]⟩ ++ ⟨(qB T x).toArray⟩ : ByteArray).size = 1 + (qB T x).length := by rw [ByteArray.size_append]; rfl
            rw [h4]; omega) HW6.out.ge).mono ?_
          rintro e w7 ⟨rfl, hw7, hB7⟩
          have HW7 := Aside0.mk (HW6.out.wrote (m := 32 :: qB T x) (by simp) hw7 hB7)
          clear HW6 hw7 hB7
          rw [List.append_assoc, List.append_assoc, ← HTk.out] at HW7
          go_wp2
          go_roundw
          case rel => exact ⟨i + 1, by omega, by go_num, HW7⟩
          case measure => simp [intOf]; omega
        · obtain rfl : i = n.texts.length := by omega
          rw [List.take_length] at HI
          have HLt := Aside0.mk (wTexts_len T (l := n.texts) HTS.out)
          clear hlt hi
          go_wp2_with fail
          refine (wstr_any _ _ _ _ _ HI.out.is (by
            rw [Lib.byteCells_length, List.length_append, List.length_append]
            have h1 := HLi.out
            have h2 := HLp.out
            have h2' := HLt.out
            have h5 : n.ints.length ≤ 1000000 := HS.out.1
            show _ + 2 ≤ _
            omega) HI.out.ge).mono ?_
          rintro e w8 ⟨rfl, hw8, hB8⟩
          have HW8 := Aside0.mk (HI.out.wrote (m := [32, 47]) rfl hw8 hB8)
          clear HI hw8 hB8
          have x3 := HY3.out _ HW8.out.below
          go_wp2
          clear x3
          go_loopw [47] (fun v47 W => ∃ i : Nat, i ≤ n.kids.length ∧ v47 = .int .i64 i ∧ Aside0 (WRel w2.heap.size w2 (Lib.itoa n.kind ++ (wNums n.ints ++ (wTexts T n.texts ++ 32 :: 47 :: wNums ((n.kids.take i).map (rd own))))) W)) (fun v47 _ => n.kids.length - (intOf v47).toNat)
          case atStart => exact ⟨0, by omega, rfl, by rw [List.take_zero]; exact ⟨by have := HW8.out; simpa [wNums] using this⟩⟩
          case round =>
            clear HW8
            obtain ⟨i, hi, rfl, HI⟩ := hrel
            have hkl : n.kids.length ≤ 1000000 := HS.out.2.2
            by_cases hlt : i < n.kids.length
            · obtain ⟨ad, rfl, z0⟩ := at_nat (HN2.out.below HI.out.below).k i hlt
              have HQ := Aside0.mk (HK.out _ (rd_mem hlt))
              have HTk := Aside0.mk (show (n.kids.take (i + 1)).map (rd own) = (n.kids.take i).map (rd own) ++ [rd own (rd n.kids (i : Int))] from by rw [take_succ_rd hlt, List.map_append]; rfl)
              obtain ⟨k, hk⟩ : ∃ k : Nat, rd n.kids (i : Int) = (k : Int) := ⟨(rd n.kids (i : Int)).toNat, by have := HQ.out.1; omega⟩
              have hkn : k < own.length := by have := HQ.out.2; omega
              rw [hk] at z0 HTk
              obtain ⟨ao, rfl, z1⟩ := at_nat (Kd.C_below HO2.out HI.out.below) k hkn
              have HX := Aside0.mk (HOB.out _ (rd_mem hkn))
              have HLp2 := Aside0.mk (wNums_len (l := (n.kids.take i).map (rd own)) (fun x hx => by
                obtain ⟨q, hq, rfl⟩ := List.mem_map.1 hx
                have h1 := HK.out q (List.mem_of_mem_take hq)
                obtain ⟨p, rfl⟩ : ∃ p : Nat, q = (p : Int) := ⟨q.toNat, by omega⟩
                exact HOB.out _ (rd_mem (by omega))))
              have HTk2 := Aside0.mk (show wNums ((n.kids.take (i + 1)).map (rd own)) = wNums ((n.kids.take i).map (rd own)) ++ 32 :: Lib.itoa (rd own (k : Int)) from by rw [HTk.out]; simp [wNums])
              clear hk HTk HQ
              generalize rd own (k : Int) = x at z1 HX HTk2
              have HLx := Aside0.mk (itoa_len HX.out)
              have hlx := HLx.out
              go_wp2_with fail
              refine (itoa_any T x _ HX.out (HT2.out.below HI.out.below)).mono ?_
              rintro e w6 ⟨rfl, hB6⟩
              have HW6 := Aside0.mk (HI.out.later hB6)
              clear hB6 z0 z1
              go_wp2_with fail
              refine (wstr_any _ _ _ _ _ HW6.out.is (by
                rw [Lib.byteCells_length, List.length_append, List.length_append, List.length_append, List.length_cons, List.length_cons]
                have h1 := HLi.out
                have h2 := HLp.out
                have h2' := HLt.out
                have h2'' := HLp2.out
                have h5 : n.ints.length ≤ 1000000 := HS.out.1
                have h6 : n.texts.length ≤ 1000000 := HS.out.2.1
                have h3 : ((n.kids.take i).map (rd own)).length ≤ 1000000 := by rw [List.length_map, List.length_take]; omega
                have h4 : (⟨#[32]⟩ ++ ⟨(Lib.itoa x).toArray⟩ : ByteArray).size = 1 + (Lib.itoa x).length := by rw [ByteArray.size_append]; rfl
                rw [h4]; omega) HW6.out.ge).mono ?_
              rintro e w7 ⟨rfl, hw7, hB7⟩
              have HW7 := Aside0.mk (HW6.out.wrote (m := 32 :: Lib.itoa x) (by simp) hw7 hB7)
              clear HW6 hw7 hB7
              rw [show ∀ a b c d e : List UInt8, a ++ (b ++ (c ++ 32 :: 47 :: d)) ++ e = a ++ (b ++ (c ++ 32 :: 47 :: (d ++ e))) from fun a b c d e => by simp, ← HTk2.out] at HW7
              go_wp2
              go_roundw
              case rel => exact ⟨i + 1, by omega, by go_num, HW7⟩
              case measure => simp [intOf]; omega
            · obtain rfl : i = n.kids.length := by omega
              rw [List.take_length] at HI
              clear hlt hi
              go_wp2_with fail
              refine (Tryd.Builder_String_any _ _ _ _ HI.out.is HI.out.ge).mono ?_
              rintro e w9 ⟨rfl, hB9⟩
              have HB9 := Aside0.mk (HB2.out.trans ((HI.out.below.trans hB9).mono HB2.out.size))
              clear hB9 HI
              go_wp2
              go_ret
              exact ⟨rfl, HB9.out⟩
end Go.Proofs.YtggldnbhmebcpaaDoor.L
end
