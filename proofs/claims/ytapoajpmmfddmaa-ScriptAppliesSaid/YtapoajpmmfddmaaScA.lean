/- What Ints, both Kept and add of the script package come to, and plain facts on lists, on the longest common part and on its table. Conditions: those that each theorem states. -/
import Derived.Test.YtapoajpmmfddmaaProg
import Derived.Test.YtapoajpmmfddmaaWMore
import Derived.StillTailTactics
namespace Go.Proofs.Ytapoajpmmfddmaa.Sc
open Go.RowKit Go.Proofs.YtapoajpmmfddmaaW.PrintWords Go.Proofs.YtapoajpmmfddmaaW.PrintLast Go.Proofs.YtapoajpmmfddmaaW.PrintMore
attribute [local go_sem] max2_int min2_int max_two min_two max_three min_three max_four min_four
theorem rd_eq {xs : List Int} {i : Nat} (h : i < xs.length) : rd xs (i : Int) = xs[i] := by
  unfold rd
  rw [List.getD_eq_getElem?_getD, Int.toNat_natCast, List.getElem?_eq_getElem h]; rfl
theorem take_eq_step {l0 l1 : List Int} {k : Nat} (h0 : k < l0.length) (h1 : k < l1.length) (ht : l0.take k = l1.take k) (he : rd l0 (k : Int) = rd l1 (k : Int)) : l0.take (k + 1) = l1.take (k + 1) := by
  rw [List.take_succ_eq_append_getElem h0, List.take_succ_eq_append_getElem h1, ht, ← rd_eq h0, ← rd_eq h1, he]
theorem ne_of_rd {l0 l1 : List Int} {k : Nat} (he : ¬ rd l0 (k : Int) = rd l1 (k : Int)) : ¬ l0 = l1 := fun h => he (by rw [h])

theorem ret_bool {a b : Bool} (h : a = b) : Ending.returned (.bool a) = .returned (.bool b) := by rw [h]
theorem at_nat {w : World} {A : Option Addr} {n : Nat} {k : IntKind} {xs : List Int} (h : (Kd.int k).C w A n xs) (i : Nat) (h1 : i < n) : ∃ ad, A = some ad ∧ w.cell? (ad.add i) = some (.int k (rd xs (i : Int))) := by
  obtain ⟨ad, e, hx⟩ := Kd.at_int h (i : Int) (by omega) (by omega)
  exact ⟨ad, e, by simpa using hx⟩

theorem ints_eq (A0 : Option Addr) (c0 : Nat) (l0 : List Int) (A1 : Option Addr) (c1 : Nat) (l1 : List Int) (w : World) (hr0 : Kd.C (Kd.int .i64) w A0 l0.length l0) (hr1 : Kd.C (Kd.int .i64) w A1 l1.length l1) :
    Calls Try.prog 11 #[.slice A0 l0.length c0, .slice A1 l1.length c1] w fun e w' => e = .returned (.bool (decide (l0 = l1))) ∧ Drawn0 w w' := by
  have HR0 := Aside0.mk hr0
  have HR1 := Aside0.mk hr1
  have b0 := hr0.2.1
  have b1 := hr1.2.1
  clear hr0 hr1
  by_cases c3 : l0.length = l1.length
  · go_enter Try.func11, Try.ntmps11
    go_wp2
    go_loopw [5] (fun v5 w' => ∃ k : Nat, k ≤ l0.length ∧ v5 = .int .i64 k ∧ Aside0 (l0.take k = l1.take k) ∧ Drawn0 w w') (fun v5 _ => l0.length - (intOf v5).toNat)
    case atStart => exact ⟨0, by omega, rfl, ⟨by simp⟩, Drawn0.refl _⟩
    case round =>
      obtain ⟨k, hk, rfl, HT, ⟨m, rfl⟩⟩ := hrel
      by_cases hlt : k < l0.length
      · obtain ⟨ad0, rfl, hx0⟩ := at_nat HR0.out k (by omega)
        obtain ⟨ad1, rfl, hx1⟩ := at_nat HR1.out k (by omega)
        have hlt1 : k < l1.length := by omega
        by_cases he : rd l0 (k : Int) = rd l1 (k : Int)
        · have hb : (rd l0 (k : Int) != rd l1 (k : Int)) = false := by simpa using he
          have HN := Aside0.mk (take_eq_step hlt hlt1 HT.out he)
          clear he
          go_wp2
          go_quiet (fail)
          go_wp2
          go_roundw
          case rel => exact ⟨k + 1, by omega, by go_num, HN, by repeat (first | exact Drawn0.refl _ | apply Drawn0.step)⟩
          case measure => simp [intOf]; omega
        · have hb : (rd l0 (k : Int) != rd l1 (k : Int)) = true := by simpa using he
          have HD := Aside0.mk (decide_eq_false (ne_of_rd he))
          clear he
          go_wp2
          go_quiet (fail)
          go_wp2
          go_ret
          exact ⟨ret_bool HD.out.symm, by repeat (first | exact Drawn0.refl _ | apply Drawn0.step)⟩
      · have HD : Aside0 (decide (l0 = l1) = true) := ⟨by
          have ht := HT.out
          rw [List.take_of_length_le (by omega), List.take_of_length_le (by omega)] at ht
          simpa using ht⟩
        go_wp2
        go_ret
        exact ⟨ret_bool HD.out.symm, by repeat (first | exact Drawn0.refl _ | apply Drawn0.step)⟩
  · have HD := Aside0.mk (decide_eq_false (fun h : l0 = l1 => c3 (by rw [h])))
    go_enter Try.func11, Try.ntmps11
    go_wp2
    go_ret
    exact ⟨ret_bool HD.out.symm, Drawn0.refl _⟩
/-! ### edits -/
structure Ed where
  kind : Int
  n : Int
deriving DecidableEq
def kEd : Kd Ed := Kd.iso (Kd.pair (Kd.int .i64) (Kd.int .i64)) (fun x : Ed => (x.kind, x.n))
theorem kEd_open {w : World} {x : Ed} {cs : List Value} (h : kEd.K w x cs) : cs = [.int .i64 x.kind, .int .i64 x.n] := by
  obtain ⟨_, _, rfl, rfl, rfl⟩ := h
  exact rfl
theorem kEd_openM {w : World} {base : Nat} {ok : Nat → Prop} {x : Ed} {cs : List Value} (h : kEd.M w base ok x cs) : cs = [.int .i64 x.kind, .int .i64 x.n] := by
  obtain ⟨_, _, rfl, rfl, rfl⟩ := h
  exact rfl
theorem kEd_mkM (w : World) (base : Nat) (ok : Nat → Prop) (x : Ed)  : kEd.M w base ok x [.int .i64 x.kind, .int .i64 x.n] := ⟨[.int .i64 x.kind], [.int .i64 x.n], rfl, rfl, rfl⟩
def edz : Ed := ⟨0, 0⟩
def ed (xs : List Ed) (i : Nat) : Ed := xs.getD i edz
theorem ed_eq {xs : List Ed} {i : Nat} (h : i < xs.length) : ed xs i = xs[i] := by
  unfold ed
  rw [List.getD_eq_getElem?_getD, List.getElem?_eq_getElem h]; rfl
theorem at_ed {w : World} {A : Option Addr} {n : Nat} {xs : List Ed} (h : Kd.C kEd w A n xs) (i : Nat) (h1 : i < n) :
    ∃ ad, A = some ad ∧ w.cell? (ad.add (i * 2)) = some (.int .i64 (ed xs i).kind) ∧ w.cell? ⟨(ad.add (i * 2)).block, (ad.add (i * 2)).off + 1, none⟩ = some (.int .i64 (ed xs i).n) := by
  obtain ⟨ad, c, e, _, hK, hc0⟩ := Kd.C_get h edz (i : Int) (by omega) (by omega)
  have hc : ∀ j u, c[j]? = some u → w.cell? (ad.add (i * 2 + j)) = some u := fun j u h => by simpa [show kEd.sz = 2 from rfl] using hc0 j u h
  obtain rfl := kEd_open hK
  refine ⟨ad, e, hc 0 _ (by simp [ed]), ?_⟩
  rw [← add_field _ _ 1 (by omega)]
  exact hc 1 _ (by simp [ed])

/-- Go's own sum, which wraps. -/
def keptW (l : List Ed) : Int := l.foldl (fun s e => if e.kind = 1 then wrap64 (s + if e.n < 0 then 0 else e.n) else s) 0
theorem keptW_step {l : List Ed} {k : Nat} (h : k < l.length) : keptW (l.take (k + 1)) = if (ed l k).kind = 1 then wrap64 (keptW (l.take k) + if (ed l k).n < 0 then 0 else (ed l k).n) else keptW (l.take k) := by
  rw [List.take_succ_eq_append_getElem h, ← ed_eq h]
  unfold keptW
  rw [List.foldl_append]; rfl
theorem wrap64_wf (x : Int) : -9223372036854775808 ≤ wrap64 x ∧ wrap64 x ≤ 9223372036854775807 := by unfold wrap64; omega
theorem wrap_id {x : Int} (h0 : -9223372036854775808 ≤ x) (h1 : x ≤ 9223372036854775807) : wrap64 x = x := by
  unfold wrap64
  omega
theorem keptW_wf (l : List Ed) : wrap64 (keptW l) = keptW l := by
  have h : ∀ (l : List Ed) (s : Int), (-9223372036854775808 ≤ s ∧ s ≤ 9223372036854775807) → -9223372036854775808 ≤ l.foldl (fun s e => if e.kind = 1 then wrap64 (s + if e.n < 0 then 0 else e.n) else s) s ∧ l.foldl (fun s e => if e.kind = 1 then wrap64 (s + if e.n < 0 then 0 else e.n) else s) s ≤ 9223372036854775807 := by
    intro l
    induction l with
    | nil => intro s h; exact h
    | cons e l ih =>
      intro s h
      rw [List.foldl_cons]
      refine ih _ ?_
      by_cases he : e.kind = 1
      · rw [if_pos he]; exact wrap64_wf _
      · rw [if_neg he]; exact h
  have := h l 0 (by omega)
  exact wrap_id this.1 this.2
theorem ret_int {k : IntKind} {a b : Int} (h : a = b) : Ending.returned (.int k a) = .returned (.int k b) := by rw [h]

theorem kept_any (A0 : Option Addr) (c0 : Nat) (l : List Ed) (w : World) (hr0 : Kd.C kEd w A0 l.length l) :
    Calls Try.prog 12 #[.slice A0 l.length c0] w fun e w' => e = .returned (.int .i64 (keptW l)) ∧ Below w.heap.size w w' := by
  have HR0 := Aside0.mk hr0
  have b0 := hr0.2.1
  clear hr0
  go_enter Try.func12, Try.ntmps12
  go_wp2
  go_loopw [3, 8] (fun v3 v8 w' => ∃ k : Nat, k ≤ l.length ∧ v8 = .int .i64 k ∧ v3 = .int .i64 (keptW (l.take k)) ∧ Aside0 (Below w.heap.size w w')) (fun _ v8 _ => l.length - (intOf v8).toNat)
  case atStart => exact ⟨0, by omega, rfl, rfl, ⟨Below.refl _ _⟩⟩
  case round =>
    obtain ⟨k, hk, rfl, rfl, HB⟩ := hrel
    by_cases hlt : k < l.length
    · obtain ⟨ad0, rfl, hx0, hx1⟩ := at_ed (Kd.C_below HR0.out HB.out) k hlt
      by_cases he : (ed l k).kind = 1
      · have hb : ((ed l k).kind == 1) = true := by simpa using he
        have HS := Aside0.mk ((keptW_step hlt).trans (if_pos he))
        clear he
        go_wp2
        go_roundw
        case rel => exact ⟨k + 1, by omega, by go_num, by rw [HS.out], ⟨below_alloc HB.out _⟩⟩
        case measure => simp [intOf]; omega
      · have hb : ((ed l k).kind == 1) = false := by simpa using he
        have HS := Aside0.mk ((keptW_step hlt).trans (if_neg he))
        clear he
        go_wp2
        go_roundw
        case rel => exact ⟨k + 1, by omega, by go_num, by rw [HS.out], ⟨below_alloc HB.out _⟩⟩
        case measure => simp [intOf]; omega
    · go_wp2
      go_ret
      exact ⟨ret_int (by rw [List.take_of_length_le (by omega)]), HB.out⟩

theorem rkept_any (A0 : Option Addr) (c0 : Nat) (l : List Ed) (w : World) (hr0 : Kd.C kEd w A0 l.length l) :
    Calls Try.prog 13 #[.slice A0 l.length c0] w fun e w' => e = .returned (.int .i64 (keptW l)) ∧ Drawn0 w w' := by
  have HR0 := Aside0.mk hr0
  have b0 := hr0.2.1
  clear hr0
  go_enter Try.func13, Try.ntmps13
  go_wp2
  go_loopw [3, 4] (fun v3 v4 w' => ∃ k : Nat, k ≤ l.length ∧ v4 = .int .i64 k ∧ v3 = .int .i64 (keptW (l.take k)) ∧ Drawn0 w w') (fun _ v4 _ => l.length - (intOf v4).toNat)
  case atStart => exact ⟨0, by omega, rfl, rfl, Drawn0.refl _⟩
  case round =>
    obtain ⟨k, hk, rfl, rfl, ⟨m, rfl⟩⟩ := hrel
    by_cases hlt : k < l.length
    · obtain ⟨ad0, rfl, hx0, hx1⟩ := at_ed HR0.out k hlt
      by_cases he : (ed l k).kind = 1
      · have hb : ((ed l k).kind == 1) = true := by simpa using he
        have HS := Aside0.mk ((keptW_step hlt).trans (if_pos he))
        have HW := Aside0.mk (keptW_wf (l.take k))
        clear he
        by_cases hn : 0 < (ed l k).n
        · have hd : decide (0 < (ed l k).n) = true := by simpa using hn
          have HE : Aside0 (keptW (l.take (k + 1)) = wrap64 (keptW (l.take k) + (ed l k).n)) := ⟨by rw [HS.out, if_neg (by omega)]⟩
          clear hn
          go_wp2
          go_roundw
          case rel => exact ⟨k + 1, by omega, by go_num, by rw [HE.out], by repeat (first | exact Drawn0.refl _ | apply Drawn0.step)⟩
          case measure => simp [intOf]; omega
        · have hd : decide (0 < (ed l k).n) = false := by simpa using hn
          have HE : Aside0 (keptW (l.take (k + 1)) = keptW (l.take k)) := ⟨by
            rw [HS.out]
            by_cases h : (ed l k).n < 0
            · rw [if_pos h, Int.add_zero, HW.out]
            · rw [if_neg h, show (ed l k).n = 0 from by omega, Int.add_zero, HW.out]⟩
          clear hn
          go_wp2
          go_roundw
          case rel => exact ⟨k + 1, by omega, by go_num, by rw [HE.out], by repeat (first | exact Drawn0.refl _ | apply Drawn0.step)⟩
          case measure => simp [intOf]; omega
      · have hb : ((ed l k).kind == 1) = false := by simpa using he
        have HS := Aside0.mk ((keptW_step hlt).trans (if_neg he))
        clear he
        go_wp2
        go_roundw
        case rel => exact ⟨k + 1, by omega, by go_num, by rw [HS.out], by repeat (first | exact Drawn0.refl _ | apply Drawn0.step)⟩
        case measure => simp [intOf]; omega
    · go_wp2
      go_ret
      exact ⟨ret_int (by rw [List.take_of_length_le (by omega)]), by repeat (first | exact Drawn0.refl _ | apply Drawn0.step)⟩
/-! ### rows of the call's own, by natural numbers -/
section
variable {α : Type} {d : Kd α} {e base g n cap : Nat} {W : World} {ok okp : Nat → Prop} {xs : List α}
theorem R_elemN (h : d.R e W base ok (.slice (some ⟨g, 0, none⟩) n cap) xs) (z : α) (i : Nat) (h1 : i < n) :
    ∃ c, c.length = d.sz ∧ d.M W base (fun k => ok k ∧ k ≠ g) (xs.getD i z) c ∧ (∀ j u, c[j]? = some u → W.cell? ⟨g, i * d.sz + j, none⟩ = some u) ∧ ∀ j, W.frozen? ⟨g, i * d.sz + j, none⟩ = false := by
  simpa using Kd.R_elem h z (i : Int) (by omega) (by omega)
theorem R_segN (h : d.R e W base ok (.slice (some ⟨g, 0, none⟩) n cap) xs) (i : Nat) (h1 : i < n) {c seg : List Value} {j : Nat} (hcl : c.length = d.sz) (hcc : ∀ j u, c[j]? = some u → W.cell? ⟨g, i * d.sz + j, none⟩ = some u)
    (hj : j + seg.length ≤ d.sz) {x' : α} (hM : d.M W base okp x' (c.take j ++ seg ++ c.drop (j + seg.length))) (hokp : ∀ k, okp k → ok k ∧ k ≠ g) :
    d.R e (W.setCells g (i * d.sz + j) seg) base ok (.slice (some ⟨g, 0, none⟩) n cap) (xs.set i x') ∧ W.grownBy (W.setCells g (i * d.sz + j) seg) (some g) := by
  simpa using Kd.R_seg h (i : Int) (by omega) (by omega) hcl (by simpa using hcc) hj hM hokp
end

/-! ### one more place kept, or dropped -/
theorem info34 : (Try.prog.info? 34).map (fun i => (i.zero, i.size, i.bytes)) = some (some (.agg #[(.int .i64 0), (.int .i64 0)]), 2, 16) := by kernel_rfl
theorem info3 : (Try.prog.info? 3).map (fun i => (i.zero, i.size, i.bytes)) = some (some (.int .i64 0), 1, 8) := by kernel_rfl
theorem info22 : (Try.prog.info? 22).map (fun i => (i.zero, i.size, i.bytes)) = some (some (.slice none 0 0), 1, 24) := by kernel_rfl
def lastE (l : List Ed) : Ed := ed l (l.length - 1)
def addE (l : List Ed) (kd : Int) : List Ed :=
  if 0 < l.length ∧ (lastE l).kind = kd then l.set (l.length - 1) ⟨kd, (lastE l).n + 1⟩ else l ++ [⟨kd, 1⟩]
def AddPost (l : List Ed) (kd : Int) (v : Value) (w0 w : World) (e : Ending) (w' : World) : Prop :=
  ∃ v' : Value, e = .returned v' ∧ Kd.R kEd 34 w' w0.heap.size (fun _ => True) v' (addE l kd) ∧ Below w0.heap.size w0 w' ∧ w.grownBy w' v.ownBlock

theorem add_any (v : Value) (l : List Ed) (kd : Int) (w0 w : World) (hB : Below w0.heap.size w0 w) (hO : Kd.R kEd 34 w w0.heap.size (fun _ => True) v l) (hl : l.length ≤ 1000000) (hn : (lastE l).kind = kd → -1000000 ≤ (lastE l).n ∧ (lastE l).n ≤ 1000000) :
    Calls Try.prog 18 #[v, .int .i64 kd] w (AddPost l kd v w0 w) := by
  have HB := Aside0.mk hB
  have HO := Aside0.mk hO
  have HN := Aside0.mk hn
  clear hB hO hn
  have hu34 := Try.underlying34
  by_cases h0 : 0 < l.length
  · have hd : decide (0 < l.length) = true := decide_eq_true h0
    have hsub : (0 : Int) ≤ (l.length : Int) - 1 := by omega
    obtain ⟨g, cap, rfl, hbg, -⟩ := Kd.R_form HO.out h0
    obtain ⟨c, hcl, hM, hcc, hfr⟩ := R_elemN HO.out edz (l.length - 1) (by omega)
    have HG := Aside0.mk hbg
    obtain rfl := kEd_openM hM
    have hx0 : w.cell? ⟨g, (l.length - 1) * 2, none⟩ = some (.int .i64 (lastE l).kind) := hcc 0 _ rfl
    have hx1 : w.cell? ⟨g, (l.length - 1) * 2 + 1, none⟩ = some (.int .i64 (lastE l).n) := hcc 1 _ rfl
    have hf1 : w.frozen? ⟨g, (l.length - 1) * 2 + 1, none⟩ = false := hfr 1
    by_cases he : (lastE l).kind = kd
    · have hb : ((lastE l).kind == kd) = true := by simpa using he
      have HE : Aside0 (addE l kd = l.set (l.length - 1) ⟨kd, (lastE l).n + 1⟩) := ⟨by unfold addE; rw [if_pos ⟨h0, he⟩]⟩
      have hr := HN.out he
      have h1 := hr.1
      have h2 := hr.2
      have HP := Aside0.mk (R_segN HO.out (l.length - 1) (by omega) (seg := [.int .i64 ((lastE l).n + 1)]) (j := 1) hcl hcc (Nat.le_refl 2) (x' := ⟨kd, (lastE l).n + 1⟩) (okp := fun _ => False) (by rw [← he]; exact kEd_mkM _ _ _ ⟨_, _⟩) (fun _ h => h.elim))
      clear hcc hfr hM hr he hbg hcl
      go_enter Try.func18, Try.ntmps18
      go_wp2
      go_ret
      exact ⟨_, rfl, by rw [HE.out]; exact HP.out.1, below_set HB.out HG.out, HP.out.2⟩
    · have hb : ((lastE l).kind == kd) = false := by simpa using he
      have HE : Aside0 (addE l kd = l ++ [⟨kd, 1⟩]) := ⟨by unfold addE; rw [if_neg (fun h => he h.2)]⟩
      clear hcc hfr hM he hbg hcl
      go_enter Try.func18, Try.ntmps18
      go_wp2_with (at_builtin; refine Kd.R_append kEd (w0 := w0) w0.heap.size rfl (.tmp 30) (.tmp 33) 23 34 _ 16 rfl Try.underlying23 info34 rfl (by decide) (by omega) _ l ⟨kd, 1⟩ [_, _] (fun _ => True) (fun _ => False) rfl rfl (kEd_mkM _ _ _ _) (fun _ h => h.elim) (fun _ _ => trivial) HO.out HB.out HB.out.size (by omega) ?_; intro v1 w1 ho hb hg hat)
      go_ret
      exact ⟨_, rfl, by rw [HE.out]; exact ho, hb, hg⟩
  · have hd : decide (0 < l.length) = false := decide_eq_false h0
    have HE : Aside0 (addE l kd = l ++ [⟨kd, 1⟩]) := ⟨by unfold addE; rw [if_neg (fun h => h0 h.1)]⟩
    obtain ⟨A, c, rfl⟩ := Kd.R_slice HO.out
    clear h0
    go_enter Try.func18, Try.ntmps18
    go_wp2_with (at_builtin; refine Kd.R_append kEd (w0 := w0) w0.heap.size rfl (.tmp 30) (.tmp 33) 23 34 _ 16 rfl Try.underlying23 info34 rfl (by decide) (by omega) _ l ⟨kd, 1⟩ [_, _] (fun _ => True) (fun _ => False) rfl rfl (kEd_mkM _ _ _ _) (fun _ h => h.elim) (fun _ _ => trivial) HO.out HB.out HB.out.size (by omega) ?_; intro v1 w1 ho hb hg hat)
    go_ret
    exact ⟨_, rfl, by rw [HE.out]; exact ho, hb, hg⟩
/-! ### the longest common part -/
theorem rd_drop (a : List Int) (i : Nat) (h1 : i < a.length) : a.drop i = rd a (i : Int) :: a.drop (i + 1) := by
  rw [List.drop_eq_getElem_cons h1, rd_eq h1]
theorem rd_take (a : List Int) (i : Nat) (h1 : i < a.length) : a.take (i + 1) = a.take i ++ [rd a (i : Int)] := by
  rw [List.take_succ_eq_append_getElem h1, rd_eq h1]
def lcs : List Int → List Int → Nat
  | [], _ => 0
  | _ :: _, [] => 0
  | x :: xs, y :: ys => if x = y then lcs xs ys + 1 else max (lcs xs (y :: ys)) (lcs (x :: xs) ys)
termination_by a b => a.length + b.length
theorem lcs_nil_left (b : List Int) : lcs [] b = 0 := by unfold lcs; rfl
theorem lcs_nil_right (a : List Int) : lcs a [] = 0 := by cases a <;> (unfold lcs; rfl)
theorem lcs_cons (x : Int) (xs : List Int) (y : Int) (ys : List Int) : lcs (x :: xs) (y :: ys) = if x = y then lcs xs ys + 1 else max (lcs xs (y :: ys)) (lcs (x :: xs) ys) := by
  rw [lcs]
theorem lcs_le : ∀ (n : Nat) (a b : List Int), a.length + b.length ≤ n → lcs a b ≤ a.length ∧ lcs a b ≤ b.length := by
  intro n
  induction n with
  | zero =>
    intro a b h
    cases a with
    | nil => rw [lcs_nil_left]; simp
    | cons x xs => simp at h
  | succ n ih =>
    intro a b h
    cases a with
    | nil => rw [lcs_nil_left]; simp
    | cons x xs =>
      cases b with
      | nil => rw [lcs_nil_right]; simp
      | cons y ys =>
        simp only [List.length_cons] at h
        have h1 := ih xs ys (by omega)
        have h2 := ih xs (y :: ys) (by simp only [List.length_cons]; omega)
        have h3 := ih (x :: xs) ys (by simp only [List.length_cons]; omega)
        simp only [List.length_cons] at h2 h3 ⊢
        rw [lcs_cons]
        split <;> omega
theorem lcs_le_left (a b : List Int) : lcs a b ≤ a.length := (lcs_le _ a b (Nat.le_refl _)).1
theorem lcs_le_right (a b : List Int) : lcs a b ≤ b.length := (lcs_le _ a b (Nat.le_refl _)).2
/-- The table's entry. -/
def Lc (a b : List Int) (i j : Nat) : Int := (lcs (a.drop i) (b.drop j) : Int)
theorem Lc_last_left (a b : List Int) (i j : Nat) (h : a.length ≤ i) : Lc a b i j = 0 := by
  unfold Lc
  rw [List.drop_eq_nil_of_le h, lcs_nil_left]; rfl
theorem Lc_last_right (a b : List Int) (i j : Nat) (h : b.length ≤ j) : Lc a b i j = 0 := by
  unfold Lc
  rw [show b.drop j = [] from List.drop_eq_nil_of_le h, lcs_nil_right]; rfl
theorem Lc_eq {a b : List Int} {i j : Nat} (h1 : i < a.length) (h3 : j < b.length) (h : rd a (i : Int) = rd b (j : Int)) : Lc a b i j = Lc a b (i + 1) (j + 1) + 1 := by
  unfold Lc
  rw [rd_drop a i h1, rd_drop b j h3, lcs_cons, if_pos h]
  omega
theorem Lc_ne {a b : List Int} {i j : Nat} (h1 : i < a.length) (h3 : j < b.length) (h : rd a (i : Int) ≠ rd b (j : Int)) : Lc a b i j = max (Lc a b (i + 1) j) (Lc a b i (j + 1)) := by
  unfold Lc
  rw [rd_drop a i h1, rd_drop b j h3, lcs_cons, if_neg h]
  omega
theorem Lc_bound (a b : List Int) (i j : Nat) : 0 ≤ Lc a b i j ∧ Lc a b i j ≤ (a.length : Int) := by
  unfold Lc
  have h := lcs_le_left (a.drop i) (b.drop j)
  rw [List.length_drop] at h
  omega

/-! ### the table -/
def row (t : List (List Int)) (i : Nat) : List Int := t.getD i []
def Gt (t : List (List Int)) (i j : Nat) : Int := rd (row t i) (j : Int)
def Sh (t : List (List Int)) (n m : Nat) : Prop := t.length = n + 1 ∧ ∀ i : Nat, i ≤ n → (row t i).length = m + 1
theorem row_set (t : List (List Int)) (i i' : Nat) (r : List Int) (h1 : i < t.length) : row (t.set i r) i' = if i' = i then r else row t i' := by
  unfold row
  rw [List.getD_eq_getElem?_getD, List.getD_eq_getElem?_getD, List.getElem?_set]
  by_cases e : i' = i
  · subst e
    rw [if_pos rfl, if_pos h1, if_pos rfl]; rfl
  · rw [if_neg (by omega), if_neg e]
theorem rd_set (l : List Int) (i i' : Nat) (v : Int) (h1 : i < l.length) : rd (l.set i v) (i' : Int) = if i' = i then v else rd l (i' : Int) := by
  unfold rd
  rw [List.getD_eq_getElem?_getD, List.getD_eq_getElem?_getD, List.getElem?_set, Int.toNat_natCast]
  by_cases e : i' = i
  · subst e
    rw [if_pos rfl, if_pos h1, if_pos rfl]; rfl
  · rw [if_neg (by omega), if_neg e]
theorem Gt_set {t : List (List Int)} {n m i j : Nat} (hs : Sh t n m) (v : Int) (h1 : i ≤ n) (h3 : j ≤ m) (i' j' : Nat) :
    Gt (t.set i ((row t i).set j v)) i' j' = if i' = i ∧ j' = j then v else Gt t i' j' := by
  have hl := hs.2 i h1
  unfold Gt
  rw [row_set t i i' _ (by have := hs.1; omega)]
  by_cases e : i' = i
  · subst e
    rw [if_pos rfl, rd_set _ j j' v (by omega)]
    by_cases e2 : j' = j
    · rw [if_pos e2, if_pos ⟨rfl, e2⟩]
    · rw [if_neg e2, if_neg (fun h => e2 h.2)]
  · rw [if_neg e, if_neg (fun h => e h.1)]
theorem Sh_set {t : List (List Int)} {n m i j : Nat} (hs : Sh t n m) (v : Int) (h1 : i ≤ n) : Sh (t.set i ((row t i).set j v)) n m := by
  refine ⟨by rw [List.length_set]; exact hs.1, fun i' h3 => ?_⟩
  rw [row_set t i i' _ (by have := hs.1; omega)]
  by_cases e : i' = i
  · rw [if_pos e, List.length_set]; exact hs.2 i h1
  · rw [if_neg e]; exact hs.2 i' h3
/-- Every entry is what it should be. -/
def Full (a b : List Int) (t : List (List Int)) : Prop := Sh t a.length b.length ∧ ∀ i j : Nat, i ≤ a.length → j ≤ b.length → Gt t i j = Lc a b i j
/-- Entries below row i, and of row i right of j, are filled; the last column is zero. -/
def Part (a b : List Int) (t : List (List Int)) (i j : Int) : Prop := Sh t a.length b.length ∧ (∀ i' j' : Nat, i' ≤ a.length → j' ≤ b.length → (i < i' ∨ (i' : Int) = i ∧ j < j') → Gt t i' j' = Lc a b i' j') ∧ ∀ i' : Nat, i' ≤ a.length → Gt t i' b.length = 0
theorem part_step {a b : List Int} {t : List (List Int)} {i j : Nat} (h : Part a b t i j) (h1 : i < a.length) (h3 : j < b.length) :
    Part a b (t.set i ((row t i).set j (Lc a b i j))) i ((j : Int) - 1) := by
  obtain ⟨hs, hf, hz⟩ := h
  refine ⟨Sh_set hs _ (by omega), fun i' j' g1 g3 g4 => ?_, fun i' g1 => ?_⟩
  · rw [Gt_set hs _ (by omega) (by omega) i' j']
    by_cases e : i' = i ∧ j' = j
    · rw [if_pos e, e.1, e.2]
    · rw [if_neg e]
      exact hf i' j' g1 g3 (by omega)
  · rw [Gt_set hs _ (by omega) (by omega) i' _, if_neg (by omega)]
    exact hz i' g1
theorem part_next {a b : List Int} {t : List (List Int)} {i j : Int} (h : Part a b t i j) (hj : j < 0) : Part a b t (i - 1) ((b.length : Int) - 1) := by
  obtain ⟨hs, hf, hz⟩ := h
  refine ⟨hs, fun i' j' g1 g3 g4 => ?_, hz⟩
  rcases g4 with g4 | g4
  · exact hf i' j' g1 g3 (by omega)
  · have : j' = b.length := by omega
    rw [this, hz i' g1, Lc_last_right _ _ _ _ (by omega)]
theorem part_full {a b : List Int} {t : List (List Int)} {i j : Int} (h : Part a b t i j) (hi : i < 0) : Full a b t :=
  ⟨h.1, fun i' j' g1 g3 => h.2.1 i' j' g1 g3 (by omega)⟩
theorem part_first (a b : List Int) (t : List (List Int)) (h : t = List.replicate (a.length + 1) (List.replicate (b.length + 1) 0)) : Part a b t ((a.length : Int) - 1) ((b.length : Int) - 1) := by
  subst h
  have hr : ∀ i, i ≤ a.length → row (List.replicate (a.length + 1) (List.replicate (b.length + 1) (0 : Int))) i = List.replicate (b.length + 1) 0 := by
    intro i hi
    unfold row
    rw [List.getD_eq_getElem?_getD, List.getElem?_replicate, if_pos (by omega)]; rfl
  have hg : ∀ i j, i ≤ a.length → j ≤ b.length → Gt (List.replicate (a.length + 1) (List.replicate (b.length + 1) (0 : Int))) i j = 0 := by
    intro i j hi hj
    unfold Gt rd
    rw [hr i hi, List.getD_eq_getElem?_getD, List.getElem?_replicate, if_pos (by omega)]; rfl
  refine ⟨⟨by simp, fun i hi => by rw [hr i hi]; simp⟩, fun i j hi hj h => ?_, fun i hi => hg i _ hi (Nat.le_refl _)⟩
  rw [hg i j hi hj]
  rcases h with h | h
  · rw [Lc_last_left _ _ _ _ (by omega)]
  · rw [Lc_last_right _ _ _ _ (by omega)]
/-! ### a grid of the call's own -/
abbrev kGrid : Kd (List Int) := Kd.slice 3 (Kd.int .i64)
theorem grid_at {W : World} {base g n cap : Nat} {ok : Nat → Prop} {t : List (List Int)} (h : Kd.S kGrid 22 W base ok (.slice (some ⟨g, 0, none⟩) n cap) t) (i j : Nat) (hi : i < n) (hj : j < (row t i).length) :
    ∃ gi ci, W.cell? ⟨g, i, none⟩ = some (.slice (some ⟨gi, 0, none⟩) (row t i).length ci) ∧ (∀ k, k < (row t i).length → W.cell? ⟨gi, k, none⟩ = some (.int .i64 (rd (row t i) (k : Int)))) ∧ W.frozen? ⟨gi, j, none⟩ = false ∧ base ≤ gi ∧
      ∀ v (W' : World), W'.heap = W.heap → Kd.S kGrid 22 (W'.setCell ⟨gi, j, none⟩ (.int .i64 v)) base ok (.slice (some ⟨g, 0, none⟩) n cap) (t.set i ((row t i).set j v)) := by
  obtain ⟨oki, c, hcl, hM, hcc, hoki, hH⟩ := Kd.S_lend h ([] : List Int) (i : Int) (by omega) (by omega)
  obtain ⟨u, rfl, hR⟩ := hM
  rw [Int.toNat_natCast] at hR hcc
  have hR' : (Kd.int .i64).R 3 W base oki u (row t i) := hR
  obtain ⟨gi, ci, rfl, hb, hlt, cells, hcells⟩ := Kd.R_form hR' (by omega)
  refine ⟨gi, ci, ?_, fun k hk => ?_, ?_, hb, fun v W' hW' => ?_⟩
  · have := hcc 0 _ rfl
    simpa [show (kGrid).sz = 1 from rfl] using this
  · obtain ⟨c, hcl, hM, hcc, hfr⟩ := R_elemN hR' 0 k hk
    obtain rfl : c = [.int .i64 ((row t i).getD k 0)] := hM
    have := hcc 0 _ rfl
    simpa [show (Kd.int .i64).sz = 1 from rfl, rd] using this
  · obtain ⟨c, hcl, hM, hcc, hfr⟩ := R_elemN hR' 0 j hj
    simpa [show (Kd.int .i64).sz = 1 from rfl] using hfr 0
  · obtain ⟨c, hcl', hM, hcc', hfr⟩ := R_elemN hR' 0 j hj
    obtain ⟨hs, hg⟩ := R_segN hR' j hj (seg := [.int .i64 v]) (j := 0) hcl' hcc' (Nat.le_refl 1) (x' := v) (okp := fun _ => False) (by simp [hcl', show (Kd.int .i64).sz = 1 from rfl, List.drop_eq_nil_of_le]; rfl) (fun _ h => h.elim)
    have e : W.setCells gi (j * (Kd.int .i64).sz + 0) [.int .i64 v] = W.setCell ⟨gi, j, none⟩ (.int .i64 v) := by
      rw [show (Kd.int .i64).sz = 1 from rfl, Nat.mul_one]; rfl
    rw [e] at hs hg
    have hgi : oki gi := hR'.1 gi (by simp [Value.ownBlock])
    have hH' := Kd.H_grown hH hg (fun k hk => by injection hk with hk; subst hk; exact hgi)
    have := Kd.H_back hH' (x' := (row t i).set j v) (okp := oki) ⟨_, by simp, hs⟩ (fun _ h => h)
    rw [Int.toNat_natCast] at this
    exact Kd.S_move this (fun k _ => by unfold World.setCell; rw [hW'])
theorem grid_put {W : World} {base g n cap : Nat} {t : List (List Int)} {u : Value} {r : List Int} (h : Kd.S kGrid 22 W base (fun k => True ∧ some k ≠ u.ownBlock) (.slice (some ⟨g, 0, none⟩) n cap) t) (hu : (Kd.int .i64).R 3 W base (fun _ => True) u r) (hlt : ∀ k, u.ownBlock = some k → k ≠ g) (i : Nat) (hi : i < n) :
    (∃ x, W.cell? ⟨g, i, none⟩ = some x) ∧ W.frozen? ⟨g, i, none⟩ = false ∧ Kd.S kGrid 22 (W.setCell ⟨g, i, none⟩ u) base (fun _ => True) (.slice (some ⟨g, 0, none⟩) n cap) (t.set i r) := by
  obtain ⟨c, hcl, hM, hcc, hfr⟩ := R_elemN (Kd.S_R h) ([] : List Int) i hi
  have h1 : (kGrid).sz = 1 := rfl
  rw [h1] at hcl hcc hfr
  refine ⟨⟨c[0]'(by omega), by simpa using hcc 0 _ (List.getElem?_eq_getElem (by omega))⟩, by simpa using hfr 0, ?_⟩
  obtain ⟨oki, c, hcl, hM, hcc, hoki, hH⟩ := Kd.S_lend (Kd.S_mono (ok' := fun k => True ∧ ¬ some k = u.ownBlock) h (fun k hk => ⟨trivial, hk.2⟩)) ([] : List Int) (i : Int) (by omega) (by omega)
  have hp := (Kd.S_seg hH (by omega) (by omega) (seg := [u]) (j := 0) (Nat.le_refl 1) (x' := r) (okp := fun k => some k = u.ownBlock) ⟨u, by rw [h1] at hcl; simp [hcl, List.drop_eq_nil_of_le], Kd.R_tight rfl hu⟩ (fun k hk => .inr hk) (fun k hk => ⟨trivial, hlt k hk.symm⟩)).1
  have e : W.setCells g ((i : Int).toNat * (kGrid).sz + 0) [u] = W.setCell ⟨g, i, none⟩ u := by
    rw [h1, Nat.mul_one, Int.toNat_natCast]; rfl
  rw [e] at hp
  simpa using hp
theorem repl_set (n k : Nat) (z : List Int) (h : k < n) : (List.replicate k z ++ List.replicate (n - k) []).set k z = List.replicate (k + 1) z ++ List.replicate (n - (k + 1)) [] := by
  rw [List.set_append_right _ _ (by simp), List.length_replicate, Nat.sub_self, show n - k = (n - (k + 1)) + 1 from by omega, List.replicate_succ (n := n - (k + 1)), List.set_cons_zero, List.replicate_succ', List.append_assoc]
  rfl
/-- A row that is elder than what was made just now. -/
theorem S_elder {α : Type} {d : Kd α} {e base : Nat} {ok : Nat → Prop} {W w1 : World} {u v1 : Value} {xs : List α} (h : Kd.S d e W base ok u xs) (hg : W.grownBy w1 none) (hn : ∃ b, v1.ownBlock = some b ∧ W.heap.size ≤ b) :
    Kd.S d e w1 base (fun k => True ∧ some k ≠ v1.ownBlock) u xs := by
  obtain ⟨b, hb, hle⟩ := hn
  refine Kd.S_mono (Kd.S_grown (Kd.S_bound h) hg (fun k _ => by simp)) (fun k hk => ⟨trivial, fun he => ?_⟩)
  rw [hb] at he
  injection he with he
  have := hk.2.2.1
  omega
end Go.Proofs.Ytapoajpmmfddmaa.Sc
