/- Part 3 of the texts that YtglfebpgdghlfaaDoorRowRK rests on, joined by a program: what its functions come to. Conditions: those that each theorem states. -/
import Derived.Test.YtglfebpgdghlfaaDoorQkb
set_option linter.unusedVariables false
set_option linter.unusedSimpArgs false
section
namespace Go.Proofs.YtglfebpgdghlfaaDoor.L
open Go.RowKit Go.ChangeShapes Go.WideShapes Go.Proofs.YtglfebpgdghlfaaDoorW.PrintWords Go.Proofs.YtglfebpgdghlfaaDoorW.PrintLast Go.Proofs.YtglfebpgdghlfaaDoorW.PrintMore
attribute [local go_sem] max2_int min2_int max_two min_two max_three min_three max_four min_four
set_option maxHeartbeats 1000000 in
theorem ints_any (n : Nat) (c : Int) (w : World) (h1 : 1 ≤ n) (h2 : n ≤ 1000000) : Calls Tryd.prog 67 #[.int .i64 n, .int .i64 c] w fun e w' => ∃ A d, e = .returned (.slice A n d) ∧ n ≤ d ∧ (Kd.int .i64).R 3 w' w.heap.size (fun _ => True) (.slice A n d) (List.replicate n c) ∧ Below w.heap.size w w' := by
  have HB := Aside0.mk (Below.refl w.heap.size w)
  go_enter Tryd.func67, Tryd.ntmps67
  go_wp2_with fail
  refine (repeat_int ⟨w.heap.size, 0, none⟩ 1 c n _ (by simp) h1 h2).mono ?_
  rintro e w1 ⟨A, d, rfl, hR, hB⟩
  rw [List.length_replicate] at hR ⊢
  have HR := Aside0.mk (Kd.R_lower (base' := w.heap.size) hR (by simp))
  have HD := Aside0.mk (Kd.R_reads' hR).2.1
  have HB1 := Aside0.mk (below_step (below_alloc HB.out (.cells #[.int .i64 c] 3)) hB)
  clear hR hB
  go_wp2
  go_ret
  exact ⟨_, _, rfl, HD.out, HR.out, HB1.out⟩
def newTab : List Spec := [specz, ⟨[], 1, 0, -1⟩, ⟨[2, 2, 2], 0, 1, 1⟩, ⟨[3, 3, 3], 1, 0, 0⟩, ⟨[3], 1, 0, 0⟩, ⟨[3], 2, 0, 0⟩, ⟨[1], 0, 0, -1⟩, ⟨[4, 4, 4, 5], 0, 0, 0⟩, ⟨[2, 2, 2], 0, 1, 1⟩]
theorem Lits.cons {α : Type} {d : Kd α} {W : World} {p : α} {ps : List α} {c r : List Value} (hk : d.K W p c) (h : Lits d W ps r) : Lits d W (p :: ps) (c ++ r) := ⟨c, r, rfl, hk, h⟩
theorem Lits.nil {α : Type} {d : Kd α} {W : World} : Lits d W [] [] := rfl
def Past (b : Nat) (A : Option Addr) : Prop := ∀ ad, A = some ad → b < ad.block
theorem Past.none (b : Nat) : Past b none := fun _ h => by cases h
theorem Past.of_R {α : Type} {d : Kd α} {e B b n c : Nat} {w : World} {ok : Nat → Prop} {A : Option Addr} {xs : List α} (h : d.R e w B ok (.slice A n c) xs) (hb : b < B) : Past b A := fun ad he => by
  subst he
  have := Kd.R_base h ad.block rfl
  omega
theorem C_int_far {W : World} {A : Option Addr} {n b i : Nat} {k : IntKind} {xs : List Int} (h : (Kd.int k).C W A n xs) (hp : Past b A) (u : Value) : (Kd.int k).C (W.setCell ⟨b, i, none⟩ u) A n xs := by
  refine ⟨h.1, h.2.1, fun hn => ?_⟩
  obtain ⟨ad, rfl, hc⟩ := h.2.2 hn
  refine ⟨ad, rfl, fun j p hj => ?_⟩
  obtain ⟨c, h1, h2, h3⟩ := hc j p hj
  exact ⟨c, h1, h2, fun q u' hu => far_set (h3 q u' hu) b i (by rw [add_block]; have := hp ad rfl; omega) u⟩
theorem SpecC.far4 {W : World} {s : Spec} {A : Option Addr} {c b : Nat} (h : SpecC W s A c) (hp : Past b A) (u0 u1 u2 u3 : Value) : SpecC ((((W.setCell ⟨b, 0, none⟩ u0).setCell ⟨b, 1, none⟩ u1).setCell ⟨b, 2, none⟩ u2).setCell ⟨b, 3, none⟩ u3) s A c :=
  ⟨h.l, C_int_far (C_int_far (C_int_far (C_int_far h.i hp _) hp _) hp _) hp _⟩
set_option maxRecDepth 100000 in
set_option maxHeartbeats 4000000 in
theorem new_any (k : Int) (w : World) : Calls Tryd.prog 89 #[.int .i64 k] w (SpecPost (Past w.heap.size) (findS newTab k) w) := by
  have HB0 := Aside0.mk (below_alloc (Below.refl w.heap.size w) (.cells #[.slice none 0 0, .int .i64 0, .int .i64 0, .int .i64 0] 66))
  have HZ0 := Aside0.mk (show w.heap.size < (w.alloc (.cells #[.slice none 0 0, .int .i64 0, .int .i64 0, .int .i64 0] 66)).heap.size from by simp)
  have HL0 := Aside0.mk (show Lives 4 w.heap.size (w.alloc (.cells #[.slice none 0 0, .int .i64 0, .int .i64 0, .int .i64 0] 66)) from Lives.new w #[.slice none 0 0, .int .i64 0, .int .i64 0, .int .i64 0] 66)
  have hu := Tryd.underlying66
  go_enter Tryd.func89, Tryd.ntmps89
  go_wp2_with fail
  refine (ints_any 3 2 _ (by omega) (by omega)).mono ?_
  rintro e w1 ⟨A1, d1, rfl, hd1, hR1, hB1⟩
  have HG1 := Aside0.mk (Past.of_R hR1 HZ0.out)
  have HR1 := Aside0.mk (Kd.R_reads' hR1).2.2
  have HD1 := Aside0.mk hd1
  have HB1 := Aside0.mk (below_step HB0.out hB1)
  have HZ1 := Aside0.mk (Nat.lt_of_lt_of_le HZ0.out hB1.size)
  have HL1 := Aside0.mk (Lives.below HL0.out hB1)
  clear hR1 hB1 hd1 HB0 HL0 HZ0
  go_wp2_with fail
  refine (ints_any 3 3 _ (by omega) (by omega)).mono ?_
  rintro e w2 ⟨A2, d2, rfl, hd2, hR2, hB2⟩
  have HG2 := Aside0.mk (Past.of_R hR2 HZ1.out)
  have HR2 := Aside0.mk (Kd.R_reads' hR2).2.2
  have HD2 := Aside0.mk hd2
  replace HR1 := Aside0.mk (Kd.C_below HR1.out hB2)
  have HB2 := Aside0.mk (below_step HB1.out hB2)
  have HZ2 := Aside0.mk (Nat.lt_of_lt_of_le HZ1.out hB2.size)
  have HL2 := Aside0.mk (Lives.below HL1.out hB2)
  clear hR2 hB2 hd2 HB1 HL1 HZ1
  go_wp2_with fail
  refine (ints_any 1 3 _ (by omega) (by omega)).mono ?_
  rintro e w3 ⟨A3, d3, rfl, hd3, hR3, hB3⟩
  have HG3 := Aside0.mk (Past.of_R hR3 HZ2.out)
  have HR3 := Aside0.mk (Kd.R_reads' hR3).2.2
  have HD3 := Aside0.mk hd3
  replace HR1 := Aside0.mk (Kd.C_below HR1.out hB3)
  replace HR2 := Aside0.mk (Kd.C_below HR2.out hB3)
  have HB3 := Aside0.mk (below_step HB2.out hB3)
  have HZ3 := Aside0.mk (Nat.lt_of_lt_of_le HZ2.out hB3.size)
  have HL3 := Aside0.mk (Lives.below HL2.out hB3)
  clear hR3 hB3 hd3 HB2 HL2 HZ2
  go_wp2_with fail
  refine (ints_any 1 3 _ (by omega) (by omega)).mono ?_
  rintro e w4 ⟨A4, d4, rfl, hd4, hR4, hB4⟩
  have HG4 := Aside0.mk (Past.of_R hR4 HZ3.out)
  have HR4 := Aside0.mk (Kd.R_reads' hR4).2.2
  have HD4 := Aside0.mk hd4
  replace HR1 := Aside0.mk (Kd.C_below HR1.out hB4)
  replace HR2 := Aside0.mk (Kd.C_below HR2.out hB4)
  replace HR3 := Aside0.mk (Kd.C_below HR3.out hB4)
  have HB4 := Aside0.mk (below_step HB3.out hB4)
  have HZ4 := Aside0.mk (Nat.lt_of_lt_of_le HZ3.out hB4.size)
  have HL4 := Aside0.mk (Lives.below HL3.out hB4)
  clear hR4 hB4 hd4 HB3 HL3 HZ3
  go_wp2_with fail
  refine (ints_any 1 1 _ (by omega) (by omega)).mono ?_
  rintro e w5 ⟨A5, d5, rfl, hd5, hR5, hB5⟩
  have HG5 := Aside0.mk (Past.of_R hR5 HZ4.out)
  have HR5 := Aside0.mk (Kd.R_reads' hR5).2.2
  have HD5 := Aside0.mk hd5
  replace HR1 := Aside0.mk (Kd.C_below HR1.out hB5)
  replace HR2 := Aside0.mk (Kd.C_below HR2.out hB5)
  replace HR3 := Aside0.mk (Kd.C_below HR3.out hB5)
  replace HR4 := Aside0.mk (Kd.C_below HR4.out hB5)
  have HB5 := Aside0.mk (below_step HB4.out hB5)
  have HZ5 := Aside0.mk (Nat.lt_of_lt_of_le HZ4.out hB5.size)
  have HL5 := Aside0.mk (Lives.below HL4.out hB5)
  clear hR5 hB5 hd5 HB4 HL4 HZ4
  go_wp2_with fail
  refine (ints_any 3 4 _ (by omega) (by omega)).mono ?_
  rintro e w6 ⟨A6, d6, rfl, hd6, hR6, hB6⟩
  have HO := Aside0.mk hR6
  have HBo := Aside0.mk hB6
  clear hR6 hB6 hd6
  go_wp2_with (at_builtin; refine Kd.R_append_rows (Kd.int .i64) (Rr := fun x cs => cs = [.int .i64 x]) (w0 := w5) w5.heap.size rfl (.tmp 15) (.tmp 16) 24 3 (.int .i64 0) 8 rfl Tryd.underlying24 info_int rfl (by decide) (by omega) (.slice A6 3 d6) (List.replicate 3 4) [5] _ _ _ (fun _ => True) (fun _ => False) rfl rfl (Kd.R_alloc HO.out (.cells #[.int .i64 5] 3)) (C_ints w6 3 _ rfl [5] (by decide) rfl) (fun _ _ h => h) (fun _ h => h.elim) (fun _ _ => trivial) (below_alloc HBo.out _) (below_alloc HBo.out _).size (by simp) ?_; intro v5 wx hR5 hB5 _ _; obtain ⟨Ax, dx, rfl⟩ := Kd.R_slice hR5; have HRx := Aside0.mk (show (Kd.int .i64).R 3 wx w5.heap.size (fun _ => True) (.slice Ax 4 dx) [4, 4, 4, 5] from hR5); have HBx := Aside0.mk hB5; clear hR5 hB5)
  have hR6 := HRx.out
  have hB6 := HBx.out
  have hd6 := (Kd.R_reads' HRx.out).2.1
  have HG6 := Aside0.mk (Past.of_R hR6 HZ5.out)
  have HR6 := Aside0.mk (Kd.R_reads' hR6).2.2
  have HD6 := Aside0.mk hd6
  replace HR1 := Aside0.mk (Kd.C_below HR1.out hB6)
  replace HR2 := Aside0.mk (Kd.C_below HR2.out hB6)
  replace HR3 := Aside0.mk (Kd.C_below HR3.out hB6)
  replace HR4 := Aside0.mk (Kd.C_below HR4.out hB6)
  replace HR5 := Aside0.mk (Kd.C_below HR5.out hB6)
  have HB6 := Aside0.mk (below_step HB5.out hB6)
  have HZ6 := Aside0.mk (Nat.lt_of_lt_of_le HZ5.out hB6.size)
  have HL6 := Aside0.mk (Lives.below HL5.out hB6)
  clear hR6 hB6 hd6 HB5 HL5 HZ5
  go_wp2_with fail
  refine (ints_any 3 2 _ (by omega) (by omega)).mono ?_
  rintro e w7 ⟨A7, d7, rfl, hd7, hR7, hB7⟩
  have HG7 := Aside0.mk (Past.of_R hR7 HZ6.out)
  have HR7 := Aside0.mk (Kd.R_reads' hR7).2.2
  have HD7 := Aside0.mk hd7
  replace HR1 := Aside0.mk (Kd.C_below HR1.out hB7)
  replace HR2 := Aside0.mk (Kd.C_below HR2.out hB7)
  replace HR3 := Aside0.mk (Kd.C_below HR3.out hB7)
  replace HR4 := Aside0.mk (Kd.C_below HR4.out hB7)
  replace HR5 := Aside0.mk (Kd.C_below HR5.out hB7)
  replace HR6 := Aside0.mk (Kd.C_below HR6.out hB7)
  have HB7 := Aside0.mk (below_step HB6.out hB7)
  have HZ7 := Aside0.mk (Nat.lt_of_lt_of_le HZ6.out hB7.size)
  have HL7 := Aside0.mk (Lives.below HL6.out hB7)
  clear hR7 hB7 hd7 HB6 HL6 HZ6
  go_wp2_with fail
  refine (find_any (Past w.heap.size) (Past.none _) (some ⟨w7.heap.size, 0, none⟩) 9 newTab k _ (C_lits (kSpecG (Past w.heap.size)) w7 _ _ rfl newTab _ (Lits.cons (kSpecG_mk (A := none) (c := 0) (n := 0) rfl (Nat.le_refl 0) (C_nil _ _) (Past.none _) rfl rfl rfl) (Lits.cons (kSpecG_mk (A := none) (c := 0) (n := 0) rfl (Nat.le_refl 0) (C_nil _ _) (Past.none _) rfl rfl rfl) (Lits.cons (kSpecG_mk (n := 3) rfl HD1.out HR1.out HG1.out rfl rfl rfl) (Lits.cons (kSpecG_mk (n := 3) rfl HD2.out HR2.out HG2.out rfl rfl rfl) (Lits.cons (kSpecG_mk (n := 1) rfl HD3.out HR3.out HG3.out rfl rfl rfl) (Lits.cons (kSpecG_mk (n := 1) rfl HD4.out HR4.out HG4.out rfl rfl rfl) (Lits.cons (kSpecG_mk (n := 1) rfl HD5.out HR5.out HG5.out rfl rfl rfl) (Lits.cons (kSpecG_mk (n := 4) rfl HD6.out HR6.out HG6.out rfl rfl rfl) (Lits.cons (kSpecG_mk (n := 3) rfl HD7.out HR7.out HG7.out rfl rfl rfl) Lits.nil))))))))) (by decide) rfl) (by decide)).mono ?_
  rintro e wf ⟨A, c, rfl, hS, hG, hB⟩
  have HS := Aside0.mk hS
  have HG := Aside0.mk hG
  have HB := Aside0.mk (below_step (below_alloc HB7.out _) hB)
  have HL := Aside0.mk (Lives.below (Lives.below HL7.out (below_alloc (Below.refl _ _) _)) hB)
  clear hS hG hB
  have hl0 := HL.out.at 0 (by omega)
  have hl1 := HL.out.at 1 (by omega)
  have hl2 := HL.out.at 2 (by omega)
  have hl3 := HL.out.at 3 (by omega)
  go_wp2
  clear hl0 hl1 hl2 hl3
  have h4 := HL.out.set4 (.slice A ((findS newTab k).getD specz).ints.length c) (.int .i64 ((findS newTab k).getD specz).texts) (.int .i64 ((findS newTab k).getD specz).least) (.int .i64 ((findS newTab k).getD specz).most)
  exact bodyPost_ret (v := .tuple #[.agg #[.slice A ((findS newTab k).getD specz).ints.length c, .int .i64 ((findS newTab k).getD specz).texts, .int .i64 ((findS newTab k).getD specz).least, .int .i64 ((findS newTab k).getD specz).most], .bool (findS newTab k).isSome]) (by simp [results, Tryd.results89, go_sem, h4]) rfl ⟨A, c, rfl, HS.out.far4 HG.out _ _ _ _, HG.out, below_set4 HB.out (Nat.le_refl _)⟩
end Go.Proofs.YtglfebpgdghlfaaDoor.L
end
section
namespace Go.Proofs.YtglfebpgdghlfaaDoor.L
open Go.RowKit Go.ChangeShapes Go.WideShapes Go.Proofs.YtglfebpgdghlfaaDoorW.PrintWords Go.Proofs.YtglfebpgdghlfaaDoorW.PrintLast Go.Proofs.YtglfebpgdghlfaaDoorW.PrintMore
attribute [local go_sem] max2_int min2_int max_two min_two max_three min_three max_four min_four
def nodeT (tab : List Spec) (n : Node) : Int := match findS tab n.kind with
  | none => 9
  | some x => nodeErr n x
def typedFrom (tab : List Spec) : List Node → Int → Int × Int
  | [], _ => (0, 0)
  | n :: r, i => if nodeT tab n = 0 then typedFrom tab r (i + 1) else (nodeT tab n, i)
def typedS (tab : List Spec) (ns : List Node) : Int × Int := typedFrom tab ns 0
theorem typedFrom_bad (tab : List Spec) : ∀ (ns : List Node) (k : Int) (i : Nat), i < ns.length → (∀ j : Nat, j < i → nodeT tab (nd ns j) = 0) → ¬ nodeT tab (nd ns i) = 0 → typedFrom tab ns k = (nodeT tab (nd ns i), k + i)
  | [], _, _, h, _, _ => by simp at h
  | n :: r, k, 0, _, _, hb => by
    unfold typedFrom
    have hb' : ¬ nodeT tab n = 0 := hb
    rw [if_neg hb']
    simp [nd]
  | n :: r, k, i + 1, h, ha, hb => by
    have h0 : nodeT tab n = 0 := ha 0 (by omega)
    unfold typedFrom
    rw [if_pos h0, typedFrom_bad tab r (k + 1) i (by simpa using h) (fun j hj => ha (j + 1) (by omega)) hb]
    have : k + 1 + (i : Int) = k + ((i + 1 : Nat) : Int) := by omega
    rw [this]
    rfl
theorem typedFrom_ok (tab : List Spec) : ∀ (ns : List Node) (k : Int), (∀ j : Nat, j < ns.length → nodeT tab (nd ns j) = 0) → typedFrom tab ns k = (0, 0)
  | [], _, _ => rfl
  | n :: r, k, ha => by
    have h0 : nodeT tab n = 0 := ha 0 (by simp)
    unfold typedFrom
    rw [if_pos h0]
    exact typedFrom_ok tab r (k + 1) (fun j hj => ha (j + 1) (by simpa using hj))
theorem typedS_bad {tab : List Spec} {ns : List Node} {i : Nat} (hi : i < ns.length) (ha : ∀ j : Nat, j < i → nodeT tab (nd ns j) = 0) (hb : ¬ nodeT tab (nd ns i) = 0) : typedS tab ns = (nodeT tab (nd ns i), (i : Int)) := by
  unfold typedS
  rw [typedFrom_bad tab ns 0 i hi ha hb]; simp
theorem typedS_ok {tab : List Spec} {ns : List Node} (ha : ∀ j : Nat, j < ns.length → nodeT tab (nd ns j) = 0) : typedS tab ns = (0, 0) := typedFrom_ok tab ns 0 ha
def TypedPost (r : Int × Int) (w : World) (e : Ending) (w' : World) : Prop := e = .returned (.tuple #[.int .i64 r.1, .int .i64 r.2]) ∧ Below w.heap.size w w'
theorem ret_pair {a b : Int} {r : Int × Int} (h : r = (a, b)) : Ending.returned (.tuple #[.int .i64 a, .int .i64 b]) = .returned (.tuple #[.int .i64 r.1, .int .i64 r.2]) := by rw [h]
set_option maxRecDepth 100000 in
set_option maxHeartbeats 4000000 in
theorem typed_any (A : Option Addr) (c : Nat) (s : Scene) (w : World) (h : kNode.C w A s.nodes.length s.nodes) (hT : Tabs w) (hS : ∀ i : Nat, i < s.nodes.length → TextsSmall (nd s.nodes i)) :
    Calls Tryd.prog 54 #[.agg #[.slice A s.nodes.length c, .int .i64 s.root]] w (TypedPost (typedS newTab s.nodes) w) := by
  have HR := Aside0.mk h
  have HT := Aside0.mk hT
  have HS := Aside0.mk hS
  have b0 := h.2.1
  have HB := Aside0.mk (below_alloc (Below.refl w.heap.size w) (.cells #[.slice A s.nodes.length c, .int .i64 s.root] 39))
  have hu := Tryd.underlying39
  have hun := Tryd.underlying26
  have hus := Tryd.underlying66
  clear h hT hS
  go_enter Tryd.func54, Tryd.ntmps54
  go_wp2
  go_loopw [12] (fun v12 W => ∃ i : Nat, i ≤ s.nodes.length ∧ v12 = .int .i64 i ∧ Aside0 (∀ j : Nat, j < i → nodeT newTab (nd s.nodes j) = 0) ∧ Aside0 (Below w.heap.size w W)) (fun v12 _ => s.nodes.length - (intOf v12).toNat)
  case atStart => exact ⟨0, by omega, rfl, ⟨fun j h => by omega⟩, HB⟩
  case round =>
    obtain ⟨i, hi, rfl, HA, HW⟩ := hrel
    by_cases hlt : i < s.nodes.length
    · obtain ⟨adn, A1, c1, A2, c2, A3, c3, rfl, x0, x1, x2, x3, hN⟩ := at_node HR.out i hlt
      replace x0 := pw_cell_below HW.out x0
      replace x1 := pw_cell_below HW.out x1
      replace x2 := pw_cell_below HW.out x2
      replace x3 := pw_cell_below HW.out x3
      have HN := Aside0.mk hN
      have hba := below_alloc (Below.refl wr.heap.size wr) (.cells #[.int .i64 (nd s.nodes i).kind, .slice A1 (nd s.nodes i).ints.length c1, .slice A2 (nd s.nodes i).texts.length c2, .slice A3 (nd s.nodes i).kids.length c3] 26)
      have hbx : (wr.alloc (.cells #[.int .i64 (nd s.nodes i).kind, .slice A1 (nd s.nodes i).ints.length c1, .slice A2 (nd s.nodes i).texts.length c2, .slice A3 (nd s.nodes i).kids.length c3] 26)).heap[wr.heap.size]? = some (.cells #[.int .i64 (nd s.nodes i).kind, .slice A1 (nd s.nodes i).ints.length c1, .slice A2 (nd s.nodes i).texts.length c2, .slice A3 (nd s.nodes i).kids.length c3] 26 (0, 0)) := by simpa using heap_alloc_new wr _
      have HBX := Aside0.mk hbx
      have HBA := Aside0.mk hba
      have y0 := (blk_cell hbx 0).trans rfl
      clear hN hba hbx
      go_wp2_with fail
      refine (new_any (nd s.nodes i).kind _).mono ?_
      rintro e w6 ⟨A4, c4, rfl, hS6, -, hB6⟩
      have HB6 := Aside0.mk (below_step HW.out (below_step HBA.out hB6))
      cases hf : findS newTab (nd s.nodes i).kind with
      | none =>
        have HE := Aside0.mk (typedS_bad (tab := newTab) hlt HA.out (by unfold nodeT; rw [hf]; exact (by decide : ¬ (9 : Int) = 0)))
        have HE2 := Aside0.mk (show nodeT newTab (nd s.nodes i) = 9 from by unfold nodeT; rw [hf])
        clear hf hS6 hB6
        go_wp2
        go_ret2
        exact ⟨ret_pair (by rw [HE.out, HE2.out]), below_step HB6.out (below_alloc (Below.refl _ _) _)⟩
      | some sp =>
        have HE2 := Aside0.mk (show nodeT newTab (nd s.nodes i) = nodeErr (nd s.nodes i) sp from by unfold nodeT; rw [hf])
        rw [hf] at hS6
        have hb6 := (hB6.block _ (by simp)).trans HBX.out
        have hbs := below_alloc (Below.refl w6.heap.size w6) (.cells #[.slice A4 sp.ints.length c4, .int .i64 sp.texts, .int .i64 sp.least, .int .i64 sp.most] 66)
        have hbx : (w6.alloc (.cells #[.slice A4 sp.ints.length c4, .int .i64 sp.texts, .int .i64 sp.least, .int .i64 sp.most] 66)).heap[w6.heap.size]? = some (.cells #[.slice A4 sp.ints.length c4, .int .i64 sp.texts, .int .i64 sp.least, .int .i64 sp.most] 66 (0, 0)) := by simpa using heap_alloc_new w6 _
        have z0 := (blk_cell ((hbs.block _ (blk_lt hb6)).trans hb6) 0).trans rfl
        have z1 := (blk_cell ((hbs.block _ (blk_lt hb6)).trans hb6) 1).trans rfl
        have z2 := (blk_cell ((hbs.block _ (blk_lt hb6)).trans hb6) 2).trans rfl
        have z3 := (blk_cell ((hbs.block _ (blk_lt hb6)).trans hb6) 3).trans rfl
        have q0 := (blk_cell hbx 0).trans rfl
        have q1 := (blk_cell hbx 1).trans rfl
        have q2 := (blk_cell hbx 2).trans rfl
        have q3 := (blk_cell hbx 3).trans rfl
        have HS6 := Aside0.mk (SpecC.below hS6 hbs)
        have HB7 := Aside0.mk (below_step HB6.out hbs)
        clear hf hS6 hB6 hb6 hbs hbx
        go_wp2_with fail
        refine (check_any (nd s.nodes i) A1 c1 A2 c2 A3 c3 sp A4 c4 _ (HN.out.below HB7.out) HS6.out (HS.out i hlt) (HT.out.below HB7.out)).mono ?_
        rintro e w8 ⟨rfl, hB8⟩
        have HB8 := Aside0.mk (below_step HB7.out hB8)
        clear hB8 z0 z1 z2 z3 q0 q1 q2 q3 x0 x1 x2 x3 y0
        by_cases hz : nodeErr (nd s.nodes i) sp = 0
        · have HA2 := Aside0.mk (ext_lt HA.out (HE2.out.trans hz))
          rw [hz]
          clear hz
          go_wp2
          go_roundw
          case rel => exact ⟨i + 1, by omega, by go_num, HA2, HB8⟩
          case measure => simp [intOf]; omega
        · have HE := Aside0.mk (typedS_bad (tab := newTab) hlt HA.out (by rw [HE2.out]; exact hz))
          have dz : (nodeErr (nd s.nodes i) sp != 0) = true := by simpa using hz
          clear hz
          go_wp2
          go_ret2
          exact ⟨ret_pair (by rw [HE.out, HE2.out]), HB8.out⟩
    · obtain rfl : i = s.nodes.length := by omega
      have HE := Aside0.mk (typedS_ok HA.out)
      go_wp2
      go_ret2
      exact ⟨ret_pair HE.out, HW.out⟩
end Go.Proofs.YtglfebpgdghlfaaDoor.L
end
section
namespace Go.Proofs.YtglfebpgdghlfaaDoor.L
open Go.RowKit Go.ChangeShapes Go.WideShapes Go.Proofs.YtglfebpgdghlfaaDoorW.PrintWords Go.Proofs.YtglfebpgdghlfaaDoorW.PrintLast Go.Proofs.YtglfebpgdghlfaaDoorW.PrintMore
attribute [local go_sem] max2_int min2_int max_two min_two max_three min_three max_four min_four
def upK (n : Node) (b : Int) (q : List Int) : List Node :=
  if n.kind = 1 then [⟨1, [], [ByteArray.empty], q⟩]
  else if n.kind = 2 then [⟨2, n.ints.take 3, [], [b]⟩, ⟨8, [rd n.ints 3, rd n.ints 3, rd n.ints 3], [], q⟩]
  else if n.kind = 3 then [⟨3, [rd n.ints 0, rd n.ints 0, rd n.ints 0], n.texts, q⟩]
  else if n.kind = 4 then [⟨4, n.ints, n.texts, q⟩]
  else if n.kind = 5 then [⟨5, [65536], [str n.texts 0, ⟨#[115, 97, 110, 115]⟩], q⟩]
  else [⟨7, [rd n.ints 0, rd n.ints 0, rd n.ints 0, 1], [], q⟩]
def upLen (n : Node) : Nat := if n.kind = 2 then 2 else 1
theorem upK_len (n : Node) (b : Int) (q : List Int) : (upK n b q).length = upLen n := by
  unfold upK upLen
  by_cases h1 : n.kind = 1
  · rw [if_pos h1, if_neg (by omega)]; rfl
  · rw [if_neg h1]
    by_cases h2 : n.kind = 2
    · rw [if_pos h2, if_pos h2]; rfl
    · rw [if_neg h2, if_neg h2]
      split
      · rfl
      · split
        · rfl
        · split <;> rfl
def withKids (n : Node) (q : List Int) : Node := ⟨n.kind, n.ints, n.texts, q⟩
theorem upK_first {n : Node} (h : n.kind = 2) (b b' : Int) (q : List Int) : (upK n b q).set 0 (withKids (nd (upK n b q) 0) [b']) = upK n b' q ∧ (nd (upK n b q) 0).kids = [b] := by
  unfold upK
  rw [if_neg (by omega), if_pos h, if_neg (by omega), if_pos h]
  exact ⟨rfl, rfl⟩
theorem upK_one {n : Node} (h : ¬ n.kind = 2) (b b' : Int) (q : List Int) : upK n b q = upK n b' q := by
  unfold upK
  rw [if_neg h, if_neg h]
def pos (ns : List Node) (i : Nat) : Nat := ((List.range i).map (fun p => upLen (nd ns p))).sum
theorem pos_succ (ns : List Node) (i : Nat) : pos ns (i + 1) = pos ns i + upLen (nd ns i) := by unfold pos; rw [List.range_succ, List.map_append, List.sum_append]; simp
def mapK (ns : List Node) (q : List Int) : List Int := q.map (fun k => (pos ns k.toNat : Int))
def mix (ns : List Node) (i j : Nat) : List Node := (List.range i).flatMap (fun p => upK (nd ns p) ((pos ns p : Int) + 1) (if p < j then mapK ns (nd ns p).kids else (nd ns p).kids))
theorem mix_succ (ns : List Node) (i j : Nat) : mix ns (i + 1) j = mix ns i j ++ upK (nd ns i) ((pos ns i : Int) + 1) (if i < j then mapK ns (nd ns i).kids else (nd ns i).kids) := by
  unfold mix
  rw [List.range_succ, List.flatMap_append]
  simp
theorem mix_len (ns : List Node) (i j : Nat) : (mix ns i j).length = pos ns i := by
  induction i with
  | zero => rfl
  | succ i ih => rw [mix_succ, List.length_append, ih, upK_len, pos_succ]
def fillTo (f : Nat → Int) (i n : Nat) : List Int := (List.range n).map (fun p : Nat => if p < i then f p else 0)
theorem fillTo_set (f : Nat → Int) (i n : Nat) : (fillTo f i n).set i (f i) = fillTo f (i + 1) n := by
  refine List.ext_getElem (by simp [fillTo]) (fun p h1 h2 => ?_)
  rw [List.getElem_set]
  simp only [fillTo, List.getElem_map, List.getElem_range]
  by_cases e : i = p
  · subst e; rw [if_pos rfl, if_pos (by omega)]
  · rw [if_neg e]
    by_cases h : p < i
    · rw [if_pos h, if_pos (by omega)]
    · rw [if_neg h, if_neg (by omega)]
def posI (ns : List Node) (p : Nat) : Int := (pos ns p : Int)
def lastI (ns : List Node) (p : Nat) : Int := ((pos ns (p + 1) - 1 : Nat) : Int)
end Go.Proofs.YtglfebpgdghlfaaDoor.L
end
section
namespace Go.Proofs.YtglfebpgdghlfaaDoor.L
open Go.RowKit Go.ChangeShapes Go.WideShapes Go.Proofs.YtglfebpgdghlfaaDoorW.PrintWords Go.Proofs.YtglfebpgdghlfaaDoorW.PrintLast Go.Proofs.YtglfebpgdghlfaaDoorW.PrintMore
attribute [local go_sem] max2_int min2_int max_two min_two max_three min_three max_four min_four
theorem kid_write {W : World} {base g m c : Nat} {ok : Nat → Prop} {l : List Node} (h : Kd.S kNode 26 W base ok (.slice (some ⟨g, 0, none⟩) m c) l) (i : Nat) (hi : i < m) (j : Nat) (hj : j < (nd l i).kids.length) :
    ∃ gk ck, W.cell? ⟨g, i * 4 + 3, none⟩ = some (.slice (some ⟨gk, 0, none⟩) (nd l i).kids.length ck) ∧ ok gk ∧ gk ≠ g ∧ base ≤ gk ∧ (∃ cells, W.heap[gk]? = some (.cells cells 3 (0, 0))) ∧ W.cell? ⟨gk, j, none⟩ = some (.int .i64 (rd (nd l i).kids (j : Int))) ∧ W.frozen? ⟨gk, j, none⟩ = false ∧
      ∀ u : Int, Kd.S kNode 26 (W.setCell ⟨gk, j, none⟩ (.int .i64 u)) base ok (.slice (some ⟨g, 0, none⟩) m c) (l.set i (withKids (nd l i) ((nd l i).kids.set j u))) ∧ W.grownBy (W.setCell ⟨gk, j, none⟩ (.int .i64 u)) (some gk) := by
  obtain ⟨oki, cc, hcl, hM, hcc, hfr, hoki, hH⟩ := Kd.S_elem h nodez (i : Int) (by omega) (by omega)
  rw [Int.toNat_natCast] at hM hcc hfr
  obtain ⟨v1, v2, v3, rfl, r1, r2, r3⟩ := kNode_openM hM
  obtain ⟨gk, ck, hv3, hb, -, cells, hc⟩ := Kd.R_form r3 (by show 0 < (nd l i).kids.length; omega)
  subst hv3
  have hko := r3.1 gk rfl
  obtain ⟨c1, c2⟩ := ints_cell r3 j hj
  refine ⟨gk, ck, hcc 3 _ rfl, (hoki gk hko).1, (hoki gk hko).2, hb, ⟨cells, hc⟩, c1, c2, fun u => ?_⟩
  obtain ⟨s1, s2, _⟩ := ints_store r3 j hj u
  refine ⟨?_, s2⟩
  have s1' : (Kd.int .i64).R 3 (W.setCell ⟨gk, j, none⟩ (.int .i64 u)) base oki (.slice (some ⟨gk, 0, none⟩) (nd l i).kids.length ck) ((nd l i).kids.set j u) := s1
  have hb2 := Kd.H_back (Kd.H_grown hH s2 (fun k hk => by injection hk with hk; rw [← hk]; exact hko)) (x' := withKids (nd l i) ((nd l i).kids.set j u)) (okp := oki)
    (kNode_mkM (Kd.R_grown1 r1 rfl s2 (Kd.R_ne r1 hc (by decide))) (Kd.R_grown1 r2 rfl s2 (Kd.R_ne r2 hc (by decide))) s1') (fun _ h => h)
  rw [Int.toNat_natCast] at hb2
  exact hb2
structure Up1 (s : Scene) (A : Option Addr) (c : Nat) (w : World) (b8 g9 c9 g10 c10 : Nat) (v : Value) (i j k : Nat) (W : World) : Prop where
  box : W.heap[b8]? = some (.cells #[v, .int .i64 0] 39 (0, 0))
  nodes : Kd.S kNode 26 W w.heap.size (fun k => k ≠ g9 ∧ k ≠ g10) v (mix s.nodes i 0)
  up : (Kd.int .i64).R 3 W w.heap.size (fun k => k ≠ g10) (.slice (some ⟨g9, 0, none⟩) s.nodes.length c9) (fillTo (posI s.nodes) j s.nodes.length)
  la : (Kd.int .i64).R 3 W w.heap.size (fun _ => True) (.slice (some ⟨g10, 0, none⟩) s.nodes.length c10) (fillTo (lastI s.nodes) k s.nodes.length)
  src : W.heap[w.heap.size]? = some (.cells #[.slice A s.nodes.length c, .int .i64 s.root] 39 (0, 0))
  res : W.heap[w.heap.size + 1]? = some (.cells #[.slice none 0 0, .int .i64 0] 39 (0, 0))
  b0 : w.heap.size + 1 < b8
  below : Below w.heap.size w W
theorem S_type {α : Type} {d : Kd α} {e base : Nat} {ok : Nat → Prop} {W : World} {v : Value} {xs : List α} {g : Nat} {cells : Array Value} {T : TypeId} (h : Kd.S d e W base ok v xs) (hb : W.heap[g]? = some (.cells cells T (0, 0))) (hT : ¬ T ∈ e :: d.E) (u : Value) (i : Nat) : Kd.S d e (W.setCell ⟨g, i, none⟩ u) base ok v xs :=
  Kd.S_mono (Kd.S_grown (Kd.S_bound h) (set_grown W g i u) (fun k hk he => by
    injection he with he
    obtain ⟨_, _, _, q, hq, cs, hc⟩ := hk
    subst he
    rw [hb] at hc
    injection hc with hc
    injection hc with _ hc
    subst hc
    exact hT hq)) (fun _ hk => hk.1)
section
variable {s : Scene} {A : Option Addr} {c : Nat} {w : World} {b8 g9 c9 g10 c10 : Nat} {v : Value} {i j k : Nat} {W W1 : World}
theorem Up1.later (h : Up1 s A c w b8 g9 c9 g10 c10 v i j k W) (hb : Below W.heap.size W W1) : Up1 s A c w b8 g9 c9 g10 c10 v i j k W1 :=
  ⟨(hb.block _ (blk_lt h.box)).trans h.box, Kd.S_below h.nodes hb, Kd.R_below h.up hb, Kd.R_below h.la hb, (hb.block _ (blk_lt h.src)).trans h.src, (hb.block _ (blk_lt h.res)).trans h.res, h.b0, below_step h.below hb⟩
theorem Up1.ne (h : Up1 s A c w b8 g9 c9 g10 c10 v i j k W) : g9 ≠ g10 := h.up.1 g9 rfl
theorem Up1.lt9 (h : Up1 s A c w b8 g9 c9 g10 c10 v i j k W) : g9 < W.heap.size := Kd.R_lt h.up g9 rfl
theorem Up1.lt10 (h : Up1 s A c w b8 g9 c9 g10 c10 v i j k W) : g10 < W.heap.size := Kd.R_lt h.la g10 rfl
theorem scene_ne {b g : Nat} {x y : Value} {cells : Array Value} {T : TypeId} (hx : W.heap[b]? = some (.cells #[x, y] 39 (0, 0))) (hc : W.heap[g]? = some (.cells cells T (0, 0))) (hT : T ≠ 39) : some b ≠ some g := fun he => by
  injection he with he
  rw [← he, hx] at hc
  injection hc with hc
  injection hc with _ hc
  exact hT hc.symm
theorem Up1.lower (h : Up1 s A c w b8 g9 c9 g10 c10 v i j k W) (hk : k < s.nodes.length) :
    (∃ x, W.cell? ⟨g10, k, none⟩ = some x) ∧ W.frozen? ⟨g10, k, none⟩ = false ∧ Up1 s A c w b8 g9 c9 g10 c10 v i j (k + 1) (W.setCell ⟨g10, k, none⟩ (.int .i64 ((pos s.nodes (k + 1) - 1 : Nat) : Int))) := by
  obtain ⟨c1, c2⟩ := ints_cell h.la k hk
  obtain ⟨s1, s2, s3⟩ := ints_store h.la k hk ((pos s.nodes (k + 1) - 1 : Nat) : Int)
  have e : (fillTo (lastI s.nodes) k s.nodes.length).set k ((pos s.nodes (k + 1) - 1 : Nat) : Int) = fillTo (lastI s.nodes) (k + 1) s.nodes.length := fillTo_set (lastI s.nodes) k s.nodes.length
  rw [e] at s1
  obtain ⟨cells, hc⟩ := Kd.R_typed h.la g10 rfl
  exact ⟨⟨_, c1⟩, c2, ⟨blk_grown h.box s2 (scene_ne h.box hc (by decide)), Kd.S_far (p := ⟨g10, k, none⟩) h.nodes (fun k hk => hk.2) _, Kd.R_far (p := ⟨g10, k, none⟩) h.up (fun k hk => hk) _, s1, blk_grown h.src s2 (scene_ne h.src hc (by decide)), blk_grown h.res s2 (scene_ne h.res hc (by decide)), h.b0, below_set h.below s3⟩⟩
theorem Up1.push (h : Up1 s A c w b8 g9 c9 g10 c10 v i j k W) {B : Nat} (h9 : g9 < B) (h10 : g10 < B) {v1 : Value} (hS : Kd.S kNode 26 W1 w.heap.size (fun k => (k ≠ g9 ∧ k ≠ g10) ∨ B ≤ k ∨ W.heap.size ≤ k) v1 (mix s.nodes (i + 1) 0)) (hB : Below w.heap.size w W1) (hg : W.grownBy W1 v.ownBlock) :
    (∃ x, W1.cell? ⟨b8, 0, none⟩ = some x) ∧ W1.frozen? ⟨b8, 0, none⟩ = false ∧ Up1 s A c w b8 g9 c9 g10 c10 v1 (i + 1) j k (W1.setCell ⟨b8, 0, none⟩ v1) := by
  have hnv := (Kd.S_R h.nodes).1
  have hty := Kd.S_typed h.nodes
  have hne : ∀ b x y, W.heap[b]? = some (.cells #[x, y] 39 (0, 0)) → some b ≠ v.ownBlock := fun b x y hx he => by
    obtain ⟨cells, hc⟩ := hty b he.symm
    exact scene_ne hx hc (by decide) rfl
  have hbx := blk_grown h.box hg (hne _ _ _ h.box)
  have h9s := h.lt9
  have h10s := h.lt10
  have hup := Kd.R_mono (Kd.R_grown1 h.up rfl hg (fun e => (hnv g9 e).1 rfl)) (fun _ hk => hk)
  have hla := Kd.R_grown1 h.la rfl hg (fun e => (hnv g10 e).2 rfl)
  have hS' : Kd.S kNode 26 W1 w.heap.size (fun k => k ≠ g9 ∧ k ≠ g10) v1 (mix s.nodes (i + 1) 0) := Kd.S_mono hS (fun k hk => by
    rcases hk with hk | hk | hk
    · exact hk
    · exact ⟨by omega, by omega⟩
    · exact ⟨by omega, by omega⟩)
  have hb8 := h.b0
  refine ⟨⟨_, (blk_cell hbx 0).trans rfl⟩, blk_frozen hbx 0, ⟨?_, S_type hS' hbx (by decide) _ _, R_type hup hbx (by decide) _ _, R_type hla hbx (by decide) _ _, ?_, ?_, h.b0, below_set hB (by omega)⟩⟩
  · have := blk_set hbx 0 v1
    simpa using this
  · rw [Below.heap_setCell _ _ _ _ (by show w.heap.size ≠ b8; omega)]
    exact blk_grown h.src hg (hne _ _ _ h.src)
  · rw [Below.heap_setCell _ _ _ _ (by show w.heap.size + 1 ≠ b8; omega)]
    exact blk_grown h.res hg (hne _ _ _ h.res)
end
structure UpL (s : Scene) (w : World) (B gl cl i j : Nat) (W : World) : Prop where
  row : Kd.S kNode 26 W w.heap.size (fun k => B ≤ k) (.slice (some ⟨gl, 0, none⟩) (upLen (nd s.nodes i)) cl) (upK (nd s.nodes i) (if j = 0 then 0 else (pos s.nodes i : Int) + 1) (nd s.nodes i).kids)
  jl : j ≤ upLen (nd s.nodes i) - 1
theorem UpL.done {s : Scene} {w : World} {B gl cl i : Nat} {W : World} (h : UpL s w B gl cl i (upLen (nd s.nodes i) - 1) W) : Kd.S kNode 26 W w.heap.size (fun k => B ≤ k) (.slice (some ⟨gl, 0, none⟩) (upLen (nd s.nodes i)) cl) (upK (nd s.nodes i) ((pos s.nodes i : Int) + 1) (nd s.nodes i).kids) := by
  have hr := h.row
  by_cases h2 : (nd s.nodes i).kind = 2
  · have : upLen (nd s.nodes i) = 2 := by unfold upLen; rw [if_pos h2]
    rw [this] at hr ⊢
    exact hr
  · rw [upK_one h2 _ ((pos s.nodes i : Int) + 1)] at hr
    exact hr
theorem grown_trans {W W1 W2 : World} {g g' : Nat} (h1 : W.grownBy W1 (some g)) (h2 : W1.grownBy W2 (some g')) (hg : W.heap.size ≤ g') : W.grownBy W2 (some g) :=
  ⟨h2.os.trans h1.os, h2.tape.trans h1.tape, h2.output.trans h1.output, Nat.le_trans h1.size h2.size, fun k hk hne => (h2.block k (Nat.lt_of_lt_of_le hk h1.size) (fun e => by injection e with e; omega)).trans (h1.block k hk hne)⟩
structure UpI (s : Scene) (w wr : World) (B gl cl g9 c9 g10 i j : Nat) (W : World) : Prop where
  grown : wr.grownBy W (some g9)
  up : (Kd.int .i64).R 3 W w.heap.size (fun k => k ≠ g10) (.slice (some ⟨g9, 0, none⟩) s.nodes.length c9) (fillTo (posI s.nodes) (i + 1) s.nodes.length)
  l : UpL s w B gl cl i j W
  hB : wr.heap.size ≤ B
theorem UpL.step {s : Scene} {w : World} {B gl cl i j : Nat} {W : World} (h : UpL s w B gl cl i j W) (hj : j < upLen (nd s.nodes i) - 1) : j = 0 ∧ upLen (nd s.nodes i) = 2 ∧
    ∃ gk ck, W.cell? ⟨gl, 3, none⟩ = some (.slice (some ⟨gk, 0, none⟩) 1 ck) ∧ B ≤ gk ∧ (∃ x, W.cell? ⟨gk, 0, none⟩ = some x) ∧ W.frozen? ⟨gk, 0, none⟩ = false ∧
      UpL s w B gl cl i (j + 1) (W.setCell ⟨gk, 0, none⟩ (.int .i64 ((pos s.nodes i : Int) + 1))) ∧ W.grownBy (W.setCell ⟨gk, 0, none⟩ (.int .i64 ((pos s.nodes i : Int) + 1))) (some gk) := by
  have h2 : (nd s.nodes i).kind = 2 := Classical.byContradiction fun hn => by
    have : upLen (nd s.nodes i) = 1 := by unfold upLen; rw [if_neg hn]
    omega
  have hl : upLen (nd s.nodes i) = 2 := by unfold upLen; rw [if_pos h2]
  obtain rfl : j = 0 := by omega
  have hr := h.row
  rw [if_pos rfl, hl] at hr
  obtain ⟨u1, u2⟩ := upK_first h2 0 ((pos s.nodes i : Int) + 1) (nd s.nodes i).kids
  obtain ⟨gk, ck, k1, k2, k3, k4, _, k5, k6, k7⟩ := kid_write hr 0 (by omega) 0 (by rw [u2]; decide)
  obtain ⟨s1, s2⟩ := k7 ((pos s.nodes i : Int) + 1)
  rw [u2] at k1 s1
  have e : ([(0 : Int)].set 0 ((pos s.nodes i : Int) + 1)) = [(pos s.nodes i : Int) + 1] := rfl
  rw [e, u1] at s1
  refine ⟨rfl, hl, gk, ck, k1, k2, ⟨_, k5⟩, k6, ⟨?_, by omega⟩, s2⟩
  rw [if_neg (by omega), hl]
  exact s1
theorem UpI.step {s : Scene} {w wr : World} {B gl cl g9 c9 g10 i j : Nat} {W : World} (h : UpI s w wr B gl cl g9 c9 g10 i j W) (h9 : g9 < B) (hj : j < upLen (nd s.nodes i) - 1) : j = 0 ∧ upLen (nd s.nodes i) = 2 ∧
    ∃ gk ck, W.cell? ⟨gl, 3, none⟩ = some (.slice (some ⟨gk, 0, none⟩) 1 ck) ∧ wr.heap.size ≤ gk ∧ (∃ x, W.cell? ⟨gk, 0, none⟩ = some x) ∧ W.frozen? ⟨gk, 0, none⟩ = false ∧
      UpI s w wr B gl cl g9 c9 g10 i (j + 1) (W.setCell ⟨gk, 0, none⟩ (.int .i64 ((pos s.nodes i : Int) + 1))) := by
  obtain ⟨e1, e2, gk, ck, k1, k2, k3, k4, k5, k6⟩ := h.l.step hj
  have hB := h.hB
  have hne : some gk ≠ (Value.slice (some ⟨g9, 0, none⟩) s.nodes.length c9).ownBlock := fun e => by
    have e3 : gk = g9 := by simpa [Value.ownBlock] using e
    omega
  exact ⟨e1, e2, gk, ck, k1, by omega, k3, k4, ⟨grown_trans h.grown k6 (by omega), Kd.R_grown1 h.up rfl k6 hne, k5, h.hB⟩⟩
section
variable {s : Scene} {A : Option Addr} {c : Nat} {w : World} {b8 g9 c9 g10 c10 : Nat} {v : Value} {i j k : Nat} {W W1 : World}
end
theorem UpI.drew {s : Scene} {w wr : World} {B gl cl g9 c9 g10 i j : Nat} {W : World} (h : UpI s w wr B gl cl g9 c9 g10 i j W) : UpI s w wr B gl cl g9 c9 g10 i j W.drew :=
  ⟨⟨h.grown.os, h.grown.tape, h.grown.output, h.grown.size, h.grown.block⟩, Kd.R_drew h.up, ⟨Kd.S_drew h.l.row, h.l.jl⟩, h.hB⟩
end Go.Proofs.YtglfebpgdghlfaaDoor.L
end
section
namespace Go.Proofs.YtglfebpgdghlfaaDoor.L
open Go.RowKit Go.ChangeShapes Go.WideShapes Go.Proofs.YtglfebpgdghlfaaDoorW.PrintWords Go.Proofs.YtglfebpgdghlfaaDoorW.PrintLast Go.Proofs.YtglfebpgdghlfaaDoorW.PrintMore
attribute [local go_sem] max2_int min2_int max_two min_two max_three min_three max_four min_four
structure Up3 (s : Scene) (A : Option Addr) (c : Nat) (w : World) (b8 g9 c9 g10 c10 gv cv : Nat) (l : List Node) (W : World) : Prop where
  box : W.heap[b8]? = some (.cells #[.slice (some ⟨gv, 0, none⟩) (pos s.nodes s.nodes.length) cv, .int .i64 0] 39 (0, 0))
  nodes : Kd.S kNode 26 W w.heap.size (fun k => k ≠ g9 ∧ k ≠ g10) (.slice (some ⟨gv, 0, none⟩) (pos s.nodes s.nodes.length) cv) l
  up : (Kd.int .i64).R 3 W w.heap.size (fun k => k ≠ g10) (.slice (some ⟨g9, 0, none⟩) s.nodes.length c9) (fillTo (posI s.nodes) s.nodes.length s.nodes.length)
  la : (Kd.int .i64).R 3 W w.heap.size (fun _ => True) (.slice (some ⟨g10, 0, none⟩) s.nodes.length c10) (fillTo (lastI s.nodes) s.nodes.length s.nodes.length)
  src : W.heap[w.heap.size]? = some (.cells #[.slice A s.nodes.length c, .int .i64 s.root] 39 (0, 0))
  res : W.heap[w.heap.size + 1]? = some (.cells #[.slice none 0 0, .int .i64 0] 39 (0, 0))
  b0 : w.heap.size + 1 < b8
  below : Below w.heap.size w W
section
variable {s : Scene} {A : Option Addr} {c : Nat} {w : World} {b8 g9 c9 g10 c10 gv cv : Nat} {l : List Node} {W W1 : World}
theorem Up3.start {v : Value} {n : Nat} (hn : n = s.nodes.length) (hp : 0 < pos s.nodes n) (h : Up1 s A c w b8 g9 c9 g10 c10 v n n n W) : ∃ gv cv, v = .slice (some ⟨gv, 0, none⟩) (pos s.nodes s.nodes.length) cv ∧ Up3 s A c w b8 g9 c9 g10 c10 gv cv (mix s.nodes s.nodes.length 0) W := by
  subst hn
  obtain ⟨gv, cv, hv, -⟩ := Kd.S_form h.nodes (by rw [mix_len]; exact hp)
  rw [mix_len] at hv
  subst hv
  exact ⟨gv, cv, rfl, h.box, h.nodes, h.up, h.la, h.src, h.res, h.b0, h.below⟩
theorem Up3.drew (h : Up3 s A c w b8 g9 c9 g10 c10 gv cv l W) : Up3 s A c w b8 g9 c9 g10 c10 gv cv l W.drew :=
  ⟨h.box, Kd.S_drew h.nodes, Kd.R_drew h.up, Kd.R_drew h.la, h.src, h.res, h.b0, pw_below_drewN h.below 1⟩
end
end Go.Proofs.YtglfebpgdghlfaaDoor.L
end
section
namespace Go.Proofs.YtglfebpgdghlfaaDoor.L
open Go.RowKit Go.ChangeShapes Go.WideShapes Go.Proofs.YtglfebpgdghlfaaDoorW.PrintWords Go.Proofs.YtglfebpgdghlfaaDoorW.PrintLast Go.Proofs.YtglfebpgdghlfaaDoorW.PrintMore
attribute [local go_sem] max2_int min2_int max_two min_two max_three min_three max_four min_four
def greatN (n : Node) : Bool := decide (100 < n.ints.length ∨ 100 < n.texts.length ∨ 300 < n.kids.length ∨ ∃ j, j < n.texts.length ∧ 500 < (str n.texts j).size)
set_option maxRecDepth 100000 in
set_option maxHeartbeats 2000000 in
theorem great_any (n : Node) (A1 : Option Addr) (c1 : Nat) (A2 : Option Addr) (c2 : Nat) (A3 : Option Addr) (c3 : Nat) (w : World) (h : NodeC w n A1 c1 A2 c2 A3 c3) :
    Calls Tryd.prog 12 #[.agg #[.int .i64 n.kind, .slice A1 n.ints.length c1, .slice A2 n.texts.length c2, .slice A3 n.kids.length c3]] w fun e w' => e = .returned (.bool (greatN n)) ∧ Below w.heap.size w w' := by
  have HN := Aside0.mk h
  have b2 := h.t.2.1
  have hB := below_alloc (Below.refl w.heap.size w) (.cells #[.int .i64 n.kind, .slice A1 n.ints.length c1, .slice A2 n.texts.length c2, .slice A3 n.kids.length c3] 26)
  have HB := Aside0.mk hB
  have HX := Aside0.mk (show (w.alloc (.cells #[.int .i64 n.kind, .slice A1 n.ints.length c1, .slice A2 n.texts.length c2, .slice A3 n.kids.length c3] 26)).heap[w.heap.size]? = some (.cells #[.int .i64 n.kind, .slice A1 n.ints.length c1, .slice A2 n.texts.length c2, .slice A3 n.kids.length c3] 26 (0, 0)) from by simpa using heap_alloc_new w _)
  have k1 := (blk_cell HX.out 1).trans rfl
  have k2 := (blk_cell HX.out 2).trans rfl
  have k3 := (blk_cell HX.out 3).trans rfl
  have hun := Tryd.underlying26
  clear h hB
  by_cases h1 : 100 < n.ints.length
  · have HE : Aside0 (greatN n = true) := ⟨decide_eq_true (.inl h1)⟩
    have d1 : decide (100 < (n.ints.length : Int)) = true := decide_eq_true (by omega)
    clear h1
    go_enter Tryd.func12, Tryd.ntmps12
    go_wp2
    go_ret
    exact ⟨ret_bool HE.out.symm, HB.out⟩
  have d1 : decide (100 < (n.ints.length : Int)) = false := decide_eq_false (by omega)
  by_cases h2 : 100 < n.texts.length
  · have HE : Aside0 (greatN n = true) := ⟨decide_eq_true (.inr (.inl h2))⟩
    have d2 : decide (100 < (n.texts.length : Int)) = true := decide_eq_true (by omega)
    clear h1 h2
    go_enter Tryd.func12, Tryd.ntmps12
    go_wp2
    go_ret
    exact ⟨ret_bool HE.out.symm, HB.out⟩
  have d2 : decide (100 < (n.texts.length : Int)) = false := decide_eq_false (by omega)
  by_cases h3 : 300 < n.kids.length
  · have HE : Aside0 (greatN n = true) := ⟨decide_eq_true (.inr (.inr (.inl h3)))⟩
    have d3 : decide (300 < (n.kids.length : Int)) = true := decide_eq_true (by omega)
    clear h1 h2 h3
    go_enter Tryd.func12, Tryd.ntmps12
    go_wp2
    go_ret
    exact ⟨ret_bool HE.out.symm, HB.out⟩
  have d3 : decide (300 < (n.kids.length : Int)) = false := decide_eq_false (by omega)
  have H123 : Aside0 (¬ 100 < n.ints.length ∧ ¬ 100 < n.texts.length ∧ ¬ 300 < n.kids.length) := ⟨h1, h2, h3⟩
  clear h1 h2 h3
  go_enter Tryd.func12, Tryd.ntmps12
  go_wp2
  clear d1 d2 d3
  go_loopw [3] (fun v3 W => ∃ i : Nat, i ≤ n.texts.length ∧ v3 = .int .i64 i ∧ W = w.alloc (.cells #[.int .i64 n.kind, .slice A1 n.ints.length c1, .slice A2 n.texts.length c2, .slice A3 n.kids.length c3] 26) ∧ Aside0 (∀ j, j < i → ¬ 500 < (str n.texts j).size)) (fun v3 _ => n.texts.length - (intOf v3).toNat)
  case atStart => exact ⟨0, by omega, rfl, by first | rfl | trivial, ⟨fun j h => by omega⟩⟩
  case round =>
    obtain ⟨i, hi, rfl, rfl, HA⟩ := hrel
    by_cases hlt : i < n.texts.length
    · obtain ⟨ad, rfl, x⟩ := at_str (Kd.C_below HN.out.t HB.out) i hlt
      by_cases hg : 500 < (str n.texts i).size
      · have HE : Aside0 (greatN n = true) := ⟨decide_eq_true (.inr (.inr (.inr ⟨i, hlt, hg⟩)))⟩
        have d5 : decide (500 < ((str n.texts i).size : Int)) = true := decide_eq_true (by omega)
        clear hg
        go_wp2
        go_ret
        exact ⟨ret_bool HE.out.symm, HB.out⟩
      · have HA2 := Aside0.mk (ext_lt HA.out hg)
        have d5 : decide (500 < ((str n.texts i).size : Int)) = false := decide_eq_false (by omega)
        clear hg
        go_wp2
        go_roundw
        case rel => exact ⟨i + 1, by omega, by go_num, by first | rfl | trivial, HA2⟩
        case measure => simp [intOf]; omega
    · obtain rfl : i = n.texts.length := by omega
      have HE : Aside0 (greatN n = false) := ⟨decide_eq_false (fun h => by
        rcases h with h | h | h | ⟨j, hj, h⟩
        · exact H123.out.1 h
        · exact H123.out.2.1 h
        · exact H123.out.2.2 h
        · exact HA.out j hj h)⟩
      go_wp2
      go_ret
      exact ⟨ret_bool HE.out.symm, HB.out⟩
end Go.Proofs.YtglfebpgdghlfaaDoor.L
end
section
namespace Go.Proofs.YtglfebpgdghlfaaDoor.L
open Go.RowKit Go.ChangeShapes Go.WideShapes Go.Proofs.YtglfebpgdghlfaaDoorW.PrintWords Go.Proofs.YtglfebpgdghlfaaDoorW.PrintLast Go.Proofs.YtglfebpgdghlfaaDoorW.PrintMore
attribute [local go_sem] max2_int min2_int max_two min_two max_three min_three max_four min_four
structure SetV where
  text : Bool
  field : Int
  n : Int
  s : ByteArray
def kSet : Kd SetV := Kd.iso (Kd.pair Kd.bool (Kd.pair (Kd.int .i64) (Kd.pair (Kd.int .i64) Kd.string))) (fun x : SetV => (x.text, x.field, x.n, x.s))
theorem kSet_mk (w : World) (base : Nat) (ok : Nat → Prop) (x : SetV) : kSet.M w base ok x [.bool x.text, .int .i64 x.field, .int .i64 x.n, .string x.s] := ⟨[_], [_, _, _], rfl, rfl, ⟨[_], [_, _], rfl, rfl, ⟨[_], [_], rfl, rfl, rfl⟩⟩⟩
theorem info_set : (Tryd.prog.info? 84).map (fun i => (i.zero, i.size, i.bytes)) = some (some (.agg #[.bool false, .int .i64 0, .int .i64 0, .string ByteArray.empty]), 4, 40) := by kernel_rfl
def diffI (a b : List Int) (i : Nat) : List SetV := ((List.range i).filter (fun p : Nat => decide (¬ rd a (p : Int) = rd b (p : Int)))).map (fun p : Nat => ⟨false, (p : Int), rd b (p : Int), ByteArray.empty⟩)
def diffT (a b : List ByteArray) (i : Nat) : List SetV := ((List.range i).filter (fun p : Nat => decide (¬ str a p = str b p))).map (fun p : Nat => ⟨true, (p : Int), 0, str b p⟩)
theorem diffI_yes {a b : List Int} {i : Nat} (h : ¬ rd a (i : Int) = rd b (i : Int)) : diffI a b (i + 1) = diffI a b i ++ [⟨false, (i : Int), rd b (i : Int), ByteArray.empty⟩] := by
  unfold diffI
  rw [List.range_succ, List.filter_append, List.map_append, List.filter_cons, if_pos (decide_eq_true h)]
  rfl
theorem diffI_no {a b : List Int} {i : Nat} (h : rd a (i : Int) = rd b (i : Int)) : diffI a b (i + 1) = diffI a b i := by
  unfold diffI
  rw [List.range_succ, List.filter_append, List.map_append, List.filter_cons, if_neg (by simp [h])]
  simp
theorem diffT_yes {a b : List ByteArray} {i : Nat} (h : ¬ str a i = str b i) : diffT a b (i + 1) = diffT a b i ++ [⟨true, (i : Int), 0, str b i⟩] := by
  unfold diffT
  rw [List.range_succ, List.filter_append, List.map_append, List.filter_cons, if_pos (decide_eq_true h)]
  rfl
theorem diffT_no {a b : List ByteArray} {i : Nat} (h : str a i = str b i) : diffT a b (i + 1) = diffT a b i := by
  unfold diffT
  rw [List.range_succ, List.filter_append, List.map_append, List.filter_cons, if_neg (by simp [h])]
  simp
theorem diffI_len (a b : List Int) (i : Nat) : (diffI a b i).length ≤ i := by
  unfold diffI
  rw [List.length_map]
  exact Nat.le_trans (List.length_filter_le _ _) (by simp)
theorem diffT_len (a b : List ByteArray) (i : Nat) : (diffT a b i).length ≤ i := by
  unfold diffT
  rw [List.length_map]
  exact Nat.le_trans (List.length_filter_le _ _) (by simp)
def alike (a b : Node) : Bool := decide (a.kind = b.kind ∧ a.ints.length = b.ints.length ∧ a.texts.length = b.texts.length)
def diffL (a b : Node) : List SetV := if alike a b = true then diffI a.ints b.ints a.ints.length ++ diffT a.texts b.texts a.texts.length else []
theorem diffL_nil {a b : Node} (h : alike a b = true) : (diffL a b = [] ↔ a.ints = b.ints ∧ a.texts = b.texts) := by
  unfold diffL
  rw [if_pos h, List.append_eq_nil_iff]
  obtain ⟨_, h1, h2⟩ := of_decide_eq_true h
  unfold diffI diffT
  rw [List.map_eq_nil_iff, List.map_eq_nil_iff, List.filter_eq_nil_iff, List.filter_eq_nil_iff]
  constructor
  · rintro ⟨k1, k2⟩
    refine ⟨List.ext_getElem h1 (fun i i1 i2 => ?_), List.ext_getElem h2 (fun i i1 i2 => ?_)⟩
    · have := k1 i (List.mem_range.2 i1)
      rw [← rd_eq i1, ← rd_eq i2]
      simpa using this
    · have := k2 i (List.mem_range.2 i1)
      have e : str a.texts i = str b.texts i := by simpa using this
      unfold str at e
      rw [getD_eq _ i1, getD_eq _ i2] at e
      exact e
  · rintro ⟨k1, k2⟩
    exact ⟨fun i _ => by rw [k1]; simp, fun i _ => by rw [k2]; simp⟩
end Go.Proofs.YtglfebpgdghlfaaDoor.L
end
section
namespace Go.Proofs.YtglfebpgdghlfaaDoor.L
open Go.RowKit Go.ChangeShapes Go.WideShapes Go.Proofs.YtglfebpgdghlfaaDoorW.PrintWords Go.Proofs.YtglfebpgdghlfaaDoorW.PrintLast Go.Proofs.YtglfebpgdghlfaaDoorW.PrintMore
attribute [local go_sem] max2_int min2_int max_two min_two max_three min_three max_four min_four
def setz : SetV := ⟨false, 0, 0, ByteArray.empty⟩
theorem kSet_open {w : World} {x : SetV} {cs : List Value} (h : kSet.K w x cs) : cs = [.bool x.text, .int .i64 x.field, .int .i64 x.n, .string x.s] := by
  obtain ⟨_, _, rfl, rfl, _, _, rfl, rfl, _, _, rfl, rfl, rfl⟩ := h
  exact rfl
def st (xs : List SetV) (i : Nat) : SetV := xs.getD i setz
theorem at_set {w : World} {A : Option Addr} {n : Nat} {xs : List SetV} (h : kSet.C w A n xs) (i : Nat) (h1 : i < n) :
    ∃ ad, A = some ad ∧ w.cell? (ad.add (i * 4)) = some (.bool (st xs i).text) ∧ w.cell? ⟨(ad.add (i * 4)).block, (ad.add (i * 4)).off + 1, none⟩ = some (.int .i64 (st xs i).field) ∧ w.cell? ⟨(ad.add (i * 4)).block, (ad.add (i * 4)).off + 2, none⟩ = some (.int .i64 (st xs i).n) ∧ w.cell? ⟨(ad.add (i * 4)).block, (ad.add (i * 4)).off + 3, none⟩ = some (.string (st xs i).s) := by
  obtain ⟨ad, c, e, _, hK, hc0⟩ := Kd.C_get h setz (i : Int) (by omega) (by omega)
  have hc : ∀ j u, c[j]? = some u → w.cell? (ad.add (i * 4 + j)) = some u := fun j u h => by simpa [show kSet.sz = 4 from rfl] using hc0 j u h
  have hK' : kSet.K w (st xs i) c := by simpa [st] using hK
  obtain rfl := kSet_open hK'
  refine ⟨ad, e, hc 0 _ rfl, ?_, ?_, ?_⟩
  · rw [← add_field _ _ 1 (by omega)]; exact hc 1 _ rfl
  · rw [← add_field _ _ 2 (by omega)]; exact hc 2 _ rfl
  · rw [← add_field _ _ 3 (by omega)]; exact hc 3 _ rfl
theorem toList_nil {s : ByteArray} : s.toList = [] ↔ s = ByteArray.empty := by
  rw [ByteArray.toList_eq]
  obtain ⟨⟨l⟩⟩ := s
  refine ⟨fun h => ?_, fun h => ?_⟩
  · have h' : l = [] := h
    rw [h']; rfl
  · rw [h]; rfl
def setOne (n : Node) (x : SetV) : Option Node :=
  if x.text = true then (if x.n = 0 ∧ 0 ≤ x.field ∧ x.field < (n.texts.length : Int) then some ⟨n.kind, n.ints, n.texts.set x.field.toNat x.s, n.kids⟩ else none)
  else (if x.s = ByteArray.empty ∧ 0 ≤ x.field ∧ x.field < (n.ints.length : Int) then some ⟨n.kind, n.ints.set x.field.toNat x.n, n.texts, n.kids⟩ else none)
def setStep (o : Option Node) (x : SetV) : Option Node := o.bind (fun n => setOne n x)
def setAll (n : Node) (l : List SetV) : Option Node := l.foldl setStep (some n)
def setR (n : Node) (l : List SetV) : Node × Int := match setAll n l with | some m => (m, 0) | none => (nodez, 21)
theorem st_eq {xs : List SetV} {i : Nat} (h : i < xs.length) : st xs i = xs[i] := by
  unfold st
  rw [List.getD_eq_getElem?_getD, List.getElem?_eq_getElem h]; rfl
theorem setAll_step {n : Node} {l : List SetV} {k : Nat} (h : k < l.length) : setAll n (l.take (k + 1)) = setStep (setAll n (l.take k)) (st l k) := by
  rw [List.take_succ_eq_append_getElem h, st_eq h]
  unfold setAll
  rw [List.foldl_append]; rfl
theorem setAll_none {n : Node} {l : List SetV} {k : Nat} (h : setAll n (l.take k) = none) : setAll n l = none := by
  rw [← List.take_append_drop k l]
  unfold setAll at h ⊢
  rw [List.foldl_append, h]
  generalize l.drop k = r
  induction r with
  | nil => rfl
  | cons x r ih => exact ih
theorem setR_bad {n m : Node} {l : List SetV} {k : Nat} (hk : k < l.length) (h : setAll n (l.take k) = some m) (hb : setOne m (st l k) = none) : setR n l = (nodez, 21) := by
  have : setAll n l = none := setAll_none (k := k + 1) (by rw [setAll_step hk, h]; exact hb)
  unfold setR
  rw [this]
theorem setR_all {n m : Node} {l : List SetV} (h : setAll n l = some m) : setR n l = (m, 0) := by unfold setR; rw [h]
theorem setOne_text {n : Node} {x : SetV} (ht : x.text = true) (h0 : x.n = 0) {f : Nat} (hf : x.field = (f : Int)) (hl : f < n.texts.length) : setOne n x = some ⟨n.kind, n.ints, n.texts.set f x.s, n.kids⟩ := by
  unfold setOne
  rw [if_pos ht, if_pos ⟨h0, by omega, by omega⟩, hf, Int.toNat_natCast]
theorem setOne_int {n : Node} {x : SetV} (ht : x.text = false) (h0 : x.s = ByteArray.empty) {f : Nat} (hf : x.field = (f : Int)) (hl : f < n.ints.length) : setOne n x = some ⟨n.kind, n.ints.set f x.n, n.texts, n.kids⟩ := by
  unfold setOne
  rw [if_neg (by simp [ht]), if_pos ⟨h0, by omega, by omega⟩, hf, Int.toNat_natCast]
theorem setOne_text_bad {n : Node} {x : SetV} (ht : x.text = true) (h : ¬ (x.n = 0 ∧ 0 ≤ x.field ∧ x.field < (n.texts.length : Int))) : setOne n x = none := by
  unfold setOne
  rw [if_pos ht, if_neg h]
theorem setOne_int_bad {n : Node} {x : SetV} (ht : x.text = false) (h : ¬ (x.s = ByteArray.empty ∧ 0 ≤ x.field ∧ x.field < (n.ints.length : Int))) : setOne n x = none := by
  unfold setOne
  rw [if_neg (by simp [ht]), if_neg h]
theorem strs_cell {W : World} {base g n cap e : Nat} {ok : Nat → Prop} {xs : List ByteArray} (h : Kd.string.R e W base ok (.slice (some ⟨g, 0, none⟩) n cap) xs) (i : Nat) (hi : i < n) : W.cell? ⟨g, i, none⟩ = some (.string (str xs i)) ∧ W.frozen? ⟨g, i, none⟩ = false := by
  obtain ⟨c, hcl, hM, hcc, hfr⟩ := R_elemN h ByteArray.empty i hi
  obtain rfl : c = [.string (xs.getD i ByteArray.empty)] := hM
  have h1 := hcc 0 _ rfl
  have h2 := hfr 0
  exact ⟨by simpa [show Kd.string.sz = 1 from rfl, str] using h1, by simpa [show Kd.string.sz = 1 from rfl] using h2⟩
theorem strs_store {W : World} {base g n cap e : Nat} {ok : Nat → Prop} {xs : List ByteArray} (h : Kd.string.R e W base ok (.slice (some ⟨g, 0, none⟩) n cap) xs) (i : Nat) (hi : i < n) (v : ByteArray) :
    Kd.string.R e (W.setCell ⟨g, i, none⟩ (.string v)) base ok (.slice (some ⟨g, 0, none⟩) n cap) (xs.set i v) ∧ W.grownBy (W.setCell ⟨g, i, none⟩ (.string v)) (some g) ∧ base ≤ g := by
  obtain ⟨c, hcl, hM, hcc, hfr⟩ := R_elemN h ByteArray.empty i hi
  obtain ⟨hs, hg⟩ := R_segN h i hi (seg := [.string v]) (j := 0) hcl hcc (Nat.le_refl 1) (x' := v) (okp := fun _ => False) (by simp [hcl, show Kd.string.sz = 1 from rfl, List.drop_eq_nil_of_le]; rfl) (fun _ h => h.elim)
  have e' : W.setCells g (i * Kd.string.sz + 0) [.string v] = W.setCell ⟨g, i, none⟩ (.string v) := by
    rw [show Kd.string.sz = 1 from rfl, Nat.mul_one]; rfl
  rw [e'] at hs hg
  exact ⟨hs, hg, Kd.R_base h g (by simp [Value.ownBlock])⟩
structure OutRel (m : Node) (v1 v2 v3 : Value) (w : World) (rb g : Nat) (W : World) : Prop where
  below : Below w.heap.size w W
  box : W.heap[g]? = some (.cells #[.int .i64 m.kind, v1, v2, v3] 26 (0, 0))
  res : W.heap[rb]? = some (.cells #[.int .i64 0, .slice none 0 0, .slice none 0 0, .slice none 0 0] 26 (0, 0))
  rge : w.heap.size ≤ rb
  ge : rb < g
  r1 : (Kd.int .i64).R 2 W w.heap.size (fun _ => True) v1 m.ints
  r2 : Kd.string.R 9 W w.heap.size (fun _ => True) v2 m.texts
  r3 : (Kd.int .i64).R 3 W w.heap.size (fun _ => True) v3 m.kids
section
variable {m : Node} {v1 v2 v3 : Value} {w : World} {rb g : Nat} {W W1 : World}
theorem OutRel.later (h : OutRel m v1 v2 v3 w rb g W) (hb : Below W.heap.size W W1) : OutRel m v1 v2 v3 w rb g W1 :=
  ⟨below_step h.below hb, (hb.block _ (blk_lt h.box)).trans h.box, (hb.block _ (blk_lt h.res)).trans h.res, h.rge, h.ge, Kd.R_below h.r1 hb, Kd.R_below h.r2 hb, Kd.R_below h.r3 hb⟩
theorem OutRel.alloc (h : OutRel m v1 v2 v3 w rb g W) (o : Obj) : OutRel m v1 v2 v3 w rb g (W.alloc o) := h.later (below_alloc (Below.refl _ _) o)
theorem OutRel.start {B : Nat} (hB : Below w.heap.size w W) (hrb : w.heap.size ≤ rb) (hres : W.heap[rb]? = some (.cells #[.int .i64 0, .slice none 0 0, .slice none 0 0, .slice none 0 0] 26 (0, 0))) (hw : w.heap.size ≤ B)
    (hM : kNode.M W B (fun _ => True) m [.int .i64 m.kind, v1, v2, v3]) : OutRel m v1 v2 v3 w rb W.heap.size (W.alloc (.cells #[.int .i64 m.kind, v1, v2, v3] 26)) := by
  obtain ⟨x1, x2, x3, e, h1, h2, h3⟩ := kNode_openM hM
  injection e with _ e
  injection e with e1 e
  injection e with e2 e
  injection e with e3 _
  subst e1 e2 e3
  have hA := below_alloc (Below.refl W.heap.size W) (.cells #[.int .i64 m.kind, v1, v2, v3] 26)
  exact ⟨below_step hB hA, by simpa using heap_alloc_new W _, (hA.block _ (blk_lt hres)).trans hres, hrb, blk_lt hres, Kd.R_lower (Kd.R_below h1 hA) hw, Kd.R_lower (Kd.R_below h2 hA) hw, Kd.R_lower (Kd.R_below h3 hA) hw⟩
theorem OutRel.far {b : Nat} {T : TypeId} {cells : Array Value} (h : OutRel m v1 v2 v3 w rb g W) (hg : W.grownBy W1 (some b)) (hc : W.heap[b]? = some (.cells cells T (0, 0))) (hT : ¬ T = 26) :
    W1.heap[g]? = some (.cells #[.int .i64 m.kind, v1, v2, v3] 26 (0, 0)) ∧ W1.heap[rb]? = some (.cells #[.int .i64 0, .slice none 0 0, .slice none 0 0, .slice none 0 0] 26 (0, 0)) := by
  refine ⟨blk_grown h.box hg (fun e => ?_), blk_grown h.res hg (fun e => ?_)⟩
  · injection e with e
    rw [← e, h.box] at hc
    injection hc with hc
    injection hc with _ hc
    exact hT hc.symm
  · injection e with e
    rw [← e, h.res] at hc
    injection hc with hc
    injection hc with _ hc
    exact hT hc.symm
theorem OutRel.setInt {b c n : Nat} (h : OutRel m (.slice (some ⟨b, 0, none⟩) n c) v2 v3 w rb g W) {f : Nat} (hf : f < m.ints.length) (x : Int) :
    (∃ u, W.cell? ⟨b, f, none⟩ = some u) ∧ W.frozen? ⟨b, f, none⟩ = false ∧ OutRel ⟨m.kind, m.ints.set f x, m.texts, m.kids⟩ (.slice (some ⟨b, 0, none⟩) n c) v2 v3 w rb g (W.setCell ⟨b, f, none⟩ (.int .i64 x)) := by
  have hn := (Kd.R_reads' h.r1).1
  obtain ⟨c1, c2⟩ := ints_cell h.r1 f (by omega)
  obtain ⟨s1, s2, s3⟩ := ints_store h.r1 f (by omega) x
  obtain ⟨cells, hc⟩ := Kd.R_typed h.r1 b rfl
  obtain ⟨h1, h2⟩ := h.far s2 hc (by decide)
  exact ⟨⟨_, c1⟩, c2, below_set h.below s3, h1, h2, h.rge, h.ge, s1, Kd.R_grown1 h.r2 rfl s2 (Kd.R_ne h.r2 hc (by decide)), Kd.R_grown1 h.r3 rfl s2 (Kd.R_ne h.r3 hc (by decide))⟩
theorem OutRel.setText {b c n : Nat} (h : OutRel m v1 (.slice (some ⟨b, 0, none⟩) n c) v3 w rb g W) {f : Nat} (hf : f < m.texts.length) (x : ByteArray) :
    (∃ u, W.cell? ⟨b, f, none⟩ = some u) ∧ W.frozen? ⟨b, f, none⟩ = false ∧ OutRel ⟨m.kind, m.ints, m.texts.set f x, m.kids⟩ v1 (.slice (some ⟨b, 0, none⟩) n c) v3 w rb g (W.setCell ⟨b, f, none⟩ (.string x)) := by
  have hn := (Kd.R_reads' h.r2).1
  obtain ⟨c1, c2⟩ := strs_cell h.r2 f (by omega)
  obtain ⟨s1, s2, s3⟩ := strs_store h.r2 f (by omega) x
  obtain ⟨cells, hc⟩ := Kd.R_typed h.r2 b rfl
  obtain ⟨h1, h2⟩ := h.far s2 hc (by decide)
  exact ⟨⟨_, c1⟩, c2, below_set h.below s3, h1, h2, h.rge, h.ge, Kd.R_grown1 h.r1 rfl s2 (Kd.R_ne h.r1 hc (by decide)), s1, Kd.R_grown1 h.r3 rfl s2 (Kd.R_ne h.r3 hc (by decide))⟩
theorem OutRel.setKid {b c n : Nat} (h : OutRel m v1 v2 (.slice (some ⟨b, 0, none⟩) n c) w rb g W) {f : Nat} (hf : f < m.kids.length) (x : Int) :
    W.cell? ⟨b, f, none⟩ = some (.int .i64 (rd m.kids (f : Int))) ∧ W.frozen? ⟨b, f, none⟩ = false ∧ OutRel ⟨m.kind, m.ints, m.texts, m.kids.set f x⟩ v1 v2 (.slice (some ⟨b, 0, none⟩) n c) w rb g (W.setCell ⟨b, f, none⟩ (.int .i64 x)) := by
  have hn := (Kd.R_reads' h.r3).1
  obtain ⟨c1, c2⟩ := ints_cell h.r3 f (by omega)
  obtain ⟨s1, s2, s3⟩ := ints_store h.r3 f (by omega) x
  obtain ⟨cells, hc⟩ := Kd.R_typed h.r3 b rfl
  obtain ⟨h1, h2⟩ := h.far s2 hc (by decide)
  exact ⟨c1, c2, below_set h.below s3, h1, h2, h.rge, h.ge, Kd.R_grown1 h.r1 rfl s2 (Kd.R_ne h.r1 hc (by decide)), Kd.R_grown1 h.r2 rfl s2 (Kd.R_ne h.r2 hc (by decide)), s1⟩
theorem OutRel.put {m2 : Node} {x1 x2 x3 : Value} (h : OutRel m v1 v2 v3 w rb g W) (hM : kNode.M W w.heap.size (fun _ => True) m2 [.int .i64 m2.kind, x1, x2, x3]) :
    OutRel m2 x1 x2 x3 w rb g ((((W.setCell ⟨g, 0, none⟩ (.int .i64 m2.kind)).setCell ⟨g, 1, none⟩ x1).setCell ⟨g, 2, none⟩ x2).setCell ⟨g, 3, none⟩ x3) := by
  have hge := h.ge
  have hrg := h.rge
  obtain ⟨y1, y2, y3, e, r1, r2, r3⟩ := kNode_openM hM
  injection e with _ e
  injection e with e1 e
  injection e with e2 e
  injection e with e3 _
  subst e1 e2 e3
  have hb0 := h.box
  have hb1 := blk_set hb0 0 (.int .i64 m2.kind)
  have hb2 := blk_set hb1 1 x1
  have hb3 := blk_set hb2 2 x2
  refine ⟨below_set4 h.below (by omega), box4 h.box _ _ _ _, ?_, h.rge, h.ge, ?_, ?_, ?_⟩
  · rw [Below.heap_setCell _ ⟨g, 3, none⟩ x3 rb (by show rb ≠ g; omega), Below.heap_setCell _ ⟨g, 2, none⟩ x2 rb (by show rb ≠ g; omega), Below.heap_setCell _ ⟨g, 1, none⟩ x1 rb (by show rb ≠ g; omega), Below.heap_setCell _ ⟨g, 0, none⟩ (.int .i64 m2.kind) rb (by show rb ≠ g; omega)]
    exact h.res
  · exact R_type (R_type (R_type (R_type r1 hb0 (by decide) _ _) hb1 (by decide) _ _) hb2 (by decide) _ _) hb3 (by decide) _ _
  · exact R_type (R_type (R_type (R_type r2 hb0 (by decide) _ _) hb1 (by decide) _ _) hb2 (by decide) _ _) hb3 (by decide) _ _
  · exact R_type (R_type (R_type (R_type r3 hb0 (by decide) _ _) hb1 (by decide) _ _) hb2 (by decide) _ _) hb3 (by decide) _ _
theorem OutRel.done (h : OutRel m v1 v2 v3 w rb g W) :
    ((((W.setCell ⟨rb, 0, none⟩ (.int .i64 m.kind)).setCell ⟨rb, 1, none⟩ v1).setCell ⟨rb, 2, none⟩ v2).setCell ⟨rb, 3, none⟩ v3).heap[rb]? = some (.cells #[.int .i64 m.kind, v1, v2, v3] 26 (0, 0)) ∧
    kNode.M ((((W.setCell ⟨rb, 0, none⟩ (.int .i64 m.kind)).setCell ⟨rb, 1, none⟩ v1).setCell ⟨rb, 2, none⟩ v2).setCell ⟨rb, 3, none⟩ v3) w.heap.size (fun _ => True) m [.int .i64 m.kind, v1, v2, v3] ∧
    Below w.heap.size w ((((W.setCell ⟨rb, 0, none⟩ (.int .i64 m.kind)).setCell ⟨rb, 1, none⟩ v1).setCell ⟨rb, 2, none⟩ v2).setCell ⟨rb, 3, none⟩ v3) := by
  have hb0 := h.res
  have hb1 := blk_set hb0 0 (.int .i64 m.kind)
  have hb2 := blk_set hb1 1 v1
  have hb3 := blk_set hb2 2 v2
  refine ⟨box4 hb0 _ _ _ _, kNode_mkM ?_ ?_ ?_, below_set4 h.below h.rge⟩
  · exact R_type (R_type (R_type (R_type h.r1 hb0 (by decide) _ _) hb1 (by decide) _ _) hb2 (by decide) _ _) hb3 (by decide) _ _
  · exact R_type (R_type (R_type (R_type h.r2 hb0 (by decide) _ _) hb1 (by decide) _ _) hb2 (by decide) _ _) hb3 (by decide) _ _
  · exact R_type (R_type (R_type (R_type h.r3 hb0 (by decide) _ _) hb1 (by decide) _ _) hb2 (by decide) _ _) hb3 (by decide) _ _
end
theorem res4 {W : World} {rb : Nat} {u0 u1 u2 u3 : Value} {T : TypeId} (h : W.heap[rb]? = some (.cells #[u0, u1, u2, u3] T (0, 0))) : (W.cell? ⟨rb, 0, none⟩ = some u0 ∧ W.cell? ⟨rb, 1, none⟩ = some u1) ∧ W.cell? ⟨rb, 2, none⟩ = some u2 ∧ W.cell? ⟨rb, 3, none⟩ = some u3 :=
  ⟨⟨(blk_cell h 0).trans rfl, (blk_cell h 1).trans rfl⟩, (blk_cell h 2).trans rfl, (blk_cell h 3).trans rfl⟩
theorem res4a {W : World} {rb : Nat} {u0 u1 u2 u3 : Value} {T : TypeId} (h : W.heap[rb]? = some (.cells #[u0, u1, u2, u3] T (0, 0))) (o : Obj) : ((W.alloc o).cell? ⟨rb, 0, none⟩ = some u0 ∧ (W.alloc o).cell? ⟨rb, 1, none⟩ = some u1) ∧ (W.alloc o).cell? ⟨rb, 2, none⟩ = some u2 ∧ (W.alloc o).cell? ⟨rb, 3, none⟩ = some u3 :=
  res4 (((below_alloc (Below.refl W.heap.size W) o).block _ (blk_lt h)).trans h)
def NodePost (r : Node × Int) (w : World) (e : Ending) (w' : World) : Prop := ∃ v1 v2 v3, e = .returned (.tuple #[.agg #[.int .i64 r.1.kind, v1, v2, v3], .int .i64 r.2]) ∧ kNode.M w' w.heap.size (fun _ => True) r.1 [.int .i64 r.1.kind, v1, v2, v3] ∧ Below w.heap.size w w'
theorem nodez_M (W : World) (base : Nat) : kNode.M W base (fun _ => True) nodez [.int .i64 nodez.kind, .slice none 0 0, .slice none 0 0, .slice none 0 0] := kNode_mkM (Kd.R_nil _ _ _ _ _) (Kd.R_nil _ _ _ _ _) (Kd.R_nil _ _ _ _ _)
structure Opn where
  kind : Int
  base : Int
  sets : List SetV
  script : List Ed
  node : Node
def opz : Opn := ⟨0, 0, [], [], nodez⟩
def kOpn : Kd Opn := Kd.iso (Kd.pair (Kd.int .i64) (Kd.pair (Kd.int .i64) (Kd.pair (Kd.slice 84 kSet) (Kd.pair (Kd.slice 128 kEd) kNode)))) (fun x : Opn => (x.kind, x.base, x.sets, x.script, x.node))
def op (xs : List Opn) (i : Nat) : Opn := xs.getD i opz
structure OpnC (w : World) (o : Opn) (B1 : Option Addr) (d1 : Nat) (B2 : Option Addr) (d2 : Nat) (A1 : Option Addr) (c1 : Nat) (A2 : Option Addr) (c2 : Nat) (A3 : Option Addr) (c3 : Nat) : Prop where
  ls : o.sets.length ≤ d1
  s : kSet.C w B1 o.sets.length o.sets
  le : o.script.length ≤ d2
  e : kEd.C w B2 o.script.length o.script
  n : NodeC w o.node A1 c1 A2 c2 A3 c3
theorem OpnC.below {w w' : World} {o : Opn} {B1 B2 A1 A2 A3 : Option Addr} {d1 d2 c1 c2 c3 : Nat} (h : OpnC w o B1 d1 B2 d2 A1 c1 A2 c2 A3 c3) (hb : Below w.heap.size w w') : OpnC w' o B1 d1 B2 d2 A1 c1 A2 c2 A3 c3 :=
  ⟨h.ls, Kd.C_below h.s hb, h.le, Kd.C_below h.e hb, h.n.below hb⟩
abbrev opV (o : Opn) (B1 : Option Addr) (d1 : Nat) (B2 : Option Addr) (d2 : Nat) (A1 : Option Addr) (c1 : Nat) (A2 : Option Addr) (c2 : Nat) (A3 : Option Addr) (c3 : Nat) : Array Value :=
  #[.int .i64 o.kind, .int .i64 o.base, .slice B1 o.sets.length d1, .slice B2 o.script.length d2, .int .i64 o.node.kind, .slice A1 o.node.ints.length c1, .slice A2 o.node.texts.length c2, .slice A3 o.node.kids.length c3]
theorem kOpn_open {w : World} {x : Opn} {cs : List Value} (h : kOpn.K w x cs) : ∃ B1 d1 B2 d2 A1 c1 A2 c2 A3 c3, cs = [.int .i64 x.kind, .int .i64 x.base, .slice B1 x.sets.length d1, .slice B2 x.script.length d2, .int .i64 x.node.kind, .slice A1 x.node.ints.length c1, .slice A2 x.node.texts.length c2, .slice A3 x.node.kids.length c3] ∧ OpnC w x B1 d1 B2 d2 A1 c1 A2 c2 A3 c3 := by
  obtain ⟨_, _, rfl, rfl, _, _, rfl, rfl, _, _, rfl, ⟨B1, d1, rfl, l1, h1⟩, _, _, rfl, ⟨B2, d2, rfl, l2, h2⟩, hn⟩ := h
  obtain ⟨A1, c1, A2, c2, A3, c3, rfl, hN⟩ := kNode_open hn
  exact ⟨B1, d1, B2, d2, A1, c1, A2, c2, A3, c3, rfl, l1, h1, l2, h2, hN⟩
theorem at_op {w : World} {A : Option Addr} {n : Nat} {xs : List Opn} (h : kOpn.C w A n xs) (i : Nat) (h1 : i < n) :
    ∃ ad B1 d1 B2 d2 A1 c1 A2 c2 A3 c3, A = some ad ∧ w.cell? (ad.add (i * 8)) = some (.int .i64 (op xs i).kind) ∧ w.cell? ⟨(ad.add (i * 8)).block, (ad.add (i * 8)).off + 1, none⟩ = some (.int .i64 (op xs i).base) ∧ w.cell? ⟨(ad.add (i * 8)).block, (ad.add (i * 8)).off + 2, none⟩ = some (.slice B1 (op xs i).sets.length d1) ∧ w.cell? ⟨(ad.add (i * 8)).block, (ad.add (i * 8)).off + 3, none⟩ = some (.slice B2 (op xs i).script.length d2) ∧ w.cell? ⟨(ad.add (i * 8)).block, (ad.add (i * 8)).off + 4, none⟩ = some (.int .i64 (op xs i).node.kind) ∧ w.cell? ⟨(ad.add (i * 8)).block, (ad.add (i * 8)).off + 5, none⟩ = some (.slice A1 (op xs i).node.ints.length c1) ∧ w.cell? ⟨(ad.add (i * 8)).block, (ad.add (i * 8)).off + 6, none⟩ = some (.slice A2 (op xs i).node.texts.length c2) ∧ w.cell? ⟨(ad.add (i * 8)).block, (ad.add (i * 8)).off + 7, none⟩ = some (.slice A3 (op xs i).node.kids.length c3) ∧ OpnC w (op xs i) B1 d1 B2 d2 A1 c1 A2 c2 A3 c3 := by
  obtain ⟨ad, c, e, _, hK, hc0⟩ := Kd.C_get h opz (i : Int) (by omega) (by omega)
  have hc : ∀ j u, c[j]? = some u → w.cell? (ad.add (i * 8 + j)) = some u := fun j u h => by simpa [show kOpn.sz = 8 from rfl] using hc0 j u h
  have hK' : kOpn.K w (op xs i) c := by simpa [op] using hK
  obtain ⟨B1, d1, B2, d2, A1, c1, A2, c2, A3, c3, rfl, hN⟩ := kOpn_open hK'
  refine ⟨ad, B1, d1, B2, d2, A1, c1, A2, c2, A3, c3, e, hc 0 _ rfl, ?_, ?_, ?_, ?_, ?_, ?_, ?_, hN⟩
  · rw [← add_field _ _ 1 (by omega)]; exact hc 1 _ rfl
  · rw [← add_field _ _ 2 (by omega)]; exact hc 2 _ rfl
  · rw [← add_field _ _ 3 (by omega)]; exact hc 3 _ rfl
  · rw [← add_field _ _ 4 (by omega)]; exact hc 4 _ rfl
  · rw [← add_field _ _ 5 (by omega)]; exact hc 5 _ rfl
  · rw [← add_field _ _ 6 (by omega)]; exact hc 6 _ rfl
  · rw [← add_field _ _ 7 (by omega)]; exact hc 7 _ rfl
end Go.Proofs.YtglfebpgdghlfaaDoor.L
end
section
namespace Go.Proofs.YtglfebpgdghlfaaDoor.L
open Go.RowKit Go.ChangeShapes Go.WideShapes Go.Proofs.YtglfebpgdghlfaaDoorW.PrintWords Go.Proofs.YtglfebpgdghlfaaDoorW.PrintLast Go.Proofs.YtglfebpgdghlfaaDoorW.PrintMore
attribute [local go_sem] max2_int min2_int max_two min_two max_three min_three max_four min_four
def img (base : List Int) (k : Int) : Int := if k ∈ base then (base.idxOf k : Int) else -1
def imgN (base : List Int) (n : Node) : Node := ⟨n.kind, n.ints, n.texts, n.kids.map (img base)⟩
def emptyN (n : Node) : Bool := decide (n.kind = 0 ∧ n.ints.length = 0 ∧ n.texts.length = 0 ∧ n.kids.length = 0)
def takes (N : Nat) (base : List Int) (p : Int) : Bool := decide (0 ≤ p ∧ p < (N : Int) ∧ ¬ p ∈ base)
def editN (n : Node) (o : Opn) : Node × Int :=
  match setAll n o.sets with
  | none => (nodez, 21)
  | some m => if (app m.kids o.script).2 = true then (⟨m.kind, m.ints, m.texts, (app m.kids o.script).1⟩, 0) else (nodez, 21)
def keepN (a : List Node) (base : List Int) (o : Opn) : Node × Int :=
  if o.sets.length = 0 ∧ o.script.length = 0 ∧ emptyN o.node = true ∧ takes a.length base o.base = true then (imgN base (nd a o.base.toNat), 0) else (nodez, 21)
def changeN (a : List Node) (base : List Int) (o : Opn) : Node × Int :=
  if emptyN o.node = true ∧ takes a.length base o.base = true then editN (imgN base (nd a o.base.toNat)) o else (nodez, 21)
def freshN (o : Opn) : Node × Int := if o.base = 0 ∧ o.sets.length = 0 ∧ o.script.length = 0 then (o.node, 0) else (nodez, 21)
def oneN (a : List Node) (base : List Int) (o : Opn) : Node × Int :=
  if o.kind = 1 then keepN a base o else if o.kind = 2 then changeN a base o else if o.kind = 3 then freshN o else (nodez, 21)
def doErr (a : List Node) (base : List Int) (N : Nat) (o : Opn) : Int :=
  if (oneN a base o).2 = 0 then (if kidsBad N (oneN a base o).1.kids = true then 13 else 0) else (oneN a base o).2
def baseOf (o : Opn) : Int := if o.kind = 3 then -2 else o.base
def runO (a : List Node) : List Opn → List Int → List Node → Nat → List Node ⊕ (Int × Nat)
  | [], _, out, _ => .inl out
  | o :: r, base, out, i => if doErr a base out.length o = 0 then runO a r (base ++ [baseOf o]) (out ++ [(oneN a base o).1]) (i + 1) else .inr (doErr a base out.length o, i)
def sceneOf (out : List Node) : Scene := ⟨out, (out.length : Int) - 1⟩
noncomputable def finR (out : List Node) : Scene × Int × Int :=
  if (typedS newTab out).1 = 0 then (if (gcheck (sceneOf out)).1 = 0 then (if isC (sceneOf out) = true then (sceneOf out, 0, 0) else (⟨[], 0⟩, 16, -1)) else (⟨[], 0⟩, (gcheck (sceneOf out)).1, -1)) else (⟨[], 0⟩, (typedS newTab out).1, -1)
noncomputable def resR : List Node ⊕ (Int × Nat) → Scene × Int × Int
  | .inl out => finR out
  | .inr q => (⟨[], 0⟩, q.1, (q.2 : Int))
noncomputable def applyR (a : Scene) (l : List Opn) : Scene × Int × Int :=
  if (typedS newTab a.nodes).1 = 0 then (if isC a = true then resR (runO a.nodes l [] [] 0) else (⟨[], 0⟩, 16, -1)) else (⟨[], 0⟩, (typedS newTab a.nodes).1, -1)
theorem op_eq {xs : List Opn} {i : Nat} (h : i < xs.length) : op xs i = xs[i] := by
  unfold op
  rw [List.getD_eq_getElem?_getD, List.getElem?_eq_getElem h]; rfl
theorem drop_op {l : List Opn} {k : Nat} (h : k < l.length) : l.drop k = op l k :: l.drop (k + 1) := by rw [op_eq h]; exact List.drop_eq_getElem_cons h
theorem runO_step {a : List Node} {l : List Opn} {base : List Int} {out : List Node} {k : Nat} (hk : k < l.length) (h : doErr a base out.length (op l k) = 0) :
    runO a (l.drop k) base out k = runO a (l.drop (k + 1)) (base ++ [baseOf (op l k)]) (out ++ [(oneN a base (op l k)).1]) (k + 1) := by
  rw [drop_op hk]
  show (if doErr a base out.length (op l k) = 0 then _ else _) = _
  rw [if_pos h]
theorem runO_bad {a : List Node} {l : List Opn} {base : List Int} {out : List Node} {k : Nat} (hk : k < l.length) (h : ¬ doErr a base out.length (op l k) = 0) :
    runO a (l.drop k) base out k = .inr (doErr a base out.length (op l k), k) := by
  rw [drop_op hk]
  show (if doErr a base out.length (op l k) = 0 then _ else _) = _
  rw [if_neg h]
theorem runO_end {a : List Node} {l : List Opn} {base : List Int} {out : List Node} {k : Nat} (hk : l.length ≤ k) : runO a (l.drop k) base out k = .inl out := by
  rw [List.drop_eq_nil_of_le hk]; rfl
noncomputable def imgF (base : List Int) : Lit → Option Value := fun q => match q with
  | .int .i64 k => if 0 ≤ k ∧ k ∈ base then some (.int .i64 (base.idxOf k : Int)) else none
  | _ => none
theorem imgF_nil : imgF [] = fun _ => none := by
  funext q
  unfold imgF
  split
  · rw [if_neg (fun h => by simp at h)]
  · rfl
theorem imgF_in {base : List Int} {k : Int} (h0 : 0 ≤ k) (h : k ∈ base) (z : Value) : (imgF base (.int .i64 k)).getD z = .int .i64 (img base k) ∧ (imgF base (.int .i64 k)).isSome = true := by
  unfold imgF img
  simp only []
  rw [if_pos ⟨h0, h⟩, if_pos h]
  exact ⟨rfl, rfl⟩
theorem imgF_out {base : List Int} {k : Int} (h : ¬ (0 ≤ k ∧ k ∈ base)) (z : Value) : (imgF base (.int .i64 k)).getD z = z ∧ (imgF base (.int .i64 k)).isSome = false := by
  unfold imgF
  simp only []
  rw [if_neg h]
  exact ⟨rfl, rfl⟩
theorem imgF_put {base : List Int} {p : Int} (h0 : 0 ≤ p) (h : ¬ p ∈ base) : putF (imgF base) (.int .i64 p) (.int .i64 (base.length : Int)) = imgF (base ++ [p]) := by
  funext q
  unfold putF
  by_cases hq : q = .int .i64 p
  · subst hq
    rw [if_pos rfl]
    unfold imgF
    simp only []
    rw [if_pos ⟨h0, by simp⟩, List.idxOf_append, if_neg h]
    simp
  · rw [if_neg hq]
    unfold imgF
    split
    · rename_i k
      have hk : ¬ k = p := fun e => hq (by rw [e])
      by_cases hb : 0 ≤ k ∧ k ∈ base
      · rw [if_pos hb, if_pos ⟨hb.1, by simp [hb.2]⟩, List.idxOf_append, if_pos hb.2]
      · rw [if_neg hb, if_neg (fun hh => hb ⟨hh.1, by simpa [hk] using hh.2⟩)]
    · rfl
theorem imgF_fresh (base : List Int) : imgF (base ++ [-2]) = imgF base := by
  funext q
  unfold imgF
  split
  · rename_i k
    by_cases hb : 0 ≤ k ∧ k ∈ base
    · rw [if_pos hb, if_pos ⟨hb.1, by simp [hb.2]⟩, List.idxOf_append, if_pos hb.2]
    · rw [if_neg hb, if_neg (fun hh => hb ⟨hh.1, by
        have := hh.2
        rw [List.mem_append, List.mem_singleton] at this
        rcases this with h | h
        · exact h
        · have := hh.1; omega⟩)]
  · rfl
end Go.Proofs.YtglfebpgdghlfaaDoor.L
end
section
namespace Go.Proofs.YtglfebpgdghlfaaDoor.L
open Go.RowKit Go.ChangeShapes Go.WideShapes Go.Proofs.YtglfebpgdghlfaaDoorW.PrintWords Go.Proofs.YtglfebpgdghlfaaDoorW.PrintLast Go.Proofs.YtglfebpgdghlfaaDoorW.PrintMore
attribute [local go_sem] max2_int min2_int max_two min_two max_three min_three max_four min_four
theorem R_apart {α β : Type} {d : Kd α} {d' : Kd β} {e e' : Nat} {w : World} {b b' : Nat} {ok ok' : Nat → Prop} {v v' : Value} {xs : List α} {ys : List β} (h : d.R e w b ok v xs) (h' : d'.R e' w b' ok' v' ys) (hT : e ≠ e') (k : Nat) (hk : some k = v.ownBlock) : some k ≠ v'.ownBlock := fun hk' => by
  obtain ⟨c1, e1⟩ := Kd.R_typed h k hk.symm
  obtain ⟨c2, e2⟩ := Kd.R_typed h' k hk'.symm
  rw [e1] at e2
  injection e2 with e2
  injection e2 with _ e2
  exact hT e2
structure CnRel (w1 : World) (root : Int) (xs : List Node) (v4 : Value) (W : World) : Prop where
  below : Below w1.heap.size w1 W
  out : W.heap[w1.heap.size]? = some (.cells #[v4, .int .i64 root] 39 (0, 0))
  row : kNode.R 26 W w1.heap.size (fun _ => True) v4 xs
theorem CnRel.start (w1 : World) (root : Int) : CnRel w1 root [] (.slice none 0 0) (w1.alloc (.cells #[.slice none 0 0, .int .i64 root] 39)) :=
  ⟨below_alloc (Below.refl _ _) _, by simpa using heap_alloc_new w1 _, Kd.R_nil _ _ _ _ _⟩
theorem CnRel.later {w1 : World} {root : Int} {xs : List Node} {v4 : Value} {W W1 : World} (h : CnRel w1 root xs v4 W) (hb : Below W.heap.size W W1) : CnRel w1 root xs v4 W1 :=
  ⟨below_step h.below hb, (hb.block _ (blk_lt h.out)).trans h.out, Kd.R_below h.row hb⟩
theorem CnRel.drewN {w1 : World} {root : Int} {xs : List Node} {v4 : Value} {W : World} (h : CnRel w1 root xs v4 W) (m : Nat) : CnRel w1 root xs v4 (W.drewN m) := h.later (pw_below_drewN (Below.refl _ _) m)
theorem CnRel.put {w1 : World} {root : Int} {xs : List Node} {v4 v5 : Value} {ys : List Node} {W w2 : World} (h : CnRel w1 root xs v4 W) (hR : kNode.R 26 w2 w1.heap.size (fun _ => True) v5 ys) (hB : Below w1.heap.size w1 w2) (hg : W.grownBy w2 v4.ownBlock) :
    w2.heap[w1.heap.size]? = some (.cells #[v4, .int .i64 root] 39 (0, 0)) ∧ CnRel w1 root ys v5 (w2.setCell ⟨w1.heap.size, 0, none⟩ v5) := by
  have hb := blk_grown h.out hg (Kd.R_ne h.row h.out (by decide))
  refine ⟨hb, below_set hB (Nat.le_refl _), ?_, R_type hR hb (by decide) v5 0⟩
  have := blk_set hb 0 v5
  simpa using this
theorem node_off {W : World} {base : Nat} {n : Node} {v1 v2 v3 v4 : Value} {xs : List Node} (h1 : (Kd.int .i64).R 2 W base (fun _ => True) v1 n.ints) (h2 : Kd.string.R 9 W base (fun _ => True) v2 n.texts) (h3 : (Kd.int .i64).R 3 W base (fun _ => True) v3 n.kids)
    (h : kNode.R 26 W base (fun _ => True) v4 xs) : kNode.M W base (fun k => some k ≠ v4.ownBlock) n [.int .i64 n.kind, v1, v2, v3] :=
  kNode_mkM (Kd.R_mono (Kd.R_tight rfl h1) (fun k hk => R_apart h1 h (by decide) k hk)) (Kd.R_mono (Kd.R_tight rfl h2) (fun k hk => R_apart h2 h (by decide) k hk)) (Kd.R_mono (Kd.R_tight rfl h3) (fun k hk => R_apart h3 h (by decide) k hk))
end Go.Proofs.YtglfebpgdghlfaaDoor.L
end
section
namespace Go.Proofs.YtglfebpgdghlfaaDoor.L
open Go.RowKit Go.ChangeShapes Go.WideShapes Go.Proofs.YtglfebpgdghlfaaDoorW.PrintWords Go.Proofs.YtglfebpgdghlfaaDoorW.PrintLast Go.Proofs.YtglfebpgdghlfaaDoorW.PrintMore
attribute [local go_sem] max2_int min2_int max_two min_two max_three min_three max_four min_four
structure PF (w : World) (g r : Nat) (cs : Array Value) (W : World) (v1 v2 v3 : Value) (l1 : List Int) (l2 : List ByteArray) (l3 : List Int) : Prop where
  below : Below w.heap.size w W
  box : W.heap[g]? = some (.cells cs 26 (0, 0))
  res : W.heap[r]? = some (.cells #[.int .i64 0, .slice none 0 0, .slice none 0 0, .slice none 0 0] 26 (0, 0))
  r1 : (Kd.int .i64).R 2 W w.heap.size (fun _ => True) v1 l1
  r2 : Kd.string.R 9 W w.heap.size (fun _ => True) v2 l2
  r3 : (Kd.int .i64).R 3 W w.heap.size (fun _ => True) v3 l3
section
variable {w : World} {g r : Nat} {cs : Array Value} {W W1 : World} {v1 v2 v3 : Value} {l1 : List Int} {l2 : List ByteArray} {l3 : List Int}
theorem PF.later (h : PF w g r cs W v1 v2 v3 l1 l2 l3) (hb : Below W.heap.size W W1) : PF w g r cs W1 v1 v2 v3 l1 l2 l3 :=
  ⟨below_step h.below hb, (hb.block _ (blk_lt h.box)).trans h.box, (hb.block _ (blk_lt h.res)).trans h.res, Kd.R_below h.r1 hb, Kd.R_below h.r2 hb, Kd.R_below h.r3 hb⟩
theorem PF.alloc (h : PF w g r cs W v1 v2 v3 l1 l2 l3) (o : Obj) : PF w g r cs (W.alloc o) v1 v2 v3 l1 l2 l3 := h.later (below_alloc (Below.refl _ _) o)
theorem PF.drew (h : PF w g r cs W v1 v2 v3 l1 l2 l3) : PF w g r cs W.drew v1 v2 v3 l1 l2 l3 := h.later (below_drew (Below.refl _ _))
theorem PF.lives (h : PF w g r cs W v1 v2 v3 l1 l2 l3) : Lives 4 r W := ⟨_, rfl, _, h.res⟩
theorem PF.cell (h : PF w g r cs W v1 v2 v3 l1 l2 l3) (i : Nat) {v : Value} (hv : cs[i]? = some v) : W.cell? ⟨g, i, none⟩ = some v := (blk_cell h.box i).trans hv
theorem PF.lit1 (h : PF w g r cs W v1 v2 v3 l1 l2 l3) (b : Nat) (hb : b = W.heap.size) : PF w g r cs (W.alloc (.cells #[] 2)) (.slice (some ⟨b, 0, none⟩) 0 0) v2 v3 [] l2 l3 := by
  subst hb
  have h' := h.alloc (.cells #[] 2)
  exact { h' with r1 := R_empty _ _ _ _ h.below.size }
theorem PF.lit1a (h : PF w g r cs W v1 v2 v3 l1 l2 l3) : PF w g r cs (W.alloc (.cells #[] 2)) (.slice (some ⟨W.heap.size, 0, none⟩) 0 0) v2 v3 [] l2 l3 := h.lit1 _ rfl
theorem PF.lit1b {o : Obj} (h : PF w g r cs (W.alloc o) v1 v2 v3 l1 l2 l3) : PF w g r cs ((W.alloc o).alloc (.cells #[] 2)) (.slice (some ⟨W.heap.size + 1, 0, none⟩) 0 0) v2 v3 [] l2 l3 := h.lit1 _ (by simp)
theorem PF.lit1c {o o' : Obj} (h : PF w g r cs ((W.alloc o).alloc o') v1 v2 v3 l1 l2 l3) : PF w g r cs (((W.alloc o).alloc o').alloc (.cells #[] 2)) (.slice (some ⟨W.heap.size + 1 + 1, 0, none⟩) 0 0) v2 v3 [] l2 l3 := h.lit1 _ (by simp)
theorem PF.app1 {b n c : Nat} {u : Value} {m : List Int} (h : PF w g r cs W (.slice (some ⟨b, 0, none⟩) n c) v2 v3 l1 l2 l3) (hR : (Kd.int .i64).R 2 W1 w.heap.size (fun _ => True) u m) (hB : Below w.heap.size w W1) (hg : W.grownBy W1 (Value.slice (some ⟨b, 0, none⟩) n c).ownBlock) : PF w g r cs W1 u v2 v3 m l2 l3 := by
  obtain ⟨cells, hc⟩ := Kd.R_typed h.r1 b rfl
  have hg' : W.grownBy W1 (some b) := hg
  refine ⟨hB, blk_grown h.box hg' (fun e => ?_), blk_grown h.res hg' (fun e => ?_), hR, Kd.R_grown1 h.r2 rfl hg (Kd.R_ne h.r2 hc (by decide)), Kd.R_grown1 h.r3 rfl hg (Kd.R_ne h.r3 hc (by decide))⟩
  · injection e with e
    have h1 := h.box
    rw [e, hc] at h1
    injection h1 with h1
    injection h1 with _ h1
    exact absurd h1 (by decide)
  · injection e with e
    have h1 := h.res
    rw [e, hc] at h1
    injection h1 with h1
    injection h1 with _ h1
    exact absurd h1 (by decide)
theorem PF.lit2 (h : PF w g r cs W v1 v2 v3 l1 l2 l3) (b : Nat) (hb : b = W.heap.size) : PF w g r cs (W.alloc (.cells #[] 9)) v1 (.slice (some ⟨b, 0, none⟩) 0 0) v3 l1 [] l3 := by
  subst hb
  have h' := h.alloc (.cells #[] 9)
  exact { h' with r2 := R_empty _ _ _ _ h.below.size }
theorem PF.lit2a (h : PF w g r cs W v1 v2 v3 l1 l2 l3) : PF w g r cs (W.alloc (.cells #[] 9)) v1 (.slice (some ⟨W.heap.size, 0, none⟩) 0 0) v3 l1 [] l3 := h.lit2 _ rfl
theorem PF.lit2b {o : Obj} (h : PF w g r cs (W.alloc o) v1 v2 v3 l1 l2 l3) : PF w g r cs ((W.alloc o).alloc (.cells #[] 9)) v1 (.slice (some ⟨W.heap.size + 1, 0, none⟩) 0 0) v3 l1 [] l3 := h.lit2 _ (by simp)
theorem PF.lit2c {o o' : Obj} (h : PF w g r cs ((W.alloc o).alloc o') v1 v2 v3 l1 l2 l3) : PF w g r cs (((W.alloc o).alloc o').alloc (.cells #[] 9)) v1 (.slice (some ⟨W.heap.size + 1 + 1, 0, none⟩) 0 0) v3 l1 [] l3 := h.lit2 _ (by simp)
theorem PF.app2 {b n c : Nat} {u : Value} {m : List ByteArray} (h : PF w g r cs W v1 (.slice (some ⟨b, 0, none⟩) n c) v3 l1 l2 l3) (hR : Kd.string.R 9 W1 w.heap.size (fun _ => True) u m) (hB : Below w.heap.size w W1) (hg : W.grownBy W1 (Value.slice (some ⟨b, 0, none⟩) n c).ownBlock) : PF w g r cs W1 v1 u v3 l1 m l3 := by
  obtain ⟨cells, hc⟩ := Kd.R_typed h.r2 b rfl
  have hg' : W.grownBy W1 (some b) := hg
  refine ⟨hB, blk_grown h.box hg' (fun e => ?_), blk_grown h.res hg' (fun e => ?_), Kd.R_grown1 h.r1 rfl hg (Kd.R_ne h.r1 hc (by decide)), hR, Kd.R_grown1 h.r3 rfl hg (Kd.R_ne h.r3 hc (by decide))⟩
  · injection e with e
    have h1 := h.box
    rw [e, hc] at h1
    injection h1 with h1
    injection h1 with _ h1
    exact absurd h1 (by decide)
  · injection e with e
    have h1 := h.res
    rw [e, hc] at h1
    injection h1 with h1
    injection h1 with _ h1
    exact absurd h1 (by decide)
theorem PF.lit3 (h : PF w g r cs W v1 v2 v3 l1 l2 l3) (b : Nat) (hb : b = W.heap.size) : PF w g r cs (W.alloc (.cells #[] 3)) v1 v2 (.slice (some ⟨b, 0, none⟩) 0 0) l1 l2 [] := by
  subst hb
  have h' := h.alloc (.cells #[] 3)
  exact { h' with r3 := R_empty _ _ _ _ h.below.size }
theorem PF.lit3a (h : PF w g r cs W v1 v2 v3 l1 l2 l3) : PF w g r cs (W.alloc (.cells #[] 3)) v1 v2 (.slice (some ⟨W.heap.size, 0, none⟩) 0 0) l1 l2 [] := h.lit3 _ rfl
theorem PF.lit3b {o : Obj} (h : PF w g r cs (W.alloc o) v1 v2 v3 l1 l2 l3) : PF w g r cs ((W.alloc o).alloc (.cells #[] 3)) v1 v2 (.slice (some ⟨W.heap.size + 1, 0, none⟩) 0 0) l1 l2 [] := h.lit3 _ (by simp)
theorem PF.lit3c {o o' : Obj} (h : PF w g r cs ((W.alloc o).alloc o') v1 v2 v3 l1 l2 l3) : PF w g r cs (((W.alloc o).alloc o').alloc (.cells #[] 3)) v1 v2 (.slice (some ⟨W.heap.size + 1 + 1, 0, none⟩) 0 0) l1 l2 [] := h.lit3 _ (by simp)
theorem PF.app3 {b n c : Nat} {u : Value} {m : List Int} (h : PF w g r cs W v1 v2 (.slice (some ⟨b, 0, none⟩) n c) l1 l2 l3) (hR : (Kd.int .i64).R 3 W1 w.heap.size (fun _ => True) u m) (hB : Below w.heap.size w W1) (hg : W.grownBy W1 (Value.slice (some ⟨b, 0, none⟩) n c).ownBlock) : PF w g r cs W1 v1 v2 u l1 l2 m := by
  obtain ⟨cells, hc⟩ := Kd.R_typed h.r3 b rfl
  have hg' : W.grownBy W1 (some b) := hg
  refine ⟨hB, blk_grown h.box hg' (fun e => ?_), blk_grown h.res hg' (fun e => ?_), Kd.R_grown1 h.r1 rfl hg (Kd.R_ne h.r1 hc (by decide)), Kd.R_grown1 h.r2 rfl hg (Kd.R_ne h.r2 hc (by decide)), hR⟩
  · injection e with e
    have h1 := h.box
    rw [e, hc] at h1
    injection h1 with h1
    injection h1 with _ h1
    exact absurd h1 (by decide)
  · injection e with e
    have h1 := h.res
    rw [e, hc] at h1
    injection h1 with h1
    injection h1 with _ h1
    exact absurd h1 (by decide)
theorem PF.step1 {ops : Array Oper} {o : Oper} {a : Act} {Q : Exit → Act → World → Prop} {Kc : Act → World → Prop} {b : Nat} {A : Option Addr} {c : Nat} {l : List Int} (s x : Operand) (h : PF w g r cs W (.slice (some ⟨b, 0, none⟩) 0 0) v2 v3 [] l2 l3) (hw : Region.wanted o (yielded ops a.tmps) = true)
    (ho : o.op = .call { callee := .builtin .append, args := #[s, x], argTypes := #[22, 22] }) (hs : a.eval s = .slice (some ⟨b, 0, none⟩) 0 0) (hx : a.eval x = .slice A l.length c) (hC : (Kd.int .i64).C w A l.length l) (hl : l.length ≤ 1000000)
    (hK : ∀ B d W1, PF w g r cs W1 (.slice B l.length d) v2 v3 l l2 l3 → Kc (a.put o.dst (.slice B l.length d)) W1) : if Region.wanted o (yielded ops a.tmps) = true then Oper.wp Tryd.prog o a W Kc Q else Kc (a.put o.dst undef) W := by
  refine Kd.R_append_rows_step (Kd.int .i64) (Rr := fun x cs => cs = [.int .i64 x]) (w0 := w) w.heap.size hw s x 22 2 (.int .i64 0) 8 ho Tryd.underlying22 info_i64 rfl (by decide) (by omega) _ [] l A l.length c (fun _ => True) (fun _ => False) hs hx h.r1 (Kd.C_below hC h.below) (fun _ _ h => h) (fun _ h => h.elim) (fun _ _ => trivial) h.below h.below.size (by simp; omega) ?_
  intro u W1 hR hB hg _
  obtain ⟨B, d, rfl⟩ := Kd.R_slice hR
  exact hK B d W1 (h.app1 hR hB hg)
theorem PF.step2 {ops : Array Oper} {o : Oper} {a : Act} {Q : Exit → Act → World → Prop} {Kc : Act → World → Prop} {b : Nat} {A : Option Addr} {c : Nat} {l : List ByteArray} (s x : Operand) (h : PF w g r cs W v1 (.slice (some ⟨b, 0, none⟩) 0 0) v3 l1 [] l3) (hw : Region.wanted o (yielded ops a.tmps) = true)
    (ho : o.op = .call { callee := .builtin .append, args := #[s, x], argTypes := #[23, 23] }) (hs : a.eval s = .slice (some ⟨b, 0, none⟩) 0 0) (hx : a.eval x = .slice A l.length c) (hC : Kd.string.C w A l.length l) (hl : l.length ≤ 1000000)
    (hK : ∀ B d W1, PF w g r cs W1 v1 (.slice B l.length d) v3 l1 l l3 → Kc (a.put o.dst (.slice B l.length d)) W1) : if Region.wanted o (yielded ops a.tmps) = true then Oper.wp Tryd.prog o a W Kc Q else Kc (a.put o.dst undef) W := by
  refine Kd.R_append_rows_step Kd.string (Rr := fun x cs => cs = [.string x]) (w0 := w) w.heap.size hw s x 23 9 (.string ByteArray.empty) 16 ho Tryd.underlying23 info_str rfl (by decide) (by omega) _ [] l A l.length c (fun _ => True) (fun _ => False) hs hx h.r2 (Kd.C_below hC h.below) (fun _ _ h => h) (fun _ h => h.elim) (fun _ _ => trivial) h.below h.below.size (by simp; omega) ?_
  intro u W1 hR hB hg _
  obtain ⟨B, d, rfl⟩ := Kd.R_slice hR
  exact hK B d W1 (h.app2 hR hB hg)
theorem PF.step3 {ops : Array Oper} {o : Oper} {a : Act} {Q : Exit → Act → World → Prop} {Kc : Act → World → Prop} {b : Nat} {A : Option Addr} {c : Nat} {l : List Int} (s x : Operand) (h : PF w g r cs W v1 v2 (.slice (some ⟨b, 0, none⟩) 0 0) l1 l2 []) (hw : Region.wanted o (yielded ops a.tmps) = true)
    (ho : o.op = .call { callee := .builtin .append, args := #[s, x], argTypes := #[24, 24] }) (hs : a.eval s = .slice (some ⟨b, 0, none⟩) 0 0) (hx : a.eval x = .slice A l.length c) (hC : (Kd.int .i64).C w A l.length l) (hl : l.length ≤ 1000000)
    (hK : ∀ B d W1, PF w g r cs W1 v1 v2 (.slice B l.length d) l1 l2 l → Kc (a.put o.dst (.slice B l.length d)) W1) : if Region.wanted o (yielded ops a.tmps) = true then Oper.wp Tryd.prog o a W Kc Q else Kc (a.put o.dst undef) W := by
  refine Kd.R_append_rows_step (Kd.int .i64) (Rr := fun x cs => cs = [.int .i64 x]) (w0 := w) w.heap.size hw s x 24 3 (.int .i64 0) 8 ho Tryd.underlying24 info_int rfl (by decide) (by omega) _ [] l A l.length c (fun _ => True) (fun _ => False) hs hx h.r3 (Kd.C_below hC h.below) (fun _ _ h => h) (fun _ h => h.elim) (fun _ _ => trivial) h.below h.below.size (by simp; omega) ?_
  intro u W1 hR hB hg _
  obtain ⟨B, d, rfl⟩ := Kd.R_slice hR
  exact hK B d W1 (h.app3 hR hB hg)
theorem PF.done {n : Node} (h : PF w g r cs W v1 v2 v3 n.ints n.texts n.kids) (hr : w.heap.size ≤ r) :
    kNode.M ((((W.setCell ⟨r, 0, none⟩ (.int .i64 n.kind)).setCell ⟨r, 1, none⟩ v1).setCell ⟨r, 2, none⟩ v2).setCell ⟨r, 3, none⟩ v3) w.heap.size (fun _ => True) n [.int .i64 n.kind, v1, v2, v3] ∧
    Below w.heap.size w ((((W.setCell ⟨r, 0, none⟩ (.int .i64 n.kind)).setCell ⟨r, 1, none⟩ v1).setCell ⟨r, 2, none⟩ v2).setCell ⟨r, 3, none⟩ v3) := by
  have hb0 := h.res
  have hb1 := blk_set hb0 0 (.int .i64 n.kind)
  have hb2 := blk_set hb1 1 v1
  have hb3 := blk_set hb2 2 v2
  refine ⟨kNode_mkM ?_ ?_ ?_, below_set4 h.below hr⟩
  · exact Kd.R_set (Kd.R_set (Kd.R_set (Kd.R_set h.r1 hb0 (by decide) _ _) hb1 (by decide) _ _) hb2 (by decide) _ _) hb3 (by decide) _ _
  · exact Kd.R_set (Kd.R_set (Kd.R_set (Kd.R_set h.r2 hb0 (by decide) _ _) hb1 (by decide) _ _) hb2 (by decide) _ _) hb3 (by decide) _ _
  · exact Kd.R_set (Kd.R_set (Kd.R_set (Kd.R_set h.r3 hb0 (by decide) _ _) hb1 (by decide) _ _) hb2 (by decide) _ _) hb3 (by decide) _ _
end
set_option maxRecDepth 100000 in
set_option maxHeartbeats 4000000 in
theorem rcopy_any (n : Node) (A1 : Option Addr) (c1 : Nat) (A2 : Option Addr) (c2 : Nat) (A3 : Option Addr) (c3 : Nat) (w : World) (h : NodeC w n A1 c1 A2 c2 A3 c3) (hs : Small n) :
    Calls Tryd.prog 13 #[.agg #[.int .i64 n.kind, .slice A1 n.ints.length c1, .slice A2 n.texts.length c2, .slice A3 n.kids.length c3]] w (CopyPost n w) := by
  have HN := Aside0.mk h
  have HS := Aside0.mk hs
  have HP : Aside0 (PF w w.heap.size (w.heap.size + 1) #[.int .i64 n.kind, .slice A1 n.ints.length c1, .slice A2 n.texts.length c2, .slice A3 n.kids.length c3] ((w.alloc (.cells #[.int .i64 n.kind, .slice A1 n.ints.length c1, .slice A2 n.texts.length c2, .slice A3 n.kids.length c3] 26)).alloc (.cells #[.int .i64 0, .slice none 0 0, .slice none 0 0, .slice none 0 0] 26)) (.slice none 0 0) (.slice none 0 0) (.slice none 0 0) [] [] []) := ⟨by
    have b1 := below_alloc (Below.refl w.heap.size w) (.cells #[.int .i64 n.kind, .slice A1 n.ints.length c1, .slice A2 n.texts.length c2, .slice A3 n.kids.length c3] 26)
    have n1 := heap_alloc_new w (.cells #[.int .i64 n.kind, .slice A1 n.ints.length c1, .slice A2 n.texts.length c2, .slice A3 n.kids.length c3] 26)
    generalize hw1 : w.alloc (.cells #[.int .i64 n.kind, .slice A1 n.ints.length c1, .slice A2 n.texts.length c2, .slice A3 n.kids.length c3] 26) = W1 at b1 n1 ⊢
    have s1 : W1.heap.size = w.heap.size + 1 := by rw [← hw1]; simp
    have b2 := below_alloc (Below.refl W1.heap.size W1) (.cells #[.int .i64 0, .slice none 0 0, .slice none 0 0, .slice none 0 0] 26)
    have n2 := heap_alloc_new W1 (.cells #[.int .i64 0, .slice none 0 0, .slice none 0 0, .slice none 0 0] 26)
    rw [s1] at n2
    exact ⟨below_step b1 b2, (b2.block _ (by omega)).trans n1, n2, Kd.R_nil _ _ _ _ _, Kd.R_nil _ _ _ _ _, Kd.R_nil _ _ _ _ _⟩⟩
  have hu := Tryd.underlying26
  clear h hs
  have hL0 := fun (W : World) (h : Lives 4 (w.heap.size + 1) W) => h.at 0 (by omega)
  have hL1 := fun (W : World) (h : Lives 4 (w.heap.size + 1) W) => h.at 1 (by omega)
  have hL2 := fun (W : World) (h : Lives 4 (w.heap.size + 1) W) => h.at 2 (by omega)
  have hL3 := fun (W : World) (h : Lives 4 (w.heap.size + 1) W) => h.at 3 (by omega)
  go_enter Tryd.func13, Tryd.ntmps13
  go_wp2_with fail
  generalize (w.alloc (.cells #[.int .i64 n.kind, .slice A1 n.ints.length c1, .slice A2 n.texts.length c2, .slice A3 n.kids.length c3] 26)).alloc (.cells #[.int .i64 0, .slice none 0 0, .slice none 0 0, .slice none 0 0] 26) = W0 at HP ⊢
  go_region_held3 (fun W => W.cell? ⟨w.heap.size, 0, none⟩ = some (.int .i64 n.kind) ∧ W.cell? ⟨w.heap.size, 1, none⟩ = some (.slice A1 n.ints.length c1) ∧ W.cell? ⟨w.heap.size, 2, none⟩ = some (.slice A2 n.texts.length c2) ∧ W.cell? ⟨w.heap.size, 3, none⟩ = some (.slice A3 n.kids.length c3) ∧ Lives 4 (w.heap.size + 1) W)
    (first
      | (go_split_ands
         refine ⟨?_, ?_, ?_, ?_, ?_⟩
         all_goals first
           | with_reducible exact HP.out.cell _ rfl
           | with_reducible exact HP.out.lives
           | with_reducible exact HP.out.drew.cell _ rfl
           | with_reducible exact HP.out.drew.lives
           | with_reducible exact (HP.out.alloc _).cell _ rfl
           | with_reducible exact (HP.out.alloc _).lives
           | with_reducible exact (HP.out.alloc _).drew.cell _ rfl
           | with_reducible exact (HP.out.alloc _).drew.lives
           | with_reducible exact ((HP.out.alloc _).alloc _).cell _ rfl
           | with_reducible exact ((HP.out.alloc _).alloc _).lives
           | with_reducible exact ((HP.out.alloc _).alloc _).drew.cell _ rfl
           | with_reducible exact ((HP.out.alloc _).alloc _).drew.lives
           | with_reducible exact (((HP.out.alloc _).alloc _).alloc _).cell _ rfl
           | with_reducible exact (((HP.out.alloc _).alloc _).alloc _).lives
           | with_reducible exact (((HP.out.alloc _).alloc _).alloc _).drew.cell _ rfl
           | with_reducible exact (((HP.out.alloc _).alloc _).alloc _).drew.lives
           | with_reducible exact far_set (far_set (far_set (far_set (by assumption) _ _ (by simp) _) _ _ (by simp) _) _ _ (by simp) _) _ _ (by simp) _
           | with_reducible exact Lives.set (Lives.set (Lives.set (Lives.set (by assumption) _ _) _ _) _ _) _ _
           | (simp; done)))
    (first
      | (refine' PF.step1 (.tmp 5) (.tmp 7) ?hP ?hw ?ho ?hs ?hx HN.out.i HS.out.1 ?_; (case hw => rfl); (case ho => rfl); (case hs => rfl); (case hx => rfl); (case hP => first | with_reducible exact HP.out | with_reducible exact (HP.out).drew | with_reducible exact HP.out.lit1a | with_reducible exact (HP.out.lit1a).drew | with_reducible exact HP.out.lit2a | with_reducible exact (HP.out.lit2a).drew | with_reducible exact HP.out.lit3a | with_reducible exact (HP.out.lit3a).drew | with_reducible exact HP.out.lit1a.lit2b | with_reducible exact (HP.out.lit1a.lit2b).drew | with_reducible exact HP.out.lit1a.lit3b | with_reducible exact (HP.out.lit1a.lit3b).drew | with_reducible exact HP.out.lit2a.lit1b | with_reducible exact (HP.out.lit2a.lit1b).drew | with_reducible exact HP.out.lit2a.lit3b | with_reducible exact (HP.out.lit2a.lit3b).drew | with_reducible exact HP.out.lit3a.lit1b | with_reducible exact (HP.out.lit3a.lit1b).drew | with_reducible exact HP.out.lit3a.lit2b | with_reducible exact (HP.out.lit3a.lit2b).drew | with_reducible exact HP.out.lit1a.lit2b.lit3c | with_reducible exact (HP.out.lit1a.lit2b.lit3c).drew | with_reducible exact HP.out.lit1a.lit3b.lit2c | with_reducible exact (HP.out.lit1a.lit3b.lit2c).drew | with_reducible exact HP.out.lit2a.lit1b.lit3c | with_reducible exact (HP.out.lit2a.lit1b.lit3c).drew | with_reducible exact HP.out.lit2a.lit3b.lit1c | with_reducible exact (HP.out.lit2a.lit3b.lit1c).drew | with_reducible exact HP.out.lit3a.lit1b.lit2c | with_reducible exact (HP.out.lit3a.lit1b.lit2c).drew | with_reducible exact HP.out.lit3a.lit2b.lit1c | with_reducible exact (HP.out.lit3a.lit2b.lit1c).drew); intro B1 d1 w1 hP; replace HP := Aside0.mk hP; clear hP)
      | (refine' PF.step2 (.tmp 9) (.tmp 11) ?hP ?hw ?ho ?hs ?hx HN.out.t HS.out.2.1 ?_; (case hw => rfl); (case ho => rfl); (case hs => rfl); (case hx => rfl); (case hP => first | with_reducible exact HP.out | with_reducible exact (HP.out).drew | with_reducible exact HP.out.lit1a | with_reducible exact (HP.out.lit1a).drew | with_reducible exact HP.out.lit2a | with_reducible exact (HP.out.lit2a).drew | with_reducible exact HP.out.lit3a | with_reducible exact (HP.out.lit3a).drew | with_reducible exact HP.out.lit1a.lit2b | with_reducible exact (HP.out.lit1a.lit2b).drew | with_reducible exact HP.out.lit1a.lit3b | with_reducible exact (HP.out.lit1a.lit3b).drew | with_reducible exact HP.out.lit2a.lit1b | with_reducible exact (HP.out.lit2a.lit1b).drew | with_reducible exact HP.out.lit2a.lit3b | with_reducible exact (HP.out.lit2a.lit3b).drew | with_reducible exact HP.out.lit3a.lit1b | with_reducible exact (HP.out.lit3a.lit1b).drew | with_reducible exact HP.out.lit3a.lit2b | with_reducible exact (HP.out.lit3a.lit2b).drew | with_reducible exact HP.out.lit1a.lit2b.lit3c | with_reducible exact (HP.out.lit1a.lit2b.lit3c).drew | with_reducible exact HP.out.lit1a.lit3b.lit2c | with_reducible exact (HP.out.lit1a.lit3b.lit2c).drew | with_reducible exact HP.out.lit2a.lit1b.lit3c | with_reducible exact (HP.out.lit2a.lit1b.lit3c).drew | with_reducible exact HP.out.lit2a.lit3b.lit1c | with_reducible exact (HP.out.lit2a.lit3b.lit1c).drew | with_reducible exact HP.out.lit3a.lit1b.lit2c | with_reducible exact (HP.out.lit3a.lit1b.lit2c).drew | with_reducible exact HP.out.lit3a.lit2b.lit1c | with_reducible exact (HP.out.lit3a.lit2b.lit1c).drew); intro B2 d2 w2 hP; replace HP := Aside0.mk hP; clear hP)
      | (refine' PF.step3 (.tmp 13) (.tmp 15) ?hP ?hw ?ho ?hs ?hx HN.out.k HS.out.2.2 ?_; (case hw => rfl); (case ho => rfl); (case hs => rfl); (case hx => rfl); (case hP => first | with_reducible exact HP.out | with_reducible exact (HP.out).drew | with_reducible exact HP.out.lit1a | with_reducible exact (HP.out.lit1a).drew | with_reducible exact HP.out.lit2a | with_reducible exact (HP.out.lit2a).drew | with_reducible exact HP.out.lit3a | with_reducible exact (HP.out.lit3a).drew | with_reducible exact HP.out.lit1a.lit2b | with_reducible exact (HP.out.lit1a.lit2b).drew | with_reducible exact HP.out.lit1a.lit3b | with_reducible exact (HP.out.lit1a.lit3b).drew | with_reducible exact HP.out.lit2a.lit1b | with_reducible exact (HP.out.lit2a.lit1b).drew | with_reducible exact HP.out.lit2a.lit3b | with_reducible exact (HP.out.lit2a.lit3b).drew | with_reducible exact HP.out.lit3a.lit1b | with_reducible exact (HP.out.lit3a.lit1b).drew | with_reducible exact HP.out.lit3a.lit2b | with_reducible exact (HP.out.lit3a.lit2b).drew | with_reducible exact HP.out.lit1a.lit2b.lit3c | with_reducible exact (HP.out.lit1a.lit2b.lit3c).drew | with_reducible exact HP.out.lit1a.lit3b.lit2c | with_reducible exact (HP.out.lit1a.lit3b.lit2c).drew | with_reducible exact HP.out.lit2a.lit1b.lit3c | with_reducible exact (HP.out.lit2a.lit1b.lit3c).drew | with_reducible exact HP.out.lit2a.lit3b.lit1c | with_reducible exact (HP.out.lit2a.lit3b.lit1c).drew | with_reducible exact HP.out.lit3a.lit1b.lit2c | with_reducible exact (HP.out.lit3a.lit1b.lit2c).drew | with_reducible exact HP.out.lit3a.lit2b.lit1c | with_reducible exact (HP.out.lit3a.lit2b.lit1c).drew); intro B3 d3 w3 hP; replace HP := Aside0.mk hP; clear hP))
  all_goals
    clear hL0 hL1 hL2 hL3
    go_wp2
    have h4 := HP.out.lives.set4 (.int .i64 n.kind) (.slice B1 n.ints.length d1) (.slice B2 n.texts.length d2) (.slice B3 n.kids.length d3)
    obtain ⟨hM, hB⟩ := HP.out.done (n := n) (Nat.le_succ _)
    exact bodyPost_ret (v := .agg #[.int .i64 n.kind, .slice B1 n.ints.length d1, .slice B2 n.texts.length d2, .slice B3 n.kids.length d3]) (by simp [results, Tryd.results13, go_sem, h4]) rfl ⟨_, rfl, ⟨_, _, _, rfl, hM⟩, hB⟩
end Go.Proofs.YtglfebpgdghlfaaDoor.L
end
section
namespace Go.Proofs.YtglfebpgdghlfaaDoor.L
open Go.RowKit Go.ChangeShapes Go.WideShapes Go.Proofs.YtglfebpgdghlfaaDoorW.PrintWords Go.Proofs.YtglfebpgdghlfaaDoorW.PrintLast Go.Proofs.YtglfebpgdghlfaaDoorW.PrintMore
attribute [local go_sem] max2_int min2_int max_two min_two max_three min_three max_four min_four
def SceneCPost (t : Scene) (w : World) (e : Ending) (w' : World) : Prop := ∃ A c, e = .returned (.agg #[.slice A t.nodes.length c, .int .i64 t.root]) ∧ t.nodes.length ≤ c ∧ kNode.C w' A t.nodes.length t.nodes ∧ Below w.heap.size w w'
set_option maxRecDepth 100000 in
set_option maxHeartbeats 4000000 in
theorem scopy_any (A : Option Addr) (c : Nat) (s : Scene) (w : World) (h : kNode.C w A s.nodes.length s.nodes) (hc : s.nodes.length ≤ c) (hn : s.nodes.length ≤ 1000000) (hs : ∀ i : Nat, i < s.nodes.length → Small (nd s.nodes i)) :
    Calls Tryd.prog 20 #[.agg #[.slice A s.nodes.length c, .int .i64 s.root]] w (SceneCPost s w) := by
  have HR := Aside0.mk h
  have HSm := Aside0.mk hs
  have hu := Tryd.underlying39
  have hun := Tryd.underlying26
  obtain ⟨w1, hw1⟩ : ∃ w1, w1 = (w.alloc (.cells #[.slice A s.nodes.length c, .int .i64 s.root] 39)).alloc (.cells #[.slice none 0 0, .int .i64 0] 39) := ⟨_, rfl⟩
  have b1 := below_alloc (Below.refl w.heap.size w) (.cells #[.slice A s.nodes.length c, .int .i64 s.root] 39)
  have b2 := below_alloc (Below.refl (w.alloc (.cells #[.slice A s.nodes.length c, .int .i64 s.root] 39)).heap.size (w.alloc (.cells #[.slice A s.nodes.length c, .int .i64 s.root] 39))) (.cells #[.slice none 0 0, .int .i64 0] 39)
  have k0 := box_cell2 w _ rfl #[.slice A s.nodes.length c, .int .i64 s.root] 39 (.cells #[.slice none 0 0, .int .i64 0] 39) 0 (.slice A s.nodes.length c) rfl
  have k1 := box_cell2 w _ rfl #[.slice A s.nodes.length c, .int .i64 s.root] 39 (.cells #[.slice none 0 0, .int .i64 0] 39) 1 (.int .i64 s.root) rfl
  have HZ := Aside0.mk (show w1.heap[w.heap.size + 1]? = some (.cells #[.slice none 0 0, .int .i64 0] 39 (0, 0)) from by
    rw [hw1]
    have := heap_alloc_new (w.alloc (.cells #[.slice A s.nodes.length c, .int .i64 s.root] 39)) (.cells #[.slice none 0 0, .int .i64 0] 39)
    simpa using this)
  have HB := Aside0.mk (show Below w.heap.size w w1 from by rw [hw1]; exact below_step b1 b2)
  have HZs := Aside0.mk (show w1.heap.size = w.heap.size + 2 from by rw [hw1]; simp)
  have HK := Aside0.mk (show w1.cell? ⟨w.heap.size, 0, none⟩ = some (.slice A s.nodes.length c) from by rw [hw1]; exact k0)
  have HI := Aside0.mk (CnRel.start w1 s.root)
  clear h hs b1 b2
  go_enter Tryd.func20, Tryd.ntmps20
  go_wp2
  rw [← hw1]
  clear k0 k1 hw1
  rw [show w.heap.size + 1 + 1 = w1.heap.size from by have := HZs.out; omega]
  generalize w1.alloc (.cells #[.slice none 0 0, .int .i64 s.root] 39) = W5 at HI ⊢
  go_loopw [4] (fun v4 W => ∃ i : Nat, i ≤ s.nodes.length ∧ v4 = .int .i64 i ∧ ∃ A4 c4, Aside0 (CnRel w1 s.root (s.nodes.take i) (.slice A4 i c4) W)) (fun v4 _ => s.nodes.length - (intOf v4).toNat)
  case atStart => exact ⟨0, by omega, rfl, none, 0, by rw [List.take_zero]; exact HI⟩
  case round =>
    clear HI
    obtain ⟨i, hi, rfl, A4, c4, HI⟩ := hrel
    have HW := Aside0.mk (below_step HB.out HI.out.below)
    have k0 := pw_cell_below HI.out.below HK.out
    by_cases hlt : i < s.nodes.length
    · obtain ⟨adn, A1, c1, A2, c2, A3, c3, rfl, x0, x1, x2, x3, hN⟩ := at_node HR.out i hlt
      have hTk := Aside0.mk (show s.nodes.take (i + 1) = s.nodes.take i ++ [nd s.nodes i] from by rw [take_succ_getD nodez hlt]; rfl)
      have HSq := Aside0.mk (HSm.out i hlt)
      have HN := Aside0.mk hN
      have HX := Aside0.mk (And.intro x0 (And.intro x1 (And.intro x2 x3)))
      generalize nd s.nodes i = q at HX HN HSq hTk x0 x1 x2 x3
      replace x0 := pw_cell_below HW.out x0
      replace x1 := pw_cell_below HW.out x1
      replace x2 := pw_cell_below HW.out x2
      replace x3 := pw_cell_below HW.out x3
      have o0 : wr.cell? ⟨w1.heap.size, 0, none⟩ = some (.slice A4 i c4) := (blk_cell HI.out.out 0).trans rfl
      have o0d : wr.drew.cell? ⟨w1.heap.size, 0, none⟩ = some (.slice A4 i c4) := o0
      clear hN
      go_wp2
      go_region_law (first
          | (rw [if_pos (by rfl)]; go_simp; go_at_call 13; refine (rcopy_any q A1 c1 A2 c2 A3 c3 wr.drew (HN.out.below (below_drew HW.out)) HSq.out).mono ?_; rintro e w6 ⟨_, rfl, ⟨v1, v2, v3, rfl, hM⟩, hB⟩; obtain ⟨v1', v2', v3', ev, hR1, hR2, hR3⟩ := kNode_openM hM; injection ev with _ ev; injection ev with e1 ev; injection ev with e2 ev; injection ev with e3 _; subst e1 e2 e3; have HI6 := Aside0.mk ((HI.out.drewN 1).later hB); have hs1 := (HI.out.drewN 1).below.size; have HMk := Aside0.mk (node_off (n := q) (Kd.R_lower hR1 hs1) (Kd.R_lower hR2 hs1) (Kd.R_lower hR3 hs1) HI6.out.row); obtain ⟨B1, d1, rfl⟩ := Kd.R_slice hR1; obtain ⟨B2, d2, rfl⟩ := Kd.R_slice hR2; obtain ⟨B3, d3, rfl⟩ := Kd.R_slice hR3; have HB6 := Aside0.mk (below_step HB.out HI6.out.below); have y0 := pw_cell_below HI6.out.below HK.out; have y1 := pw_cell_below HB6.out HX.out.1; have y2 := pw_cell_below HB6.out HX.out.2.1; have y3 := pw_cell_below HB6.out HX.out.2.2.1; have y4 := pw_cell_below HB6.out HX.out.2.2.2; have o1 : w6.cell? ⟨w1.heap.size, 0, none⟩ = some (.slice A4 i c4) := (blk_cell HI6.out.out 0).trans rfl; have o2 := pw_cell_below (below_alloc (Below.refl _ _) (.cells #[.int .i64 q.kind, .slice B1 q.ints.length d1, .slice B2 q.texts.length d2, .slice B3 q.kids.length d3] 26)) o1; clear hM hR1 hR2 hR3 hB hs1; go_simp)
          | (refine Kd.R_append_step kNode (W := w6) (w0 := w1) w1.heap.size (by rfl) (.tmp 16) (.tmp 23) 30 26 (.agg #[.int .i64 0, .slice none 0 0, .slice none 0 0, .slice none 0 0]) 80 rfl Tryd.underlying30 info_nodez rfl (by decide) (by omega) (.slice A4 i c4) (s.nodes.take i) q [.int .i64 q.kind, .slice B1 q.ints.length d1, .slice B2 q.texts.length d2, .slice B3 q.kids.length d3] (fun _ => True) (fun k => some k ≠ (Value.slice A4 i c4).ownBlock) rfl rfl HMk.out (fun k hk => ⟨trivial, hk⟩) (fun _ _ => trivial) HI6.out.row HI6.out.below HI6.out.below.size (by rw [List.length_take]; omega) ?_; intro v5 w8 hR8 hB8 hg8 hat8; rw [← hTk.out] at hR8; obtain ⟨A5, c5, rfl⟩ := Kd.R_slice hR8; have hl8 : (s.nodes.take (i + 1)).length = i + 1 := List.length_take_of_le hlt; rw [hl8] at hR8 ⊢; obtain ⟨hb8, hN8⟩ := HI6.out.put hR8 hB8 hg8; have HN8 := Aside0.mk hN8; have f0 := (blk_cell hb8 0).trans rfl; have f0f := blk_frozen hb8 0; have HB8 := Aside0.mk hB8; have HBn := Aside0.mk (below_step HB.out HB8.out); have z0 := pw_cell_below HB8.out HK.out; have z1 := pw_cell_below HBn.out HX.out.1; have z2 := pw_cell_below HBn.out HX.out.2.1; have z3 := pw_cell_below HBn.out HX.out.2.2.1; have z4 := pw_cell_below HBn.out HX.out.2.2.2; have HBm := Aside0.mk (below_step HB.out HN8.out.below); have t0 := pw_cell_below HN8.out.below HK.out; have t1 := pw_cell_below HBm.out HX.out.1; have t2 := pw_cell_below HBm.out HX.out.2.1; have t3 := pw_cell_below HBm.out HX.out.2.2.1; have t4 := pw_cell_below HBm.out HX.out.2.2.2; clear hR8 hB8 hg8 hat8 hN8 hb8 hl8))
      all_goals
        clear x0 x1 x2 x3 k0 o0 o0d y0 y1 y2 y3 y4 o1 o2 f0 f0f z0 z1 z2 z3 z4 t0 t1 t2 t3 t4
        go_wp2
        go_roundw
        case rel => exact ⟨i + 1, by omega, by go_num, A5, c5, HN8⟩
        case measure => simp [intOf]; omega
    · obtain rfl : i = s.nodes.length := by omega
      have o0 := (blk_cell HI.out.out 0).trans rfl
      have o1 := (blk_cell HI.out.out 1).trans rfl
      have hz := (HI.out.below.block _ (blk_lt HZ.out)).trans HZ.out
      have e0 : wr.cell? ⟨w.heap.size + 1, 0, none⟩ = some (.slice none 0 0) := (blk_cell hz 0).trans rfl
      have e0f := blk_frozen hz 0
      have hz1 := blk_set hz 0 (.slice A4 s.nodes.length c4)
      have e1 : (wr.setCell ⟨w.heap.size + 1, 0, none⟩ (.slice A4 s.nodes.length c4)).cell? ⟨w.heap.size + 1, 1, none⟩ = some (.int .i64 0) := (blk_cell hz1 1).trans rfl
      have e1f := blk_frozen hz1 1
      have hne : w1.heap.size ≠ w.heap.size + 1 := by have := HZs.out; omega
      have HRow := Aside0.mk (R_type (R_type HI.out.row hz (by decide) (.slice A4 s.nodes.length c4) 0) hz1 (by decide) (.int .i64 s.root) 1)
      rw [List.take_length] at HRow
      have hz2 := blk_set hz1 1 (.int .i64 s.root)
      have r0 : ((wr.setCell ⟨w.heap.size + 1, 0, none⟩ (.slice A4 s.nodes.length c4)).setCell ⟨w.heap.size + 1, 1, none⟩ (.int .i64 s.root)).cell? ⟨w.heap.size + 1, 0, none⟩ = some (.slice A4 s.nodes.length c4) := (blk_cell hz2 0).trans rfl
      have r1 : ((wr.setCell ⟨w.heap.size + 1, 0, none⟩ (.slice A4 s.nodes.length c4)).setCell ⟨w.heap.size + 1, 1, none⟩ (.int .i64 s.root)).cell? ⟨w.heap.size + 1, 1, none⟩ = some (.int .i64 s.root) := (blk_cell hz2 1).trans rfl
      clear hz hz1 hz2
      go_wp2
      exact bodyPost_ret (v := .agg #[.slice A4 s.nodes.length c4, .int .i64 s.root]) (by simp [results, Tryd.results20, go_sem, r0, r1]) rfl ⟨A4, c4, rfl, (Kd.R_reads' HRow.out).2.1, (Kd.R_reads' HRow.out).2.2, below_set2 HW.out (Nat.le_succ _)⟩
end Go.Proofs.YtglfebpgdghlfaaDoor.L
end
section
namespace Go.Proofs.YtglfebpgdghlfaaDoor.L
open Go.RowKit Go.ChangeShapes Go.WideShapes Go.Proofs.YtglfebpgdghlfaaDoorW.PrintWords Go.Proofs.YtglfebpgdghlfaaDoorW.PrintLast Go.Proofs.YtglfebpgdghlfaaDoorW.PrintMore
attribute [local go_sem] max2_int min2_int max_two min_two max_three min_three max_four min_four
theorem str_ne {x y : ByteArray} (h : ¬ x = y) : (!(x.toList == y.toList)) = true := by
  have : ¬ x.toList = y.toList := fun e => h (by
    rw [ByteArray.toList_eq, ByteArray.toList_eq] at e
    exact ByteArray.ext (Array.toList_inj.mp e))
  simp [this]
structure DRel (a b : Node) (A1 : Option Addr) (c1 : Nat) (A2 : Option Addr) (c2 : Nat) (A3 : Option Addr) (c3 : Nat) (B1 : Option Addr) (d1 : Nat) (B2 : Option Addr) (d2 : Nat) (B3 : Option Addr) (d3 : Nat) (w : World) (L : List SetV) (v : Value) (W : World) : Prop where
  row : kSet.R 84 W w.heap.size (fun _ => True) v L
  below : Below w.heap.size w W
  ba : W.heap[w.heap.size]? = some (.cells #[.int .i64 a.kind, .slice A1 a.ints.length c1, .slice A2 a.texts.length c2, .slice A3 a.kids.length c3] 26 (0, 0))
  bb : W.heap[w.heap.size + 1]? = some (.cells #[.int .i64 b.kind, .slice B1 a.ints.length d1, .slice B2 a.texts.length d2, .slice B3 b.kids.length d3] 26 (0, 0))
theorem DRel.drew {a b : Node} {A1 : Option Addr} {c1 : Nat} {A2 : Option Addr} {c2 : Nat} {A3 : Option Addr} {c3 : Nat} {B1 : Option Addr} {d1 : Nat} {B2 : Option Addr} {d2 : Nat} {B3 : Option Addr} {d3 : Nat} {w : World} {L : List SetV} {v : Value} {W : World} (h : DRel a b A1 c1 A2 c2 A3 c3 B1 d1 B2 d2 B3 d3 w L v W) : DRel a b A1 c1 A2 c2 A3 c3 B1 d1 B2 d2 B3 d3 w L v W.drew :=
  ⟨Kd.R_drew h.row, pw_below_drewN h.below 1, h.ba, h.bb⟩
def DiffPost (a b : Node) (w : World) (e : Ending) (w' : World) : Prop :=
  ∃ A c, e = .returned (.tuple #[.slice A (diffL a b).length c, .bool (alike a b)]) ∧ kSet.R 84 w' w.heap.size (fun _ => True) (.slice A (diffL a b).length c) (diffL a b) ∧ Below w.heap.size w w'
set_option maxRecDepth 100000 in
set_option maxHeartbeats 4000000 in
theorem diff_any (a b : Node) (A1 : Option Addr) (c1 : Nat) (A2 : Option Addr) (c2 : Nat) (A3 : Option Addr) (c3 : Nat) (B1 : Option Addr) (d1 : Nat) (B2 : Option Addr) (d2 : Nat) (B3 : Option Addr) (d3 : Nat) (w : World) (h : NodeC w a A1 c1 A2 c2 A3 c3) (h' : NodeC w b B1 d1 B2 d2 B3 d3) (hs : Small a) :
    Calls Tryd.prog 83 #[.agg #[.int .i64 a.kind, .slice A1 a.ints.length c1, .slice A2 a.texts.length c2, .slice A3 a.kids.length c3], .agg #[.int .i64 b.kind, .slice B1 b.ints.length d1, .slice B2 b.texts.length d2, .slice B3 b.kids.length d3]] w (DiffPost a b w) := by
  have HA := Aside0.mk h
  have HBn := Aside0.mk h'
  have hs1 := hs.1
  have hs2 := hs.2.1
  have hun := Tryd.underlying26
  have hset := Tryd.underlying84
  have HB := Aside0.mk (below_alloc (below_alloc (Below.refl w.heap.size w) (.cells #[.int .i64 a.kind, .slice A1 a.ints.length c1, .slice A2 a.texts.length c2, .slice A3 a.kids.length c3] 26)) (.cells #[.int .i64 b.kind, .slice B1 b.ints.length d1, .slice B2 b.texts.length d2, .slice B3 b.kids.length d3] 26))
  have HXa := Aside0.mk (show ((w.alloc (.cells #[.int .i64 a.kind, .slice A1 a.ints.length c1, .slice A2 a.texts.length c2, .slice A3 a.kids.length c3] 26)).alloc (.cells #[.int .i64 b.kind, .slice B1 b.ints.length d1, .slice B2 b.texts.length d2, .slice B3 b.kids.length d3] 26)).heap[w.heap.size]? = some (.cells #[.int .i64 a.kind, .slice A1 a.ints.length c1, .slice A2 a.texts.length c2, .slice A3 a.kids.length c3] 26 (0, 0)) from by
    have : (w.alloc (.cells #[.int .i64 a.kind, .slice A1 a.ints.length c1, .slice A2 a.texts.length c2, .slice A3 a.kids.length c3] 26)).heap[w.heap.size]? = some (.cells #[.int .i64 a.kind, .slice A1 a.ints.length c1, .slice A2 a.texts.length c2, .slice A3 a.kids.length c3] 26 (0, 0)) := by simpa using heap_alloc_new w _
    exact (Below.block (below_alloc (Below.refl _ _) _) _ (by simp)).trans this)
  have HXb := Aside0.mk (show ((w.alloc (.cells #[.int .i64 a.kind, .slice A1 a.ints.length c1, .slice A2 a.texts.length c2, .slice A3 a.kids.length c3] 26)).alloc (.cells #[.int .i64 b.kind, .slice B1 b.ints.length d1, .slice B2 b.texts.length d2, .slice B3 b.kids.length d3] 26)).heap[w.heap.size + 1]? = some (.cells #[.int .i64 b.kind, .slice B1 b.ints.length d1, .slice B2 b.texts.length d2, .slice B3 b.kids.length d3] 26 (0, 0)) from by
    have := heap_alloc_new (w.alloc (.cells #[.int .i64 a.kind, .slice A1 a.ints.length c1, .slice A2 a.texts.length c2, .slice A3 a.kids.length c3] 26)) (.cells #[.int .i64 b.kind, .slice B1 b.ints.length d1, .slice B2 b.texts.length d2, .slice B3 b.kids.length d3] 26)
    simpa using this)
  have a0 := (blk_cell HXa.out 0).trans rfl
  have a1 := (blk_cell HXa.out 1).trans rfl
  have a2 := (blk_cell HXa.out 2).trans rfl
  have q0 := (blk_cell HXb.out 0).trans rfl
  have q1 := (blk_cell HXb.out 1).trans rfl
  have q2 := (blk_cell HXb.out 2).trans rfl
  clear h h' hs
  have fin : ∀ W, alike a b = false → Below w.heap.size w W → DiffPost a b w (.returned (.tuple #[.slice none 0 0, .bool false])) W := fun W hf hB => by
    have hd : diffL a b = [] := by unfold diffL; rw [hf, if_neg (by simp)]
    exact ⟨none, 0, by rw [hd, hf]; rfl, by rw [hd]; exact Kd.R_nil _ _ _ _ _, hB⟩
  have FIN := Aside0.mk fin
  clear fin
  by_cases h1 : a.kind = b.kind
  · by_cases h2 : a.ints.length = b.ints.length
    · by_cases h3 : a.texts.length = b.texts.length
      · have HAl : Aside0 (alike a b = true) := ⟨decide_eq_true ⟨h1, h2, h3⟩⟩
        have dk : (a.kind != b.kind) = false := by simp [h1]
        have H23 := Aside0.mk (And.intro h2 h3)
        rw [← h2] at q1 HB HXa HXb a0 a1 a2 q0 q2 ⊢
        rw [← h3] at q1 HB HXa HXb a0 a1 a2 q0 q2 ⊢
        clear h1 h2 h3
        go_enter Tryd.func83, Tryd.ntmps83
        go_wp2
        have H0 := Aside0.mk (show DRel a b A1 c1 A2 c2 A3 c3 B1 d1 B2 d2 B3 d3 w (diffI a.ints b.ints 0) (.slice (some ⟨w.heap.size + 1 + 1, 0, none⟩) 0 0) (((w.alloc (.cells #[.int .i64 a.kind, .slice A1 a.ints.length c1, .slice A2 a.texts.length c2, .slice A3 a.kids.length c3] 26)).alloc (.cells #[.int .i64 b.kind, .slice B1 a.ints.length d1, .slice B2 a.texts.length d2, .slice B3 b.kids.length d3] 26)).alloc (.cells #[] 84)) from
          ⟨by have h := R_empty kSet 84 ((w.alloc (.cells #[.int .i64 a.kind, .slice A1 a.ints.length c1, .slice A2 a.texts.length c2, .slice A3 a.kids.length c3] 26)).alloc (.cells #[.int .i64 b.kind, .slice B1 a.ints.length d1, .slice B2 a.texts.length d2, .slice B3 b.kids.length d3] 26)) w.heap.size HB.out.size; rw [show (((w.alloc (.cells #[.int .i64 a.kind, .slice A1 a.ints.length c1, .slice A2 a.texts.length c2, .slice A3 a.kids.length c3] 26)).alloc (.cells #[.int .i64 b.kind, .slice B1 a.ints.length d1, .slice B2 a.texts.length d2, .slice B3 b.kids.length d3] 26)).heap.size) = w.heap.size + 1 + 1 from by simp] at h; exact h, below_step HB.out (below_alloc (Below.refl _ _) _), ((below_alloc (Below.refl _ _) _).block _ (blk_lt HXa.out)).trans HXa.out, ((below_alloc (Below.refl _ _) _).block _ (blk_lt HXb.out)).trans HXb.out⟩)
        clear a0 a1 a2 q0 q1 q2 dk
        go_loopw [7, 6] (fun v7 v6 W => ∃ i : Nat, i ≤ a.ints.length ∧ v7 = .int .i64 i ∧ Aside0 (DRel a b A1 c1 A2 c2 A3 c3 B1 d1 B2 d2 B3 d3 w (diffI a.ints b.ints i) v6 W)) (fun v7 _ _ => a.ints.length - (intOf v7).toNat)
        case atStart => exact ⟨0, by omega, rfl, H0⟩
        case round =>
          clear H0
          obtain ⟨i, hi, rfl, H0⟩ := hrel
          have a1 := (blk_cell H0.out.ba 1).trans rfl
          have q1 := (blk_cell H0.out.bb 1).trans rfl
          by_cases hlt : i < a.ints.length
          · obtain ⟨ad, rfl, x1⟩ := at_nat (Kd.C_below HA.out.i H0.out.below) i hlt
            obtain ⟨bd, rfl, x2⟩ := at_nat (Kd.C_below HBn.out.i H0.out.below) i (by rw [← H23.out.1]; exact hlt)
            by_cases he : rd a.ints (i : Int) = rd b.ints (i : Int)
            · have de : (rd a.ints (i : Int) != rd b.ints (i : Int)) = false := by simp [he]
              have H1 := Aside0.mk (show DRel a b (some ad) c1 A2 c2 A3 c3 (some bd) d1 B2 d2 B3 d3 w (diffI a.ints b.ints (i + 1)) _ wr.drew from by rw [diffI_no he]; exact H0.out.drew)
              clear he
              go_wp2
              go_region
              clear x1 x2 a1 q1
              go_wp2
              go_roundw
              case rel => exact ⟨i + 1, by omega, by go_num, H1⟩
              case measure => simp [intOf]; omega
            · have de : (rd a.ints (i : Int) != rd b.ints (i : Int)) = true := by simp [he]
              have HY := Aside0.mk (diffI_yes he)
              have hdl := diffI_len a.ints b.ints i
              clear he
              obtain ⟨Av, cv, hv⟩ := Kd.R_slice H0.out.row
              subst hv
              go_wp2
              go_region
              clear x1 a1 q1 x2
              have H1 := Aside0.mk H0.out.drew
              clear H0
              generalize wr.drew = W2 at H1 ⊢
              have q1 := (blk_cell H1.out.bb 1).trans rfl
              obtain ⟨bd', he', x2⟩ := at_nat (Kd.C_below HBn.out.i H1.out.below) i (by rw [← H23.out.1]; exact hlt)
              injection he' with he'
              subst he'
              go_wp2_with (at_builtin; refine Kd.R_append kSet (w0 := w) w.heap.size rfl (.tmp 51) (.tmp 59) 58 84 (.agg #[.bool false, .int .i64 0, .int .i64 0, .string ByteArray.empty]) 40 rfl Tryd.underlying58 info_set rfl (by decide) (by omega) (.slice Av (diffI a.ints b.ints i).length cv) (diffI a.ints b.ints i) ⟨false, (i : Int), rd b.ints (i : Int), ByteArray.empty⟩ [.bool false, .int .i64 (i : Int), .int .i64 (rd b.ints (i : Int)), .string ByteArray.empty] (fun _ => True) (fun _ => False) rfl (by go_simp) (kSet_mk _ _ _ _) (fun _ h => h.elim) (fun _ _ => trivial) H1.out.row H1.out.below H1.out.below.size (by omega) ?_; intro v2 w3 hR2 hB2 hg2 hat2; have H3 := Aside0.mk (show DRel a b (some ad) c1 A2 c2 A3 c3 (some bd) d1 B2 d2 B3 d3 w (diffI a.ints b.ints (i + 1)) v2 w3 from ⟨by rw [HY.out]; exact hR2, hB2, blk_grown H1.out.ba hg2 (Kd.R_ne H1.out.row H1.out.ba (by decide)), blk_grown H1.out.bb hg2 (Kd.R_ne H1.out.row H1.out.bb (by decide))⟩); clear hR2 hB2 hg2 hat2)
              go_roundw
              case rel => exact ⟨i + 1, by omega, by go_num, H3⟩
              case measure => simp [intOf]; omega
          · obtain rfl : i = a.ints.length := by omega
            have H2 := Aside0.mk (show DRel a b A1 c1 A2 c2 A3 c3 B1 d1 B2 d2 B3 d3 w (diffI a.ints b.ints a.ints.length ++ diffT a.texts b.texts 0) u6 wr from by
              have e : diffI a.ints b.ints a.ints.length ++ diffT a.texts b.texts 0 = diffI a.ints b.ints a.ints.length := List.append_nil _
              rw [e]; exact H0.out)
            have hdi := diffI_len a.ints b.ints a.ints.length
            clear H0
            go_wp2
            clear a1 q1
            go_loopw [8, 6] (fun v8 v6 W => ∃ i : Nat, i ≤ a.texts.length ∧ v8 = .int .i64 i ∧ Aside0 (DRel a b A1 c1 A2 c2 A3 c3 B1 d1 B2 d2 B3 d3 w (diffI a.ints b.ints a.ints.length ++ diffT a.texts b.texts i) v6 W)) (fun v8 _ _ => a.texts.length - (intOf v8).toNat)
            case atStart => exact ⟨0, by omega, rfl, H2⟩
            case round =>
              clear H2
              obtain ⟨i, hi, rfl, H0⟩ := hrel
              have a2 := (blk_cell H0.out.ba 2).trans rfl
              have q2 := (blk_cell H0.out.bb 2).trans rfl
              by_cases hlt : i < a.texts.length
              · obtain ⟨ad, rfl, x1⟩ := at_str (Kd.C_below HA.out.t H0.out.below) i hlt
                obtain ⟨bd, rfl, x2⟩ := at_str (Kd.C_below HBn.out.t H0.out.below) i (by rw [← H23.out.2]; exact hlt)
                by_cases he : str a.texts i = str b.texts i
                · have de : (!((str a.texts i).toList == (str b.texts i).toList)) = false := by rw [he]; simp
                  have H1 := Aside0.mk (show DRel a b A1 c1 (some ad) c2 A3 c3 B1 d1 (some bd) d2 B3 d3 w (diffI a.ints b.ints a.ints.length ++ diffT a.texts b.texts (i + 1)) _ wr.drew from by rw [diffT_no he]; exact H0.out.drew)
                  clear he
                  go_wp2
                  go_region
                  clear x1 x2 a2 q2
                  go_wp2
                  go_roundw
                  case rel => exact ⟨i + 1, by omega, by go_num, H1⟩
                  case measure => simp [intOf]; omega
                · have de : (!((str a.texts i).toList == (str b.texts i).toList)) = true := str_ne he
                  have HY := Aside0.mk (diffT_yes he)
                  have hdt := diffT_len a.texts b.texts i
                  clear he
                  obtain ⟨Av, cv, hv⟩ := Kd.R_slice H0.out.row
                  obtain ⟨L0, hL0⟩ : ∃ L, L = diffI a.ints b.ints a.ints.length ++ diffT a.texts b.texts i := ⟨_, rfl⟩
                  have hL0l : L0.length ≤ 3000000 := by rw [hL0, List.length_append]; omega
                  have HL0 := Aside0.mk hL0
                  rw [← hL0] at hv H0
                  subst hv
                  clear hL0 hdt
                  go_wp2
                  go_region
                  clear x1 a2 q2 x2
                  have H1 := Aside0.mk H0.out.drew
                  clear H0
                  generalize wr.drew = W2 at H1 ⊢
                  have q2 := (blk_cell H1.out.bb 2).trans rfl
                  obtain ⟨bd', he', x2⟩ := at_str (Kd.C_below HBn.out.t H1.out.below) i (by rw [← H23.out.2]; exact hlt)
                  injection he' with he'
                  subst he'
                  go_wp2_with (at_builtin; refine Kd.R_append kSet (w0 := w) w.heap.size rfl (.tmp 79) (.tmp 87) 58 84 (.agg #[.bool false, .int .i64 0, .int .i64 0, .string ByteArray.empty]) 40 rfl Tryd.underlying58 info_set rfl (by decide) (by omega) (.slice Av L0.length cv) L0 ⟨true, (i : Int), 0, str b.texts i⟩ [.bool true, .int .i64 (i : Int), .int .i64 0, .string (str b.texts i)] (fun _ => True) (fun _ => False) rfl (by go_simp) (kSet_mk _ _ _ _) (fun _ h => h.elim) (fun _ _ => trivial) H1.out.row H1.out.below H1.out.below.size (by omega) ?_; intro v2 w3 hR2 hB2 hg2 hat2; have H3 := Aside0.mk (show DRel a b A1 c1 (some ad) c2 A3 c3 B1 d1 (some bd) d2 B3 d3 w (diffI a.ints b.ints a.ints.length ++ diffT a.texts b.texts (i + 1)) v2 w3 from ⟨by rw [HY.out, ← List.append_assoc, ← HL0.out]; exact hR2, hB2, blk_grown H1.out.ba hg2 (Kd.R_ne H1.out.row H1.out.ba (by decide)), blk_grown H1.out.bb hg2 (Kd.R_ne H1.out.row H1.out.bb (by decide))⟩); clear hR2 hB2 hg2 hat2)
                  go_roundw
                  case rel => exact ⟨i + 1, by omega, by go_num, H3⟩
                  case measure => simp [intOf]; omega
              · obtain rfl : i = a.texts.length := by omega
                have HD : Aside0 (diffL a b = diffI a.ints b.ints a.ints.length ++ diffT a.texts b.texts a.texts.length) := ⟨by unfold diffL; rw [if_pos HAl.out]⟩
                go_wp2
                go_ret2
                obtain ⟨Av, cv, hv⟩ := Kd.R_slice H0.out.row
                exact ⟨Av, cv, by rw [HAl.out, HD.out, ← hv]; rfl, by rw [HD.out, ← hv]; exact H0.out.row, H0.out.below⟩
      · have hf : alike a b = false := decide_eq_false (fun h => h3 h.2.2)
        have HF := Aside0.mk hf
        have dk : (a.kind != b.kind) = false := by simp [h1]
        have dl : (a.texts.length != b.texts.length) = true := by simp [h3]
        have dl' : ((a.texts.length : Int) != (b.texts.length : Int)) = true := by simp; omega
        rw [← h2] at q1 HB HXa HXb a0 a1 a2 q0 q2 ⊢
        clear h1 h2 h3 hf
        go_enter Tryd.func83, Tryd.ntmps83
        go_wp2
        go_ret2
        exact FIN.out _ HF.out HB.out
    · have hf : alike a b = false := decide_eq_false (fun h => h2 h.2.1)
      have HF := Aside0.mk hf
      have dk : (a.kind != b.kind) = false := by simp [h1]
      have dl : (a.ints.length != b.ints.length) = true := by simp [h2]
      have dl' : ((a.ints.length : Int) != (b.ints.length : Int)) = true := by simp; omega
      clear h1 h2 hf
      go_enter Tryd.func83, Tryd.ntmps83
      go_wp2
      go_ret2
      exact FIN.out _ HF.out HB.out
  · have hf : alike a b = false := decide_eq_false (fun h => h1 h.1)
    have HF := Aside0.mk hf
    have dk : (a.kind != b.kind) = true := by simp [h1]
    clear h1 hf
    go_enter Tryd.func83, Tryd.ntmps83
    go_wp2
    go_ret2
    exact FIN.out _ HF.out HB.out
end Go.Proofs.YtglfebpgdghlfaaDoor.L
end
section
namespace Go.Proofs.YtglfebpgdghlfaaDoor.L
open Go.RowKit Go.ChangeShapes Go.WideShapes Go.Proofs.YtglfebpgdghlfaaDoorW.PrintWords Go.Proofs.YtglfebpgdghlfaaDoorW.PrintLast Go.Proofs.YtglfebpgdghlfaaDoorW.PrintMore
attribute [local go_sem] max2_int min2_int max_two min_two max_three min_three max_four min_four
def ownN (a b : Node) : Bool := decide (a.kind = b.kind ∧ a.ints = b.ints ∧ a.texts = b.texts)
theorem ownN_eq (a b : Node) : ownN a b = (alike a b && decide ((diffL a b).length = 0)) := by
  cases h : alike a b with
  | false =>
    refine decide_eq_false (fun hh => ?_)
    have : alike a b = true := decide_eq_true ⟨hh.1, by rw [hh.2.1], by rw [hh.2.2]⟩
    rw [h] at this; cases this
  | true =>
    have hk := (of_decide_eq_true h).1
    rw [Bool.true_and]
    unfold ownN
    refine decide_eq_decide.2 ⟨fun hh => ?_, fun hh => ?_⟩
    · rw [(diffL_nil h).2 hh.2]; rfl
    · exact ⟨hk, (diffL_nil h).1 (List.eq_nil_of_length_eq_zero hh)⟩
set_option maxRecDepth 100000 in
set_option maxHeartbeats 2000000 in
theorem own_any (a b : Node) (A1 : Option Addr) (c1 : Nat) (A2 : Option Addr) (c2 : Nat) (A3 : Option Addr) (c3 : Nat) (B1 : Option Addr) (d1 : Nat) (B2 : Option Addr) (d2 : Nat) (B3 : Option Addr) (d3 : Nat) (w : World) (h : NodeC w a A1 c1 A2 c2 A3 c3) (h' : NodeC w b B1 d1 B2 d2 B3 d3) (hs : Small a) :
    Calls Tryd.prog 42 #[.agg #[.int .i64 a.kind, .slice A1 a.ints.length c1, .slice A2 a.texts.length c2, .slice A3 a.kids.length c3], .agg #[.int .i64 b.kind, .slice B1 b.ints.length d1, .slice B2 b.texts.length d2, .slice B3 b.kids.length d3]] w fun e w' => e = .returned (.bool (ownN a b)) ∧ Below w.heap.size w w' := by
  have HA := Aside0.mk h
  have HBn := Aside0.mk h'
  have HSm := Aside0.mk hs
  have hun := Tryd.underlying26
  have HB := Aside0.mk (below_alloc (below_alloc (Below.refl w.heap.size w) (.cells #[.int .i64 a.kind, .slice A1 a.ints.length c1, .slice A2 a.texts.length c2, .slice A3 a.kids.length c3] 26)) (.cells #[.int .i64 b.kind, .slice B1 b.ints.length d1, .slice B2 b.texts.length d2, .slice B3 b.kids.length d3] 26))
  have HXa := Aside0.mk (show ((w.alloc (.cells #[.int .i64 a.kind, .slice A1 a.ints.length c1, .slice A2 a.texts.length c2, .slice A3 a.kids.length c3] 26)).alloc (.cells #[.int .i64 b.kind, .slice B1 b.ints.length d1, .slice B2 b.texts.length d2, .slice B3 b.kids.length d3] 26)).heap[w.heap.size]? = some (.cells #[.int .i64 a.kind, .slice A1 a.ints.length c1, .slice A2 a.texts.length c2, .slice A3 a.kids.length c3] 26 (0, 0)) from by
    have : (w.alloc (.cells #[.int .i64 a.kind, .slice A1 a.ints.length c1, .slice A2 a.texts.length c2, .slice A3 a.kids.length c3] 26)).heap[w.heap.size]? = some (.cells #[.int .i64 a.kind, .slice A1 a.ints.length c1, .slice A2 a.texts.length c2, .slice A3 a.kids.length c3] 26 (0, 0)) := by simpa using heap_alloc_new w _
    exact (Below.block (below_alloc (Below.refl _ _) _) _ (by simp)).trans this)
  have HXb := Aside0.mk (show ((w.alloc (.cells #[.int .i64 a.kind, .slice A1 a.ints.length c1, .slice A2 a.texts.length c2, .slice A3 a.kids.length c3] 26)).alloc (.cells #[.int .i64 b.kind, .slice B1 b.ints.length d1, .slice B2 b.texts.length d2, .slice B3 b.kids.length d3] 26)).heap[w.heap.size + 1]? = some (.cells #[.int .i64 b.kind, .slice B1 b.ints.length d1, .slice B2 b.texts.length d2, .slice B3 b.kids.length d3] 26 (0, 0)) from by
    have := heap_alloc_new (w.alloc (.cells #[.int .i64 a.kind, .slice A1 a.ints.length c1, .slice A2 a.texts.length c2, .slice A3 a.kids.length c3] 26)) (.cells #[.int .i64 b.kind, .slice B1 b.ints.length d1, .slice B2 b.texts.length d2, .slice B3 b.kids.length d3] 26)
    simpa using this)
  have a0 := (blk_cell HXa.out 0).trans rfl
  have a1 := (blk_cell HXa.out 1).trans rfl
  have a2 := (blk_cell HXa.out 2).trans rfl
  have q0 := (blk_cell HXb.out 0).trans rfl
  have q1 := (blk_cell HXb.out 1).trans rfl
  have q2 := (blk_cell HXb.out 2).trans rfl
  have a3 := (blk_cell HXa.out 3).trans rfl
  have q3 := (blk_cell HXb.out 3).trans rfl
  clear h h' hs
  go_enter Tryd.func42, Tryd.ntmps42
  go_wp2_with fail
  refine (diff_any a b A1 c1 A2 c2 A3 c3 B1 d1 B2 d2 B3 d3 _ (HA.out.below HB.out) (HBn.out.below HB.out) HSm.out).mono ?_
  rintro e w1 ⟨A, c, rfl, hR, hB⟩
  have HB1 := Aside0.mk (below_step HB.out hB)
  have hE := ownN_eq a b
  clear hR hB a0 a1 a2 a3 q0 q1 q2 q3
  cases hal : alike a b with
  | false =>
    have HE : Aside0 (ownN a b = false) := ⟨by rw [hE, hal]; rfl⟩
    clear hE hal
    go_wp2
    go_ret
    exact ⟨ret_bool HE.out.symm, HB1.out⟩
  | true =>
    by_cases hz : (diffL a b).length = 0
    · have HE : Aside0 (ownN a b = true) := ⟨by rw [hE, hal, decide_eq_true hz]; rfl⟩
      clear hE hal
      rw [hz]
      go_wp2
      go_ret
      exact ⟨ret_bool HE.out.symm, HB1.out⟩
    · have HE : Aside0 (ownN a b = false) := ⟨by rw [hE, hal, decide_eq_false hz]; rfl⟩
      obtain ⟨m, hm⟩ : ∃ m, (diffL a b).length = m + 1 := ⟨(diffL a b).length - 1, by omega⟩
      have d0 : ((m : Int) + 1 == 0) = false := by simp; omega
      clear hE hal hz
      rw [hm]
      go_wp2
      go_ret
      exact ⟨ret_bool HE.out.symm, HB1.out⟩
end Go.Proofs.YtglfebpgdghlfaaDoor.L
end
section
namespace Go.Proofs.YtglfebpgdghlfaaDoor.L
open Go.RowKit Go.ChangeShapes Go.WideShapes Go.Proofs.YtglfebpgdghlfaaDoorW.PrintWords Go.Proofs.YtglfebpgdghlfaaDoorW.PrintLast Go.Proofs.YtglfebpgdghlfaaDoorW.PrintMore
attribute [local go_sem] max2_int min2_int max_two min_two max_three min_three max_four min_four
def sameN (a b : Node) : Bool := decide (a.kind = b.kind ∧ a.ints = b.ints ∧ a.texts = b.texts ∧ a.kids = b.kids)
theorem sameN_iff {a b : Node} : sameN a b = true ↔ a = b := by
  unfold sameN
  constructor
  · intro h
    have h := of_decide_eq_true h
    cases a; cases b
    simp only at h
    obtain ⟨rfl, rfl, rfl, rfl⟩ := h
    rfl
  · rintro rfl; exact decide_eq_true ⟨rfl, rfl, rfl, rfl⟩
set_option maxRecDepth 100000 in
set_option maxHeartbeats 2000000 in
theorem same_any (a b : Node) (A1 : Option Addr) (c1 : Nat) (A2 : Option Addr) (c2 : Nat) (A3 : Option Addr) (c3 : Nat) (B1 : Option Addr) (d1 : Nat) (B2 : Option Addr) (d2 : Nat) (B3 : Option Addr) (d3 : Nat) (w : World) (h : NodeC w a A1 c1 A2 c2 A3 c3) (h' : NodeC w b B1 d1 B2 d2 B3 d3) (hs : Small a) :
    Calls Tryd.prog 17 #[.agg #[.int .i64 a.kind, .slice A1 a.ints.length c1, .slice A2 a.texts.length c2, .slice A3 a.kids.length c3], .agg #[.int .i64 b.kind, .slice B1 b.ints.length d1, .slice B2 b.texts.length d2, .slice B3 b.kids.length d3]] w fun e w' => e = .returned (.bool (sameN a b)) ∧ Below w.heap.size w w' := by
  have HA := Aside0.mk h
  have HBn := Aside0.mk h'
  have HSm := Aside0.mk hs
  have hs3 := hs.2.2
  have hun := Tryd.underlying26
  have HB := Aside0.mk (below_alloc (below_alloc (Below.refl w.heap.size w) (.cells #[.int .i64 a.kind, .slice A1 a.ints.length c1, .slice A2 a.texts.length c2, .slice A3 a.kids.length c3] 26)) (.cells #[.int .i64 b.kind, .slice B1 b.ints.length d1, .slice B2 b.texts.length d2, .slice B3 b.kids.length d3] 26))
  have HXa := Aside0.mk (show ((w.alloc (.cells #[.int .i64 a.kind, .slice A1 a.ints.length c1, .slice A2 a.texts.length c2, .slice A3 a.kids.length c3] 26)).alloc (.cells #[.int .i64 b.kind, .slice B1 b.ints.length d1, .slice B2 b.texts.length d2, .slice B3 b.kids.length d3] 26)).heap[w.heap.size]? = some (.cells #[.int .i64 a.kind, .slice A1 a.ints.length c1, .slice A2 a.texts.length c2, .slice A3 a.kids.length c3] 26 (0, 0)) from by
    have : (w.alloc (.cells #[.int .i64 a.kind, .slice A1 a.ints.length c1, .slice A2 a.texts.length c2, .slice A3 a.kids.length c3] 26)).heap[w.heap.size]? = some (.cells #[.int .i64 a.kind, .slice A1 a.ints.length c1, .slice A2 a.texts.length c2, .slice A3 a.kids.length c3] 26 (0, 0)) := by simpa using heap_alloc_new w _
    exact (Below.block (below_alloc (Below.refl _ _) _) _ (by simp)).trans this)
  have HXb := Aside0.mk (show ((w.alloc (.cells #[.int .i64 a.kind, .slice A1 a.ints.length c1, .slice A2 a.texts.length c2, .slice A3 a.kids.length c3] 26)).alloc (.cells #[.int .i64 b.kind, .slice B1 b.ints.length d1, .slice B2 b.texts.length d2, .slice B3 b.kids.length d3] 26)).heap[w.heap.size + 1]? = some (.cells #[.int .i64 b.kind, .slice B1 b.ints.length d1, .slice B2 b.texts.length d2, .slice B3 b.kids.length d3] 26 (0, 0)) from by
    have := heap_alloc_new (w.alloc (.cells #[.int .i64 a.kind, .slice A1 a.ints.length c1, .slice A2 a.texts.length c2, .slice A3 a.kids.length c3] 26)) (.cells #[.int .i64 b.kind, .slice B1 b.ints.length d1, .slice B2 b.texts.length d2, .slice B3 b.kids.length d3] 26)
    simpa using this)
  have a0 := (blk_cell HXa.out 0).trans rfl
  have a1 := (blk_cell HXa.out 1).trans rfl
  have a2 := (blk_cell HXa.out 2).trans rfl
  have q0 := (blk_cell HXb.out 0).trans rfl
  have q1 := (blk_cell HXb.out 1).trans rfl
  have q2 := (blk_cell HXb.out 2).trans rfl
  have a3 := (blk_cell HXa.out 3).trans rfl
  have q3 := (blk_cell HXb.out 3).trans rfl
  clear h h' hs
  go_enter Tryd.func17, Tryd.ntmps17
  go_wp2_with fail
  refine (own_any a b A1 c1 A2 c2 A3 c3 B1 d1 B2 d2 B3 d3 _ (HA.out.below HB.out) (HBn.out.below HB.out) HSm.out).mono ?_
  rintro e w1 ⟨rfl, hB⟩
  have HB1 := Aside0.mk (below_step HB.out hB)
  replace HXa := Aside0.mk ((hB.block _ (blk_lt HXa.out)).trans HXa.out)
  replace HXb := Aside0.mk ((hB.block _ (blk_lt HXb.out)).trans HXb.out)
  replace a3 := (blk_cell HXa.out 3).trans rfl
  replace q3 := (blk_cell HXb.out 3).trans rfl
  clear hB a0 a1 a2 q0 q1 q2
  cases how : ownN a b with
  | false =>
    have HE : Aside0 (sameN a b = false) := ⟨decide_eq_false (fun hh => by
      have : ownN a b = true := decide_eq_true ⟨hh.1, hh.2.1, hh.2.2.1⟩
      rw [how] at this; cases this)⟩
    clear how
    go_wp2
    go_ret
    exact ⟨ret_bool HE.out.symm, HB1.out⟩
  | true =>
    have HO := Aside0.mk (of_decide_eq_true how)
    clear how
    by_cases hl : a.kids.length = b.kids.length
    · have HLn := Aside0.mk hl
      rw [← hl] at q3 HXb
      clear hl
      go_wp2
      go_loopw [5] (fun v5 W => ∃ i : Nat, i ≤ a.kids.length ∧ v5 = .int .i64 i ∧ Aside0 (∀ j : Nat, j < i → rd a.kids (j : Int) = rd b.kids (j : Int)) ∧ Aside0 (Below w1.heap.size w1 W)) (fun v5 _ => a.kids.length - (intOf v5).toNat)
      case atStart => exact ⟨0, by omega, rfl, ⟨fun j h => by omega⟩, ⟨Below.refl _ _⟩⟩
      case round =>
        obtain ⟨i, hi, rfl, HJ, HW⟩ := hrel
        replace a3 := pw_cell_below HW.out a3
        replace q3 := pw_cell_below HW.out q3
        by_cases hlt : i < a.kids.length
        · obtain ⟨ad, rfl, x1⟩ := at_nat (Kd.C_below HA.out.k (below_step HB1.out HW.out)) i hlt
          obtain ⟨bd, rfl, x2⟩ := at_nat (Kd.C_below HBn.out.k (below_step HB1.out HW.out)) i (by rw [← HLn.out]; exact hlt)
          by_cases he : rd a.kids (i : Int) = rd b.kids (i : Int)
          · have de : (rd a.kids (i : Int) != rd b.kids (i : Int)) = false := by simp [he]
            have HJ2 := Aside0.mk (ext_lt HJ.out he)
            have HW2 := Aside0.mk (pw_below_drewN HW.out 1)
            clear he
            go_wp2
            go_region
            go_wp2
            go_roundw
            case rel => exact ⟨i + 1, by omega, by go_num, HJ2, HW2⟩
            case measure => simp [intOf]; omega
          · have de : (rd a.kids (i : Int) != rd b.kids (i : Int)) = true := by simp [he]
            have HE : Aside0 (sameN a b = false) := ⟨decide_eq_false (fun hh => he (by rw [hh.2.2.2]))⟩
            clear he
            go_wp2
            go_region
            go_wp2
            go_ret
            exact ⟨ret_bool HE.out.symm, pw_below_drewN (below_step HB1.out HW.out) 1⟩
        · obtain rfl : i = a.kids.length := by omega
          have HE : Aside0 (sameN a b = true) := ⟨decide_eq_true ⟨HO.out.1, HO.out.2.1, HO.out.2.2, List.ext_getElem HLn.out (fun j h1 h2 => by rw [← rd_eq h1, ← rd_eq h2]; exact HJ.out j h1)⟩⟩
          go_wp2
          go_ret
          exact ⟨ret_bool HE.out.symm, below_step HB1.out HW.out⟩
    · have HE : Aside0 (sameN a b = false) := ⟨decide_eq_false (fun hh => hl (by rw [hh.2.2.2]))⟩
      have dl : (a.kids.length != b.kids.length) = true := by simp [hl]
      have dl' : ((a.kids.length : Int) != (b.kids.length : Int)) = true := by simp; omega
      clear hl
      go_wp2
      go_ret
      exact ⟨ret_bool HE.out.symm, HB1.out⟩
end Go.Proofs.YtglfebpgdghlfaaDoor.L
end
section
namespace Go.Proofs.YtglfebpgdghlfaaDoor.L
open Go.RowKit Go.ChangeShapes Go.WideShapes Go.Proofs.YtglfebpgdghlfaaDoorW.PrintWords Go.Proofs.YtglfebpgdghlfaaDoorW.PrintLast Go.Proofs.YtglfebpgdghlfaaDoorW.PrintMore
attribute [local go_sem] max2_int min2_int max_two min_two max_three min_three max_four min_four
theorem nodes_ext {xs ys : List Node} (hl : xs.length = ys.length) (h : ∀ j : Nat, j < xs.length → nd xs j = nd ys j) : xs = ys := List.ext_getElem hl (fun j h1 h2 => by
  have := h j h1
  unfold nd at this
  rw [getD_eq _ h1, getD_eq _ h2] at this
  exact this)
end Go.Proofs.YtglfebpgdghlfaaDoor.L
end
section
namespace Go.Proofs.YtglfebpgdghlfaaDoor.L
open Go.RowKit Go.ChangeShapes Go.WideShapes Go.Proofs.YtglfebpgdghlfaaDoorW.PrintWords Go.Proofs.YtglfebpgdghlfaaDoorW.PrintLast Go.Proofs.YtglfebpgdghlfaaDoorW.PrintMore
attribute [local go_sem] max2_int min2_int max_two min_two max_three min_three max_four min_four
open Classical in
noncomputable def sameS (s t : Scene) : Bool := decide (s = t)
theorem sameS_yes {s t : Scene} (h : s = t) : sameS s t = true := by unfold sameS; simp [h]
theorem sameS_no {s t : Scene} (h : ¬ s = t) : sameS s t = false := by unfold sameS; simp [h]
theorem scene_ext {s t : Scene} (h1 : s.nodes = t.nodes) (h2 : s.root = t.root) : s = t := by cases s; cases t; simp only at h1 h2; subst h1 h2; rfl
set_option maxRecDepth 100000 in
set_option maxHeartbeats 4000000 in
theorem sameS_any (A : Option Addr) (c : Nat) (s : Scene) (B : Option Addr) (d : Nat) (t : Scene) (w : World) (h : kNode.C w A s.nodes.length s.nodes) (h' : kNode.C w B t.nodes.length t.nodes) (hs : ∀ i : Nat, i < s.nodes.length → Small (nd s.nodes i)) :
    Calls Tryd.prog 23 #[.agg #[.slice A s.nodes.length c, .int .i64 s.root], .agg #[.slice B t.nodes.length d, .int .i64 t.root]] w fun e w' => e = .returned (.bool (sameS s t)) ∧ Below w.heap.size w w' := by
  have HA := Aside0.mk h
  have HBn := Aside0.mk h'
  have HSm := Aside0.mk hs
  have b0 := h.2.1
  have HB := Aside0.mk (below_alloc (below_alloc (Below.refl w.heap.size w) (.cells #[.slice A s.nodes.length c, .int .i64 s.root] 39)) (.cells #[.slice B t.nodes.length d, .int .i64 t.root] 39))
  have HXa := Aside0.mk (show ((w.alloc (.cells #[.slice A s.nodes.length c, .int .i64 s.root] 39)).alloc (.cells #[.slice B t.nodes.length d, .int .i64 t.root] 39)).heap[w.heap.size]? = some (.cells #[.slice A s.nodes.length c, .int .i64 s.root] 39 (0, 0)) from by
    have : (w.alloc (.cells #[.slice A s.nodes.length c, .int .i64 s.root] 39)).heap[w.heap.size]? = some (.cells #[.slice A s.nodes.length c, .int .i64 s.root] 39 (0, 0)) := by simpa using heap_alloc_new w _
    exact (Below.block (below_alloc (Below.refl _ _) _) _ (by simp)).trans this)
  have HXb := Aside0.mk (show ((w.alloc (.cells #[.slice A s.nodes.length c, .int .i64 s.root] 39)).alloc (.cells #[.slice B t.nodes.length d, .int .i64 t.root] 39)).heap[w.heap.size + 1]? = some (.cells #[.slice B t.nodes.length d, .int .i64 t.root] 39 (0, 0)) from by
    have := heap_alloc_new (w.alloc (.cells #[.slice A s.nodes.length c, .int .i64 s.root] 39)) (.cells #[.slice B t.nodes.length d, .int .i64 t.root] 39)
    simpa using this)
  have hus := Tryd.underlying39
  have a0 := (blk_cell HXa.out 0).trans rfl
  have a1 := (blk_cell HXa.out 1).trans rfl
  have q0 := (blk_cell HXb.out 0).trans rfl
  have q1 := (blk_cell HXb.out 1).trans rfl
  have hun := Tryd.underlying26
  clear h h' hs
  by_cases hr : ¬ s.root = t.root
  · have HE : Aside0 (sameS s t = false) := ⟨sameS_no (fun e => hr (by rw [e]))⟩
    have dr : (s.root != t.root) = true := by simp [hr]
    clear hr
    go_enter Tryd.func23, Tryd.ntmps23
    go_wp2
    go_ret
    exact ⟨ret_bool HE.out.symm, HB.out⟩
  replace hr := Classical.byContradiction hr
  have HRo := Aside0.mk hr
  have dr : (s.root != t.root) = false := by simp [hr]
  clear hr
  by_cases hl : s.nodes.length = t.nodes.length
  · have HL := Aside0.mk hl
    rw [← hl] at q0 HXb HXa a0 a1 q1 HB ⊢
    clear hl
    go_enter Tryd.func23, Tryd.ntmps23
    go_wp2
    go_loopw [5] (fun v5 W => ∃ i : Nat, i ≤ s.nodes.length ∧ v5 = .int .i64 i ∧ Aside0 (∀ j : Nat, j < i → nd s.nodes j = nd t.nodes j) ∧ Aside0 (Below w.heap.size w W) ∧ Aside0 (W.cell? ⟨w.heap.size, 0, none⟩ = some (.slice A s.nodes.length c) ∧ W.cell? ⟨w.heap.size + 1, 0, none⟩ = some (.slice B s.nodes.length d))) (fun v5 _ => s.nodes.length - (intOf v5).toNat)
    case atStart => exact ⟨0, by omega, rfl, ⟨fun j h => by omega⟩, HB, ⟨a0, q0⟩⟩
    case round =>
      obtain ⟨i, hi, rfl, HJ, HW, HC⟩ := hrel
      clear a0 q0
      have a0 := HC.out.1
      have q0 := HC.out.2
      by_cases hlt : i < s.nodes.length
      · obtain ⟨ad, A1, c1, A2, c2, A3, c3, rfl, x0, x1, x2, x3, hN⟩ := at_node HA.out i hlt
        obtain ⟨bd, B1, d1, B2, d2, B3, d3, rfl, y0, y1, y2, y3, hM⟩ := at_node HBn.out i (by rw [← HL.out]; exact hlt)
        replace x0 := pw_cell_below HW.out x0
        replace x1 := pw_cell_below HW.out x1
        replace x2 := pw_cell_below HW.out x2
        replace x3 := pw_cell_below HW.out x3
        replace y0 := pw_cell_below HW.out y0
        replace y1 := pw_cell_below HW.out y1
        replace y2 := pw_cell_below HW.out y2
        replace y3 := pw_cell_below HW.out y3
        have HN := Aside0.mk hN
        have HM := Aside0.mk hM
        clear hN hM
        go_wp2
        go_region_held3 (fun W => W.cell? ⟨w.heap.size, 0, none⟩ = some (.slice (some ad) s.nodes.length c) ∧ W.cell? ⟨w.heap.size + 1, 0, none⟩ = some (.slice (some bd) s.nodes.length d) ∧ W.cell? (ad.add (i * 4)) = some (.int .i64 (nd s.nodes i).kind) ∧ W.cell? ⟨(ad.add (i * 4)).block, (ad.add (i * 4)).off + 1, none⟩ = some (.slice A1 (nd s.nodes i).ints.length c1) ∧ W.cell? ⟨(ad.add (i * 4)).block, (ad.add (i * 4)).off + 2, none⟩ = some (.slice A2 (nd s.nodes i).texts.length c2) ∧ W.cell? ⟨(ad.add (i * 4)).block, (ad.add (i * 4)).off + 3, none⟩ = some (.slice A3 (nd s.nodes i).kids.length c3) ∧
            W.cell? (bd.add (i * 4)) = some (.int .i64 (nd t.nodes i).kind) ∧ W.cell? ⟨(bd.add (i * 4)).block, (bd.add (i * 4)).off + 1, none⟩ = some (.slice B1 (nd t.nodes i).ints.length d1) ∧ W.cell? ⟨(bd.add (i * 4)).block, (bd.add (i * 4)).off + 2, none⟩ = some (.slice B2 (nd t.nodes i).texts.length d2) ∧ W.cell? ⟨(bd.add (i * 4)).block, (bd.add (i * 4)).off + 3, none⟩ = some (.slice B3 (nd t.nodes i).kids.length d3))
          (first
            | (go_split_ands
               refine ⟨?_, ?_, ?_, ?_, ?_, ?_, ?_, ?_, ?_, ?_⟩
               all_goals first
                 | with_reducible assumption
                 | with_reducible exact pw_cell_below hB (by assumption)
                 | (simp [*]; done)))
          (first
            | (go_at_call 17; refine (same_any (nd s.nodes i) (nd t.nodes i) A1 c1 A2 c2 A3 c3 B1 d1 B2 d2 B3 d3 _ (HN.out.below (below_drew HW.out)) (HM.out.below (below_drew HW.out)) (HSm.out i hlt)).mono ?_; rintro e w2 ⟨rfl, hB2⟩; have hB := hB2))
        have HB2 := Aside0.mk (below_step (below_drew HW.out) hB2)
        have HC2 := Aside0.mk (And.intro (pw_cell_below hB2 (show wr.drew.cell? _ = _ from a0)) (pw_cell_below hB2 (show wr.drew.cell? _ = _ from q0)))
        clear x0 x1 x2 x3 y0 y1 y2 y3 a0 q0
        cases hc : sameN (nd s.nodes i) (nd t.nodes i) with
        | true =>
          have HJ2 := Aside0.mk (ext_lt HJ.out (sameN_iff.1 hc))
          clear hc
          go_wp2
          go_roundw
          case rel => exact ⟨i + 1, by omega, by go_num, HJ2, HB2, HC2⟩
          case measure => simp [intOf]; omega
        | false =>
          have HE : Aside0 (sameS s t = false) := ⟨sameS_no (fun e => by
            have : sameN (nd s.nodes i) (nd t.nodes i) = true := sameN_iff.2 (by rw [e])
            rw [hc] at this; cases this)⟩
          clear hc
          go_wp2
          go_ret
          exact ⟨ret_bool HE.out.symm, HB2.out⟩
      · obtain rfl : i = s.nodes.length := by omega
        have HE : Aside0 (sameS s t = true) := ⟨sameS_yes (scene_ext (nodes_ext HL.out HJ.out) HRo.out)⟩
        go_wp2
        go_ret
        exact ⟨ret_bool HE.out.symm, HW.out⟩
  · have HE : Aside0 (sameS s t = false) := ⟨sameS_no (fun e => hl (by rw [e]))⟩
    have dl : (s.nodes.length != t.nodes.length) = true := by simp [hl]
    have dl' : ((s.nodes.length : Int) != (t.nodes.length : Int)) = true := by simp; omega
    clear hl
    go_enter Tryd.func23, Tryd.ntmps23
    go_wp2
    go_ret
    exact ⟨ret_bool HE.out.symm, HB.out⟩
end Go.Proofs.YtglfebpgdghlfaaDoor.L
end
section
namespace Go.Proofs.YtglfebpgdghlfaaDoor.L
open Go.RowKit Go.ChangeShapes Go.WideShapes Go.Proofs.YtglfebpgdghlfaaDoorW.PrintWords Go.Proofs.YtglfebpgdghlfaaDoorW.PrintLast Go.Proofs.YtglfebpgdghlfaaDoorW.PrintMore
attribute [local go_sem] max2_int min2_int max_two min_two max_three min_three max_four min_four
def edgesTo (ns : List Node) : Nat → Int
  | 0 => 0
  | i + 1 => IntKind.i64.wrap (edgesTo ns i + ((nd ns i).kids.length : Int))
def edgesW (ns : List Node) : Int := edgesTo ns ns.length
set_option maxRecDepth 100000 in
set_option maxHeartbeats 2000000 in
theorem edges_any (A : Option Addr) (c : Nat) (s : Scene) (w : World) (h : kNode.C w A s.nodes.length s.nodes) :
    Calls Tryd.prog 43 #[.agg #[.slice A s.nodes.length c, .int .i64 s.root]] w fun e w' => e = .returned (.int .i64 (edgesW s.nodes)) ∧ Below w.heap.size w w' := by
  have HR := Aside0.mk h
  have b0 := h.2.1
  have HB := Aside0.mk (below_alloc (Below.refl w.heap.size w) (.cells #[.slice A s.nodes.length c, .int .i64 s.root] 39))
  have k0 := box_cell w _ rfl #[.slice A s.nodes.length c, .int .i64 s.root] 39 0 _ rfl
  have hu := Tryd.underlying39
  have hun := Tryd.underlying26
  clear h
  go_enter Tryd.func43, Tryd.ntmps43
  go_wp2
  go_loopw [4, 3] (fun v4 v3 W => ∃ i : Nat, i ≤ s.nodes.length ∧ v4 = .int .i64 i ∧ v3 = .int .i64 (edgesTo s.nodes i) ∧ W = w.alloc (.cells #[.slice A s.nodes.length c, .int .i64 s.root] 39)) (fun v4 _ _ => s.nodes.length - (intOf v4).toNat)
  case atStart => exact ⟨0, by omega, rfl, rfl, by first | rfl | trivial⟩
  case round =>
    obtain ⟨i, hi, rfl, rfl, rfl⟩ := hrel
    by_cases hlt : i < s.nodes.length
    · obtain ⟨adn, A1, c1, A2, c2, A3, c3, rfl, x0, x1, x2, x3, hN⟩ := at_node HR.out i hlt
      replace x3 := pw_cell_below HB.out x3
      have HE := Aside0.mk (show edgesTo s.nodes (i + 1) = IntKind.i64.wrap (edgesTo s.nodes i + ((nd s.nodes i).kids.length : Int)) from rfl)
      clear hN x0 x1 x2
      generalize edgesTo s.nodes i = a at HE ⊢
      go_wp2
      go_roundw
      case rel => exact ⟨i + 1, by omega, by go_num, by rw [HE.out, i64_w], by first | rfl | trivial⟩
      case measure => simp [intOf]; omega
    · obtain rfl : i = s.nodes.length := by omega
      go_wp2
      go_ret
      exact ⟨rfl, HB.out⟩
end Go.Proofs.YtglfebpgdghlfaaDoor.L
end
section
namespace Go.Proofs.YtglfebpgdghlfaaDoor.L
open Go.RowKit Go.ChangeShapes Go.WideShapes Go.Proofs.YtglfebpgdghlfaaDoorW.PrintWords Go.Proofs.YtglfebpgdghlfaaDoorW.PrintLast Go.Proofs.YtglfebpgdghlfaaDoorW.PrintMore
attribute [local go_sem] max2_int min2_int max_two min_two max_three min_three max_four min_four
def greatS (s : Scene) : Bool := decide (60 < s.nodes.length ∨ 300 < edgesW s.nodes ∨ ∃ j, j < s.nodes.length ∧ greatN (nd s.nodes j) = true)
set_option maxRecDepth 100000 in
set_option maxHeartbeats 2000000 in
theorem greatS_any (A : Option Addr) (c : Nat) (s : Scene) (w : World) (h : kNode.C w A s.nodes.length s.nodes) :
    Calls Tryd.prog 18 #[.agg #[.slice A s.nodes.length c, .int .i64 s.root]] w fun e w' => e = .returned (.bool (greatS s)) ∧ Below w.heap.size w w' := by
  have HR := Aside0.mk h
  have b0 := h.2.1
  have HB := Aside0.mk (below_alloc (Below.refl w.heap.size w) (.cells #[.slice A s.nodes.length c, .int .i64 s.root] 39))
  have k0 := box_cell w _ rfl #[.slice A s.nodes.length c, .int .i64 s.root] 39 0 _ rfl
  have k1 := box_cell w _ rfl #[.slice A s.nodes.length c, .int .i64 s.root] 39 1 _ rfl
  have hu := Tryd.underlying39
  have hun := Tryd.underlying26
  clear h
  by_cases h1 : 60 < s.nodes.length
  · have HE : Aside0 (greatS s = true) := ⟨decide_eq_true (.inl h1)⟩
    have d1 : decide (60 < (s.nodes.length : Int)) = true := decide_eq_true (by omega)
    clear h1
    go_enter Tryd.func18, Tryd.ntmps18
    go_wp2
    go_ret
    exact ⟨ret_bool HE.out.symm, HB.out⟩
  have H1 := Aside0.mk h1
  have d1 : decide (60 < (s.nodes.length : Int)) = false := decide_eq_false (by omega)
  clear h1
  go_enter Tryd.func18, Tryd.ntmps18
  go_wp2_with fail
  refine (edges_any A c s _ (Kd.C_below HR.out HB.out)).mono ?_
  rintro e w1 ⟨rfl, hB1⟩
  have HB1 := Aside0.mk (below_step HB.out hB1)
  replace k0 := pw_cell_below hB1 k0
  clear hB1 k1 d1
  by_cases h2 : 300 < edgesW s.nodes
  · have HE : Aside0 (greatS s = true) := ⟨decide_eq_true (.inr (.inl h2))⟩
    have d2 : decide (300 < edgesW s.nodes) = true := decide_eq_true h2
    clear h2
    go_wp2
    go_ret
    exact ⟨ret_bool HE.out.symm, HB1.out⟩
  have H2 := Aside0.mk h2
  have d2 : decide (300 < edgesW s.nodes) = false := decide_eq_false h2
  clear h2
  go_wp2
  clear d2
  go_loopw [3] (fun v3 W => ∃ i : Nat, i ≤ s.nodes.length ∧ v3 = .int .i64 i ∧ Aside0 (∀ j : Nat, j < i → ¬ greatN (nd s.nodes j) = true) ∧ Aside0 (Below w.heap.size w W ∧ W.cell? ⟨w.heap.size, 0, none⟩ = some (.slice A s.nodes.length c))) (fun v3 _ => s.nodes.length - (intOf v3).toNat)
  case atStart => exact ⟨0, by omega, rfl, ⟨fun j h => by omega⟩, ⟨HB1.out, k0⟩⟩
  case round =>
    clear k0
    obtain ⟨i, hi, rfl, HJ, HW⟩ := hrel
    have k0 := HW.out.2
    by_cases hlt : i < s.nodes.length
    · obtain ⟨adn, A1, c1, A2, c2, A3, c3, rfl, x0, x1, x2, x3, hN⟩ := at_node HR.out i hlt
      replace x0 := pw_cell_below HW.out.1 x0
      replace x1 := pw_cell_below HW.out.1 x1
      replace x2 := pw_cell_below HW.out.1 x2
      replace x3 := pw_cell_below HW.out.1 x3
      have HN := Aside0.mk hN
      clear hN
      go_wp2_with fail
      refine (great_any (nd s.nodes i) A1 c1 A2 c2 A3 c3 _ (HN.out.below HW.out.1)).mono ?_
      rintro e w2 ⟨rfl, hB2⟩
      have HB2 := Aside0.mk (And.intro (below_step HW.out.1 hB2) (pw_cell_below hB2 k0))
      clear hB2 k0 x0 x1 x2 x3
      cases hg : greatN (nd s.nodes i) with
      | true =>
        have HE : Aside0 (greatS s = true) := ⟨decide_eq_true (.inr (.inr ⟨i, hlt, hg⟩))⟩
        clear hg
        go_wp2
        go_ret
        exact ⟨ret_bool HE.out.symm, HB2.out.1⟩
      | false =>
        have HJ2 := Aside0.mk (ext_lt HJ.out (show ¬ greatN (nd s.nodes i) = true by rw [hg]; simp))
        clear hg
        go_wp2
        go_roundw
        case rel => exact ⟨i + 1, by omega, by go_num, HJ2, HB2⟩
        case measure => simp [intOf]; omega
    · obtain rfl : i = s.nodes.length := by omega
      have HE : Aside0 (greatS s = false) := ⟨decide_eq_false (fun h => by
        rcases h with h | h | ⟨j, hj, h⟩
        · exact H1.out h
        · have := H2.out; omega
        · exact HJ.out j hj h)⟩
      go_wp2
      go_ret
      exact ⟨ret_bool HE.out.symm, HW.out.1⟩
end Go.Proofs.YtglfebpgdghlfaaDoor.L
end
section
namespace Go.Proofs.YtglfebpgdghlfaaDoor.L
open Go.RowKit Go.ChangeShapes Go.WideShapes Go.Proofs.YtglfebpgdghlfaaDoorW.PrintWords Go.Proofs.YtglfebpgdghlfaaDoorW.PrintLast Go.Proofs.YtglfebpgdghlfaaDoorW.PrintMore
attribute [local go_sem] max2_int min2_int max_two min_two max_three min_three max_four min_four
def isPl (n : Nat) (k : Int) : Bool := decide (0 ≤ k ∧ k < (n : Int))
end Go.Proofs.YtglfebpgdghlfaaDoor.L
end
