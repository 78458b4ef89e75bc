/- What comes of upgrade.Up is valid within its own measure, and canonical, and the same for a scene and its canonical one; conditions: none (every scene; the two tables of unicode/utf8 read as the program's text lays them, and the card ties that). Conditions: those that each theorem states. -/
import Derived.Test.YtglfebpgdghlfaaDoorQpf
import Derived.StillTailTactics
import Derived.StringKeys
import Derived.Test.YtglfebpgdghlfaaDoorCards
import Derived.Test.YtglfebpgdghlfaaDoorTie
import Derived.OpenShut
import Derived.ChangeOld
import Derived.SizedLaws
import Derived.LaidMore
import Derived.Lay
import Derived.SevenTiedAt
import Derived.Stop.Joined
import Derived.Lib.LaidU8
set_option linter.unusedVariables false
set_option linter.unusedSimpArgs false
section
namespace Go.Proofs.YtglfebpgdghlfaaDoor.L
open Go.RowKit Go.ChangeShapes Go.WideShapes Go.Proofs.YtglfebpgdghlfaaDoorW.PrintWords Go.Proofs.YtglfebpgdghlfaaDoorW.PrintLast Go.Proofs.YtglfebpgdghlfaaDoorW.PrintMore
attribute [local go_sem] max2_int min2_int max_two min_two max_three min_three max_four min_four
open Classical in
noncomputable def psi (ms ns : List Node) (f : Int → Int) (x : Int) : Int :=
  if h : ∃ p j : Nat, p < ns.length ∧ j < upLen (nd ns p) ∧ x = ((pos ns p + j : Nat) : Int) then ((pos ms (f (h.choose : Int)).toNat + h.choose_spec.choose : Nat) : Int) else 0
theorem psi_at {ms ns : List Node} {f : Int → Int} {p j : Nat} (hp : p < ns.length) (hj : j < upLen (nd ns p)) : psi ms ns f ((pos ns p + j : Nat) : Int) = ((pos ms (f (p : Int)).toNat + j : Nat) : Int) := by
  have h : ∃ p' j' : Nat, p' < ns.length ∧ j' < upLen (nd ns p') ∧ ((pos ns p + j : Nat) : Int) = ((pos ns p' + j' : Nat) : Int) := ⟨p, j, hp, hj, rfl⟩
  unfold psi
  rw [dif_pos h]
  obtain ⟨h1, h2, h3⟩ := h.choose_spec.choose_spec
  obtain ⟨e1, e2⟩ := pos_inj ns hj h2 (by omega)
  have key : ∀ a b : Nat, p = a → j = b → ((pos ms (f (a : Int)).toNat + b : Nat) : Int) = ((pos ms (f (p : Int)).toNat + j : Nat) : Int) := by
    rintro _ _ rfl rfl
    rfl
  exact key _ _ e1 e2
theorem upK_same {n m : Node} (h1 : n.kind = m.kind) (h2 : n.ints = m.ints) (h3 : n.texts = m.texts) (b : Int) (q : List Int) : upK n b q = upK m b q := by
  unfold upK
  rw [h1, h2, h3]
theorem upLen_same {n m : Node} (h1 : n.kind = m.kind) : upLen n = upLen m := by unfold upLen; rw [h1]
theorem mix_iso {ms ns : List Node} {f : Int → Int} (h : Iso ms ns f) (hP : Places ns) (hsur : ∀ m : Nat, m < ms.length → ∃ q : Nat, q < ns.length ∧ (m : Int) = f (q : Int)) : Iso (mix ms ms.length ms.length) (mix ns ns.length ns.length) (psi ms ns f) := by
  have hlen := h.len
  have hfp : ∀ p : Nat, p < ns.length → 0 ≤ f (p : Int) ∧ (f (p : Int)).toNat < ms.length := fun p hp => by
    have := h.pl (p : Int) ⟨by omega, by omega⟩
    have h1 := this.1
    have h2 := this.2
    exact ⟨h1, by omega⟩
  have hnd : ∀ p : Nat, p < ns.length → nd ms (f (p : Int)).toNat = ⟨(nd ns p).kind, (nd ns p).ints, (nd ns p).texts, (nd ns p).kids.map f⟩ := fun p hp => by
    have := h.nd (p : Int) ⟨by omega, by omega⟩
    rw [Int.toNat_natCast, kids_nat] at this
    exact this
  have hul : ∀ p : Nat, p < ns.length → upLen (nd ms (f (p : Int)).toNat) = upLen (nd ns p) := fun p hp => upLen_same (by rw [hnd p hp])
  have find : ∀ x, Pl (mix ns ns.length ns.length) x → ∃ p j : Nat, p < ns.length ∧ j < upLen (nd ns p) ∧ x = ((pos ns p + j : Nat) : Int) := fun x hx => by
    obtain ⟨y, rfl⟩ : ∃ y : Nat, x = (y : Int) := ⟨x.toNat, by have := hx.1; omega⟩
    obtain ⟨p, j, h1, h2, h3⟩ := pos_find ns ns.length y (by have := hx.2; rw [U_len] at this; omega)
    exact ⟨p, j, h1, h2, by rw [h3]⟩
  have hpl : ∀ x, Pl (mix ns ns.length ns.length) x → Pl (mix ms ms.length ms.length) (psi ms ns f x) := fun x hx => by
    obtain ⟨p, j, hp, hj, rfl⟩ := find x hx
    rw [psi_at hp hj]
    have := up_pos_lt ms (p := (f (p : Int)).toNat) (j := j) (hfp p hp).2 (by rw [hul p hp]; exact hj)
    exact ⟨by omega, by rw [U_len]; omega⟩
  have hinj : ∀ x y, Pl (mix ns ns.length ns.length) x → Pl (mix ns ns.length ns.length) y → psi ms ns f x = psi ms ns f y → x = y := fun x y hx hy he => by
    obtain ⟨p, j, hp, hj, rfl⟩ := find x hx
    obtain ⟨q, k, hq, hk, rfl⟩ := find y hy
    rw [psi_at hp hj, psi_at hq hk] at he
    obtain ⟨e1, rfl⟩ := pos_inj ms (p := (f (p : Int)).toNat) (q := (f (q : Int)).toNat) (by rw [hul p hp]; exact hj) (by rw [hul q hq]; exact hk) (by omega)
    have := h.inj (p : Int) (q : Int) ⟨by omega, by omega⟩ ⟨by omega, by omega⟩ (by have := (hfp p hp).1; have := (hfp q hq).1; omega)
    have : p = q := by omega
    rw [this]
  refine ⟨?_, hpl, hinj, fun x hx => ?_⟩
  · -- as many nodes
    have hL := perm_len (L := (List.range (mix ns ns.length ns.length).length).map (fun y : Nat => psi ms ns f (y : Int))) (n := (mix ms ms.length ms.length).length) ?_ ?_ ?_
    · rw [List.length_map, List.length_range] at hL
      exact hL.symm
    · refine List.pairwise_map.2 (List.Pairwise.imp_of_mem ?_ List.nodup_range)
      intro a b ha hb hab e
      have := hinj (a : Int) (b : Int) ⟨by omega, by have := List.mem_range.1 ha; omega⟩ ⟨by omega, by have := List.mem_range.1 hb; omega⟩ e
      omega
    · intro x hx
      obtain ⟨y, hy, rfl⟩ := List.mem_map.1 hx
      have := hpl (y : Int) ⟨by omega, by have := List.mem_range.1 hy; omega⟩
      exact this
    · intro z hz
      rw [U_len] at hz
      obtain ⟨q, j, hq, hj, rfl⟩ := pos_find ms ms.length z hz
      obtain ⟨p, hp, e⟩ := hsur q hq
      have e2 : (f (p : Int)).toNat = q := by omega
      have hj' : j < upLen (nd ns p) := by rw [← hul p hp, e2]; exact hj
      refine List.mem_map.2 ⟨pos ns p + j, List.mem_range.2 (by rw [U_len]; exact up_pos_lt ns hp hj'), ?_⟩
      rw [psi_at hp hj', e2]
  · obtain ⟨p, j, hp, hj, rfl⟩ := find x hx
    have hjm : j < upLen (nd ms (f (p : Int)).toNat) := by rw [hul p hp]; exact hj
    rw [psi_at hp hj, Int.toNat_natCast, Int.toNat_natCast, nd_mix ms ms.length ms.length _ j (hfp p hp).2 (Nat.le_refl _) hjm, nd_mix ns ns.length ns.length p j hp (Nat.le_refl _) hj, kidsU ns hp hj]
    have hmk : mapK ms (nd ms (f (p : Int)).toNat).kids = (mapK ns (nd ns p).kids).map (psi ms ns f) := by
      rw [hnd p hp]
      unfold mapK
      show ((nd ns p).kids.map f).map _ = _
      rw [List.map_map, List.map_map]
      refine List.map_congr_left (fun k hk => ?_)
      have hkp := hP p hp k hk
      obtain ⟨c, rfl⟩ : ∃ c : Nat, k = (c : Int) := ⟨k.toNat, by omega⟩
      show ((pos ms (f (c : Int)).toNat : Nat) : Int) = psi ms ns f ((pos ns (c : Int).toNat : Nat) : Int)
      rw [Int.toNat_natCast]
      have := psi_at (ms := ms) (f := f) (p := c) (j := 0) (show c < ns.length by omega) (upLen_pos _)
      rw [Nat.add_zero, Nat.add_zero] at this
      rw [this]
    rw [upK_same (m := nd ns p) (by rw [hnd p hp]) (by rw [hnd p hp]) (by rw [hnd p hp]), hmk]
    by_cases ht : isTr (nd ns p) = true
    · have h2 := tr_len ht
      rw [upK_tr ht, upK_tr ht]
      by_cases h0 : j = 0
      · subst h0
        rw [if_pos ⟨ht, rfl⟩]
        have := psi_at (ms := ms) (f := f) (p := p) (j := 1) hp (by omega)
        show (⟨2, (nd ns p).ints.take 3, [], [((pos ms (f (p : Int)).toNat : Nat) : Int) + 1]⟩ : Node) = ⟨2, (nd ns p).ints.take 3, [], [psi ms ns f ((pos ns p + 1 : Nat) : Int)]⟩
        rw [this]
        rfl
      · obtain rfl : j = 1 := by omega
        rw [if_neg (fun hh => h0 hh.2)]
        rfl
    · have h1 := tr_not ht
      obtain rfl : j = 0 := by omega
      rw [if_neg (fun hh => ht hh.1), (upK_ntr ht _ ((pos ns p : Int) + 1) (mapK ns (nd ns p).kids) _).1]
      rfl
theorem canon_sur {s : Scene} (h : Right s) : ∀ m : Nat, m < (canonL s).length → ∃ q : Nat, q < s.nodes.length ∧ (m : Int) = ((idx s (q : Int) : Nat) : Int) := fun m hm => by
  rw [(canon_iso h).len] at hm
  obtain ⟨q, e, hq⟩ := ord_at h hm
  have := idx_at h hm
  rw [e] at this
  exact ⟨q, hq, by omega⟩
theorem up_canon {s : Scene} (hty : (typedS oldTab s.nodes).1 = 0) (h : Right s) : upRes ⟨canonL s, (s.nodes.length : Int) - 1⟩ = upRes s ∧ upErr ⟨canonL s, (s.nodes.length : Int) - 1⟩ = 0 := by
  have hr := canon_right h
  have hi := canon_iso h
  have hm := mix_iso hi h.pl (canon_sur h)
  have hu := upS_right h
  have hu' := upS_right hr
  have ht : (typedS oldTab (canonL s)).1 = 0 := by
    rw [typedS_ok (fun j hj => ?_)]
    have hj' : j < s.nodes.length := by rw [hi.len] at hj; exact hj
    obtain ⟨q, hq, e⟩ := canon_sur h j hj
    have h1 : nd (canonL s) ((idx s (q : Int) : Nat) : Int).toNat = ⟨(nd s.nodes (q : Int).toNat).kind, (nd s.nodes (q : Int).toNat).ints, (nd s.nodes (q : Int).toNat).texts, (kids s.nodes (q : Int)).map (fun x => (idx s x : Int))⟩ := hi.nd (q : Int) ⟨by omega, by omega⟩
    have h2 : ((idx s (q : Int) : Nat) : Int).toNat = j := by omega
    rw [h2, Int.toNat_natCast, kids_nat] at h1
    rw [h1]
    have h3 := typedS_zero hty q hq
    unfold nodeT at h3 ⊢
    show (match findS oldTab (nd s.nodes q).kind with | none => (9 : Int) | some x => nodeErr ⟨(nd s.nodes q).kind, (nd s.nodes q).ints, (nd s.nodes q).texts, (nd s.nodes q).kids.map _⟩ x) = 0
    cases hf : findS oldTab (nd s.nodes q).kind with
    | none => rw [hf] at h3; exact h3
    | some x =>
      rw [hf] at h3
      have h4 : nodeErr (nd s.nodes q) x = 0 := h3
      show nodeErr _ x = 0
      unfold nodeErr at h4 ⊢
      simp only [List.length_map]
      exact h4
  have hc : canonL (upS ⟨canonL s, (s.nodes.length : Int) - 1⟩) = canonL (upS s) := by
    refine hm.canonL (s := upS ⟨canonL s, (s.nodes.length : Int) - 1⟩) (t := upS s) hu.pl ⟨hu.r0, hu.r1⟩ ?_
    show ((pos (canonL s) ((s.nodes.length : Int) - 1).toNat : Nat) : Int) = psi (canonL s) s.nodes _ ((pos s.nodes s.root.toNat : Nat) : Int)
    have h0 := h.r0
    have h1 := h.r1
    have := psi_at (ms := canonL s) (f := fun x => ((idx s x : Nat) : Int)) (p := s.root.toNat) (j := 0) (show s.root.toNat < s.nodes.length by omega) (upLen_pos _)
    rw [Nat.add_zero, Nat.add_zero] at this
    rw [this, Int.toNat_of_nonneg h0, canon_root h]
  have hl : (upS ⟨canonL s, (s.nodes.length : Int) - 1⟩).nodes.length = (upS s).nodes.length := hm.len
  refine ⟨?_, ?_⟩
  · unfold upRes canonR
    rw [if_pos ht, if_pos hty, if_pos (gcheck_right.2 hr), if_pos (gcheck_right.2 h), if_pos (gcheck_right.2 hu'), if_pos (gcheck_right.2 hu), hc, hl]
  · unfold upErr
    rw [if_pos ht, if_pos (gcheck_right.2 hr)]
    exact gcheck_right.2 hu'
end Go.Proofs.YtglfebpgdghlfaaDoor.L
end
section
namespace Go.Proofs.YtglfebpgdghlfaaDoor.L
open Go.RowKit Go.ChangeShapes Go.WideShapes Go.Proofs.YtglfebpgdghlfaaDoorW.PrintWords Go.Proofs.YtglfebpgdghlfaaDoorW.PrintLast Go.Proofs.YtglfebpgdghlfaaDoorW.PrintMore
attribute [local go_sem] max2_int min2_int max_two min_two max_three min_three max_four min_four
theorem nodeErr_zero4 {n : Node} {x : Spec} : nodeErr n x = 0 ↔ (numsOk n.ints x.ints = true ∧ (n.texts.length : Int) = x.texts ∧ textsOk n.texts = true ∧ ¬ ((n.kids.length : Int) < x.least ∨ 0 ≤ x.most ∧ x.most < n.kids.length)) := by
  unfold nodeErr
  by_cases h1 : numsOk n.ints x.ints = false
  · rw [if_pos h1]
    exact ⟨fun h => absurd h (by decide), fun h => by rw [h1] at h; exact absurd h.1 (by decide)⟩
  · rw [if_neg h1]
    by_cases h2 : ¬ (n.texts.length : Int) = x.texts ∨ textsOk n.texts = false
    · rw [if_pos h2]
      refine ⟨fun h => absurd h (by decide), fun h => ?_⟩
      rcases h2 with h2 | h2
      · exact absurd h.2.1 h2
      · rw [h2] at h; exact absurd h.2.2.1 (by decide)
    · rw [if_neg h2]
      have h2' : (n.texts.length : Int) = x.texts ∧ textsOk n.texts = true := ⟨Classical.byContradiction fun e => h2 (.inl e), by cases hb : textsOk n.texts with | true => rfl | false => exact absurd (.inr hb) h2⟩
      by_cases h3 : (n.kids.length : Int) < x.least ∨ 0 ≤ x.most ∧ x.most < n.kids.length
      · rw [if_pos h3]
        exact ⟨fun h => absurd h (by decide), fun h => absurd h3 h.2.2.2⟩
      · rw [if_neg h3]
        refine ⟨fun _ => ⟨?_, h2'.1, h2'.2, h3⟩, fun _ => rfl⟩
        cases hb : numsOk n.ints x.ints with
        | true => rfl
        | false => exact absurd hb h1
theorem nodeT_at {tab : List Spec} {n : Node} {k : Int} {x : Spec} (hk : n.kind = k) (hf : findS tab k = some x) : nodeT tab n = nodeErr n x := by
  unfold nodeT
  rw [hk, hf]
theorem nums_of {l cl : List Int} (hl : l.length = cl.length) (h : ∀ j : Nat, j < l.length → inC (rd cl (j : Int)) (rd l (j : Int)) = true) : numsOk l cl = true := decide_eq_true ⟨hl, h⟩
theorem nums_at {l cl : List Int} (h : numsOk l cl = true) : l.length = cl.length ∧ ∀ j : Nat, j < l.length → inC (rd cl (j : Int)) (rd l (j : Int)) = true := of_decide_eq_true h
theorem utf_empty : utfOk ByteArray.empty = true := by kernel_rfl
theorem utf_sans : utfOk (⟨#[115, 97, 110, 115]⟩ : ByteArray) = true := by kernel_rfl
theorem texts_of {l : List ByteArray} (h : ∀ j : Nat, j < l.length → utfOk (str l j) = true) : textsOk l = true := decide_eq_true h
theorem texts_at {l : List ByteArray} (h : textsOk l = true) : ∀ j : Nat, j < l.length → utfOk (str l j) = true := of_decide_eq_true h
theorem upK_typed {n : Node} (h : nodeT oldTab n = 0) (b : Int) (q : List Int) (hq : q.length = n.kids.length) : ∀ j : Nat, j < upLen n → nodeT newTab (nd (upK n b q) j) = 0 := by
  have hul := upK_len n b q
  intro j hj
  rcases typed_texts h with ⟨e, ht⟩ | ⟨e, ht⟩ | ⟨e, ht⟩ | ⟨e, ht⟩ | ⟨e, ht⟩ | ⟨e, ht⟩
  · have hu : upK n b q = [⟨1, [], [ByteArray.empty], q⟩] := by unfold upK; rw [e]; rfl
    rw [hu] at hul ⊢
    obtain rfl : j = 0 := by rw [← hul] at hj; simp at hj; omega
    rw [show nd [⟨1, [], [ByteArray.empty], q⟩] 0 = (⟨1, [], [ByteArray.empty], q⟩ : Node) from rfl, nodeT_at (k := 1) (x := ⟨[], 1, 0, -1⟩) rfl rfl]
    refine nodeErr_zero4.2 ⟨rfl, rfl, texts_of (fun j hj => ?_), fun hh => ?_⟩
    · obtain rfl : j = 0 := by simpa using hj
      exact utf_empty
    · rcases hh with hh | hh
      · have : (q.length : Int) < 0 := hh; omega
      · have : (0 : Int) ≤ -1 := hh.1; omega
  · have hu : upK n b q = [⟨2, n.ints.take 3, [], [b]⟩, ⟨8, [rd n.ints 3, rd n.ints 3, rd n.ints 3], [], q⟩] := by unfold upK; rw [e]; rfl
    rw [nodeT_at e (x := ⟨[2, 2, 2, 2], 0, 1, 1⟩) rfl] at h
    obtain ⟨h1, _, _, h4⟩ := nodeErr_zero4.1 h
    obtain ⟨g1, g2⟩ := nums_at h1
    have g1' : n.ints.length = 4 := g1
    have hq1 : q.length = 1 := by
      have a1 : ¬ (n.kids.length : Int) < 1 := fun hh => h4 (.inl hh)
      have a2 : ¬ (1 : Int) < n.kids.length := fun hh => h4 (.inr ⟨by decide, hh⟩)
      omega
    rw [hu] at hul ⊢
    have h2 : j = 0 ∨ j = 1 := by rw [← hul] at hj; simp at hj; omega
    rcases h2 with rfl | rfl
    · rw [show nd [⟨2, n.ints.take 3, [], [b]⟩, ⟨8, [rd n.ints 3, rd n.ints 3, rd n.ints 3], [], q⟩] 0 = (⟨2, n.ints.take 3, [], [b]⟩ : Node) from rfl, nodeT_at (k := 2) (x := ⟨[2, 2, 2], 0, 1, 1⟩) rfl rfl]
      refine nodeErr_zero4.2 ⟨nums_of (by show (n.ints.take 3).length = 3; rw [List.length_take]; omega) (fun j hj => ?_), rfl, rfl, fun hh => ?_⟩
      · have hj3 : j < 3 := by have : j < (n.ints.take 3).length := hj; rw [List.length_take] at this; omega
        have e1 : rd (n.ints.take 3) (j : Int) = rd n.ints (j : Int) := by
          unfold rd
          rw [List.getD_eq_getElem?_getD, List.getD_eq_getElem?_getD, Int.toNat_natCast, List.getElem?_take, if_pos hj3]
        show inC (rd [2, 2, 2] (j : Int)) (rd (n.ints.take 3) (j : Int)) = true
        rw [e1]
        have g3 := g2 j (by omega)
        match j, hj3 with
        | 0, _ => exact g3
        | 1, _ => exact g3
        | 2, _ => exact g3
      · rcases hh with hh | hh
        · have : ((1 : Nat) : Int) < 1 := hh; omega
        · have : (1 : Int) < ((1 : Nat) : Int) := hh.2; omega
    · rw [show nd [⟨2, n.ints.take 3, [], [b]⟩, ⟨8, [rd n.ints 3, rd n.ints 3, rd n.ints 3], [], q⟩] 1 = (⟨8, [rd n.ints 3, rd n.ints 3, rd n.ints 3], [], q⟩ : Node) from rfl, nodeT_at (k := 8) (x := ⟨[2, 2, 2], 0, 1, 1⟩) rfl rfl]
      have g3 : inC 2 (rd n.ints 3) = true := g2 3 (by omega)
      refine nodeErr_zero4.2 ⟨nums_of rfl (fun j hj => ?_), rfl, rfl, fun hh => ?_⟩
      · match j, hj with
        | 0, _ => exact g3
        | 1, _ => exact g3
        | 2, _ => exact g3
        | j + 3, h => exact absurd h (by show ¬ j + 3 < 3; omega)
      · rcases hh with hh | hh
        · have : (q.length : Int) < 1 := hh; omega
        · have : (1 : Int) < (q.length : Int) := hh.2; omega
  · have hu : upK n b q = [⟨3, [rd n.ints 0, rd n.ints 0, rd n.ints 0], n.texts, q⟩] := by unfold upK; rw [e]; rfl
    rw [nodeT_at e (x := ⟨[3], 1, 0, 0⟩) rfl] at h
    obtain ⟨h1, _, h3, h4⟩ := nodeErr_zero4.1 h
    obtain ⟨g1, g2⟩ := nums_at h1
    have g1' : n.ints.length = 1 := g1
    rw [hu] at hul ⊢
    obtain rfl : j = 0 := by rw [← hul] at hj; simp at hj; omega
    rw [show nd [⟨3, [rd n.ints 0, rd n.ints 0, rd n.ints 0], n.texts, q⟩] 0 = (⟨3, [rd n.ints 0, rd n.ints 0, rd n.ints 0], n.texts, q⟩ : Node) from rfl, nodeT_at (k := 3) (x := ⟨[3, 3, 3], 1, 0, 0⟩) rfl rfl]
    have g3 : inC 3 (rd n.ints 0) = true := g2 0 (by omega)
    refine nodeErr_zero4.2 ⟨nums_of rfl (fun j hj => ?_), by show (n.texts.length : Int) = 1; omega, h3, fun hh => h4 (by rw [← hq]; exact hh)⟩
    match j, hj with
    | 0, _ => exact g3
    | 1, _ => exact g3
    | 2, _ => exact g3
    | j + 3, h => exact absurd h (by show ¬ j + 3 < 3; omega)
  · have hu : upK n b q = [⟨4, n.ints, n.texts, q⟩] := by unfold upK; rw [e]; rfl
    rw [nodeT_at e (x := ⟨[3], 1, 0, 0⟩) rfl] at h
    obtain ⟨h1, h2, h3, h4⟩ := nodeErr_zero4.1 h
    rw [hu] at hul ⊢
    obtain rfl : j = 0 := by rw [← hul] at hj; simp at hj; omega
    rw [show nd [⟨4, n.ints, n.texts, q⟩] 0 = (⟨4, n.ints, n.texts, q⟩ : Node) from rfl, nodeT_at (k := 4) (x := ⟨[3], 1, 0, 0⟩) rfl rfl]
    exact nodeErr_zero4.2 ⟨h1, h2, h3, fun hh => h4 (by rw [← hq]; exact hh)⟩
  · have hu : upK n b q = [⟨5, [65536], [str n.texts 0, sansB], q⟩] := by unfold upK; rw [e]; rfl
    rw [nodeT_at e (x := ⟨[], 1, 0, 0⟩) rfl] at h
    obtain ⟨h1, h2, h3, h4⟩ := nodeErr_zero4.1 h
    rw [hu] at hul ⊢
    obtain rfl : j = 0 := by rw [← hul] at hj; simp at hj; omega
    rw [show nd [⟨5, [65536], [str n.texts 0, sansB], q⟩] 0 = (⟨5, [65536], [str n.texts 0, sansB], q⟩ : Node) from rfl, nodeT_at (k := 5) (x := ⟨[3], 2, 0, 0⟩) rfl rfl]
    refine nodeErr_zero4.2 ⟨rfl, rfl, texts_of (fun j hj => ?_), fun hh => h4 (by rw [← hq]; exact hh)⟩
    match j, hj with
    | 0, _ => exact texts_at h3 0 (by omega)
    | 1, _ => exact utf_sans
    | j + 2, h => exact absurd h (by show ¬ j + 2 < 2; omega)
  · have hu : upK n b q = [⟨7, [rd n.ints 0, rd n.ints 0, rd n.ints 0, 1], [], q⟩] := by unfold upK; rw [e]; rfl
    rw [nodeT_at e (x := ⟨[4], 0, 0, 0⟩) rfl] at h
    obtain ⟨h1, _, h3, h4⟩ := nodeErr_zero4.1 h
    obtain ⟨g1, g2⟩ := nums_at h1
    have g1' : n.ints.length = 1 := g1
    rw [hu] at hul ⊢
    obtain rfl : j = 0 := by rw [← hul] at hj; simp at hj; omega
    rw [show nd [⟨7, [rd n.ints 0, rd n.ints 0, rd n.ints 0, 1], [], q⟩] 0 = (⟨7, [rd n.ints 0, rd n.ints 0, rd n.ints 0, 1], [], q⟩ : Node) from rfl, nodeT_at (k := 7) (x := ⟨[4, 4, 4, 5], 0, 0, 0⟩) rfl rfl]
    have g3 : inC 4 (rd n.ints 0) = true := g2 0 (by omega)
    refine nodeErr_zero4.2 ⟨nums_of rfl (fun j hj => ?_), rfl, rfl, fun hh => h4 (by rw [← hq]; exact hh)⟩
    match j, hj with
    | 0, _ => exact g3
    | 1, _ => exact g3
    | 2, _ => exact g3
    | 3, _ => rfl
    | j + 4, h => exact absurd h (by show ¬ j + 4 < 4; omega)
theorem nodeT_kids {tab : List Spec} {n : Node} {q : List Int} (hq : q.length = n.kids.length) : nodeT tab ⟨n.kind, n.ints, n.texts, q⟩ = nodeT tab n := by
  unfold nodeT
  show (match findS tab n.kind with | none => (9 : Int) | some x => nodeErr ⟨n.kind, n.ints, n.texts, q⟩ x) = _
  cases hf : findS tab n.kind with
  | none => rfl
  | some x =>
    show nodeErr ⟨n.kind, n.ints, n.texts, q⟩ x = nodeErr n x
    unfold nodeErr
    simp only [hq]
theorem upRes_typed {s : Scene} (hty : (typedS oldTab s.nodes).1 = 0) (h : Right s) : (typedS newTab (upRes s).nodes).1 = 0 := by
  have hu := upS_right h
  have e : (upRes s).nodes = canonL (upS s) := by
    unfold upRes canonR
    rw [if_pos hty, if_pos (gcheck_right.2 h), if_pos (gcheck_right.2 hu)]
  rw [e, typedS_ok (fun j hj => ?_)]
  obtain ⟨x, hx, ej⟩ := canon_sur hu j hj
  have h1 : nd (canonL (upS s)) ((idx (upS s) (x : Int) : Nat) : Int).toNat = ⟨(nd (upS s).nodes (x : Int).toNat).kind, (nd (upS s).nodes (x : Int).toNat).ints, (nd (upS s).nodes (x : Int).toNat).texts, (kids (upS s).nodes (x : Int)).map (fun x => (idx (upS s) x : Int))⟩ := (canon_iso hu).nd (x : Int) ⟨by omega, by omega⟩
  have h2 : ((idx (upS s) (x : Int) : Nat) : Int).toNat = j := by omega
  rw [h2, Int.toNat_natCast, kids_nat] at h1
  rw [h1, nodeT_kids (by rw [List.length_map])]
  have hx' : x < pos s.nodes s.nodes.length := by have : (upS s).nodes.length = pos s.nodes s.nodes.length := U_len _; omega
  obtain ⟨p, i, hp, hi, rfl⟩ := pos_find s.nodes s.nodes.length x hx'
  show nodeT newTab (nd (mix s.nodes s.nodes.length s.nodes.length) (pos s.nodes p + i)) = 0
  rw [nd_mix s.nodes s.nodes.length s.nodes.length p i hp (Nat.le_refl _) hi]
  exact upK_typed (typedS_zero hty p hp) _ _ (by unfold mapK; rw [List.length_map]) i hi
end Go.Proofs.YtglfebpgdghlfaaDoor.L
end
section
namespace Go.Proofs.YtglfebpgdghlfaaDoor.L
open Go.RowKit Go.ChangeShapes Go.WideShapes Go.Proofs.YtglfebpgdghlfaaDoorW.PrintWords Go.Proofs.YtglfebpgdghlfaaDoorW.PrintLast Go.Proofs.YtglfebpgdghlfaaDoorW.PrintMore
attribute [local go_sem] max2_int min2_int max_two min_two max_three min_three max_four min_four
structure Ed where
  kind : Int
  n : Int
deriving DecidableEq
def kEd : Kd Ed := Kd.iso (Kd.pair (Kd.int .i64) (Kd.int .i64)) (fun x : Ed => (x.kind, x.n))
end Go.Proofs.YtglfebpgdghlfaaDoor.L
end
section
namespace Go.Proofs.YtglfebpgdghlfaaDoor.L
open Go.RowKit Go.ChangeShapes Go.WideShapes Go.Proofs.YtglfebpgdghlfaaDoorW.PrintWords Go.Proofs.YtglfebpgdghlfaaDoorW.PrintLast Go.Proofs.YtglfebpgdghlfaaDoorW.PrintMore
attribute [local go_sem] max2_int min2_int max_two min_two max_three min_three max_four min_four
def setz : SetV := ⟨false, 0, 0, ByteArray.empty⟩
def st (xs : List SetV) (i : Nat) : SetV := xs.getD i setz
structure OutRel (m : Node) (v1 v2 v3 : Value) (w : World) (rb g : Nat) (W : World) : Prop where
  below : Below w.heap.size w W
  box : W.heap[g]? = some (.cells #[.int .i64 m.kind, v1, v2, v3] 26 (0, 0))
  res : W.heap[rb]? = some (.cells #[.int .i64 0, .slice none 0 0, .slice none 0 0, .slice none 0 0] 26 (0, 0))
  rge : w.heap.size ≤ rb
  ge : rb < g
  r1 : (Kd.int .i64).R 2 W w.heap.size (fun _ => True) v1 m.ints
  r2 : Kd.string.R 9 W w.heap.size (fun _ => True) v2 m.texts
  r3 : (Kd.int .i64).R 3 W w.heap.size (fun _ => True) v3 m.kids
section
variable {m : Node} {v1 v2 v3 : Value} {w : World} {rb g : Nat} {W W1 : World}
theorem OutRel.later (h : OutRel m v1 v2 v3 w rb g W) (hb : Below W.heap.size W W1) : OutRel m v1 v2 v3 w rb g W1 :=
  ⟨below_step h.below hb, (hb.block _ (blk_lt h.box)).trans h.box, (hb.block _ (blk_lt h.res)).trans h.res, h.rge, h.ge, Kd.R_below h.r1 hb, Kd.R_below h.r2 hb, Kd.R_below h.r3 hb⟩
theorem OutRel.alloc (h : OutRel m v1 v2 v3 w rb g W) (o : Obj) : OutRel m v1 v2 v3 w rb g (W.alloc o) := h.later (below_alloc (Below.refl _ _) o)
theorem OutRel.start {B : Nat} (hB : Below w.heap.size w W) (hrb : w.heap.size ≤ rb) (hres : W.heap[rb]? = some (.cells #[.int .i64 0, .slice none 0 0, .slice none 0 0, .slice none 0 0] 26 (0, 0))) (hw : w.heap.size ≤ B)
    (hM : kNode.M W B (fun _ => True) m [.int .i64 m.kind, v1, v2, v3]) : OutRel m v1 v2 v3 w rb W.heap.size (W.alloc (.cells #[.int .i64 m.kind, v1, v2, v3] 26)) := by
  obtain ⟨x1, x2, x3, e, h1, h2, h3⟩ := kNode_openM hM
  injection e with _ e
  injection e with e1 e
  injection e with e2 e
  injection e with e3 _
  subst e1 e2 e3
  have hA := below_alloc (Below.refl W.heap.size W) (.cells #[.int .i64 m.kind, v1, v2, v3] 26)
  exact ⟨below_step hB hA, by simpa using heap_alloc_new W _, (hA.block _ (blk_lt hres)).trans hres, hrb, blk_lt hres, Kd.R_lower (Kd.R_below h1 hA) hw, Kd.R_lower (Kd.R_below h2 hA) hw, Kd.R_lower (Kd.R_below h3 hA) hw⟩
theorem OutRel.far {b : Nat} {T : TypeId} {cells : Array Value} (h : OutRel m v1 v2 v3 w rb g W) (hg : W.grownBy W1 (some b)) (hc : W.heap[b]? = some (.cells cells T (0, 0))) (hT : ¬ T = 26) :
    W1.heap[g]? = some (.cells #[.int .i64 m.kind, v1, v2, v3] 26 (0, 0)) ∧ W1.heap[rb]? = some (.cells #[.int .i64 0, .slice none 0 0, .slice none 0 0, .slice none 0 0] 26 (0, 0)) := by
  refine ⟨blk_grown h.box hg (fun e => ?_), blk_grown h.res hg (fun e => ?_)⟩
  · injection e with e
    rw [← e, h.box] at hc
    injection hc with hc
    injection hc with _ hc
    exact hT hc.symm
  · injection e with e
    rw [← e, h.res] at hc
    injection hc with hc
    injection hc with _ hc
    exact hT hc.symm
theorem OutRel.put {m2 : Node} {x1 x2 x3 : Value} (h : OutRel m v1 v2 v3 w rb g W) (hM : kNode.M W w.heap.size (fun _ => True) m2 [.int .i64 m2.kind, x1, x2, x3]) :
    OutRel m2 x1 x2 x3 w rb g ((((W.setCell ⟨g, 0, none⟩ (.int .i64 m2.kind)).setCell ⟨g, 1, none⟩ x1).setCell ⟨g, 2, none⟩ x2).setCell ⟨g, 3, none⟩ x3) := by
  have hge := h.ge
  have hrg := h.rge
  obtain ⟨y1, y2, y3, e, r1, r2, r3⟩ := kNode_openM hM
  injection e with _ e
  injection e with e1 e
  injection e with e2 e
  injection e with e3 _
  subst e1 e2 e3
  have hb0 := h.box
  have hb1 := blk_set hb0 0 (.int .i64 m2.kind)
  have hb2 := blk_set hb1 1 x1
  have hb3 := blk_set hb2 2 x2
  refine ⟨below_set4 h.below (by omega), box4 h.box _ _ _ _, ?_, h.rge, h.ge, ?_, ?_, ?_⟩
  · rw [Below.heap_setCell _ ⟨g, 3, none⟩ x3 rb (by show rb ≠ g; omega), Below.heap_setCell _ ⟨g, 2, none⟩ x2 rb (by show rb ≠ g; omega), Below.heap_setCell _ ⟨g, 1, none⟩ x1 rb (by show rb ≠ g; omega), Below.heap_setCell _ ⟨g, 0, none⟩ (.int .i64 m2.kind) rb (by show rb ≠ g; omega)]
    exact h.res
  · exact R_type (R_type (R_type (R_type r1 hb0 (by decide) _ _) hb1 (by decide) _ _) hb2 (by decide) _ _) hb3 (by decide) _ _
  · exact R_type (R_type (R_type (R_type r2 hb0 (by decide) _ _) hb1 (by decide) _ _) hb2 (by decide) _ _) hb3 (by decide) _ _
  · exact R_type (R_type (R_type (R_type r3 hb0 (by decide) _ _) hb1 (by decide) _ _) hb2 (by decide) _ _) hb3 (by decide) _ _
theorem OutRel.done (h : OutRel m v1 v2 v3 w rb g W) :
    ((((W.setCell ⟨rb, 0, none⟩ (.int .i64 m.kind)).setCell ⟨rb, 1, none⟩ v1).setCell ⟨rb, 2, none⟩ v2).setCell ⟨rb, 3, none⟩ v3).heap[rb]? = some (.cells #[.int .i64 m.kind, v1, v2, v3] 26 (0, 0)) ∧
    kNode.M ((((W.setCell ⟨rb, 0, none⟩ (.int .i64 m.kind)).setCell ⟨rb, 1, none⟩ v1).setCell ⟨rb, 2, none⟩ v2).setCell ⟨rb, 3, none⟩ v3) w.heap.size (fun _ => True) m [.int .i64 m.kind, v1, v2, v3] ∧
    Below w.heap.size w ((((W.setCell ⟨rb, 0, none⟩ (.int .i64 m.kind)).setCell ⟨rb, 1, none⟩ v1).setCell ⟨rb, 2, none⟩ v2).setCell ⟨rb, 3, none⟩ v3) := by
  have hb0 := h.res
  have hb1 := blk_set hb0 0 (.int .i64 m.kind)
  have hb2 := blk_set hb1 1 v1
  have hb3 := blk_set hb2 2 v2
  refine ⟨box4 hb0 _ _ _ _, kNode_mkM ?_ ?_ ?_, below_set4 h.below h.rge⟩
  · exact R_type (R_type (R_type (R_type h.r1 hb0 (by decide) _ _) hb1 (by decide) _ _) hb2 (by decide) _ _) hb3 (by decide) _ _
  · exact R_type (R_type (R_type (R_type h.r2 hb0 (by decide) _ _) hb1 (by decide) _ _) hb2 (by decide) _ _) hb3 (by decide) _ _
  · exact R_type (R_type (R_type (R_type h.r3 hb0 (by decide) _ _) hb1 (by decide) _ _) hb2 (by decide) _ _) hb3 (by decide) _ _
end
theorem nodez_M (W : World) (base : Nat) : kNode.M W base (fun _ => True) nodez [.int .i64 nodez.kind, .slice none 0 0, .slice none 0 0, .slice none 0 0] := kNode_mkM (Kd.R_nil _ _ _ _ _) (Kd.R_nil _ _ _ _ _) (Kd.R_nil _ _ _ _ _)
structure Opn where
  kind : Int
  base : Int
  sets : List SetV
  script : List Ed
  node : Node
def opz : Opn := ⟨0, 0, [], [], nodez⟩
def op (xs : List Opn) (i : Nat) : Opn := xs.getD i opz
structure OpnC (w : World) (o : Opn) (B1 : Option Addr) (d1 : Nat) (B2 : Option Addr) (d2 : Nat) (A1 : Option Addr) (c1 : Nat) (A2 : Option Addr) (c2 : Nat) (A3 : Option Addr) (c3 : Nat) : Prop where
  ls : o.sets.length ≤ d1
  s : kSet.C w B1 o.sets.length o.sets
  le : o.script.length ≤ d2
  e : kEd.C w B2 o.script.length o.script
  n : NodeC w o.node A1 c1 A2 c2 A3 c3
theorem OpnC.below {w w' : World} {o : Opn} {B1 B2 A1 A2 A3 : Option Addr} {d1 d2 c1 c2 c3 : Nat} (h : OpnC w o B1 d1 B2 d2 A1 c1 A2 c2 A3 c3) (hb : Below w.heap.size w w') : OpnC w' o B1 d1 B2 d2 A1 c1 A2 c2 A3 c3 :=
  ⟨h.ls, Kd.C_below h.s hb, h.le, Kd.C_below h.e hb, h.n.below hb⟩
end Go.Proofs.YtglfebpgdghlfaaDoor.L
end
section
namespace Go.Proofs.YtglfebpgdghlfaaDoor.L
open Go.RowKit Go.ChangeShapes Go.WideShapes Go.Proofs.YtglfebpgdghlfaaDoorW.PrintWords Go.Proofs.YtglfebpgdghlfaaDoorW.PrintLast Go.Proofs.YtglfebpgdghlfaaDoorW.PrintMore
attribute [local go_sem] max2_int min2_int max_two min_two max_three min_three max_four min_four
def baseOf (o : Opn) : Int := if o.kind = 3 then -2 else o.base
noncomputable def imgF (base : List Int) : Lit → Option Value := fun q => match q with
  | .int .i64 k => if 0 ≤ k ∧ k ∈ base then some (.int .i64 (base.idxOf k : Int)) else none
  | _ => none
end Go.Proofs.YtglfebpgdghlfaaDoor.L
end
section
namespace Go.Proofs.YtglfebpgdghlfaaDoor.L
open Go.RowKit Go.ChangeShapes Go.WideShapes Go.Proofs.YtglfebpgdghlfaaDoorW.PrintWords Go.Proofs.YtglfebpgdghlfaaDoorW.PrintLast Go.Proofs.YtglfebpgdghlfaaDoorW.PrintMore
attribute [local go_sem] max2_int min2_int max_two min_two max_three min_three max_four min_four
structure BRel (a : Scene) (A : Option Addr) (c b mb cnt : Nat) (f : Lit → Option Value) (v : Value) (out : List Node) (w W : World) : Prop where
  below : Below w.heap.size w W
  blk : W.heap[b]? = some (.cells #[.slice A a.nodes.length c, .int .i64 a.root, .map (some mb), v] 89 (0, 0))
  map : MapF Tryd.prog 3 W mb cnt f
  rows : kNode.R 26 W w.heap.size (fun _ => True) v out
  bge : w.heap.size ≤ b
  mge : w.heap.size ≤ mb
section
variable {a : Scene} {A : Option Addr} {c b mb cnt : Nat} {f : Lit → Option Value} {v : Value} {out : List Node} {w W W1 : World}
theorem BRel.later (h : BRel a A c b mb cnt f v out w W) (hb : Below W.heap.size W W1) : BRel a A c b mb cnt f v out w W1 :=
  ⟨below_step h.below hb, (hb.block _ (blk_lt h.blk)).trans h.blk, h.map.below hb, Kd.R_below h.rows hb, h.bge, h.mge⟩
theorem BRel.drew (h : BRel a A c b mb cnt f v out w W) : BRel a A c b mb cnt f v out w W.drew := h.later (pw_below_drewN (Below.refl _ _) 1)
end
def CapB (B N : Nat) (w : World) : Prop := ∃ b A c, w.cell? ⟨B, 0, none⟩ = some (.pointer (some ⟨b, 0, none⟩)) ∧ w.cell? ⟨b, 3, none⟩ = some (.slice A N c) ∧ N ≤ 9223372036854775807
theorem CapB.below {B N : Nat} {w w' : World} (h : CapB B N w) (hb : Below w.heap.size w w') : CapB B N w' := by
  obtain ⟨b, A, c, h1, h2, hN⟩ := h
  exact ⟨b, A, c, pw_cell_below hb h1, pw_cell_below hb h2, hN⟩
end Go.Proofs.YtglfebpgdghlfaaDoor.L
end
section
namespace Go.Proofs.YtglfebpgdghlfaaDoor.L
open Go.RowKit Go.ChangeShapes Go.WideShapes Go.Proofs.YtglfebpgdghlfaaDoorW.PrintWords Go.Proofs.YtglfebpgdghlfaaDoorW.PrintLast Go.Proofs.YtglfebpgdghlfaaDoorW.PrintMore
attribute [local go_sem] max2_int min2_int max_two min_two max_three min_three max_four min_four
abbrev zeroN : Array Value := #[.int .i64 0, .slice none 0 0, .slice none 0 0, .slice none 0 0]
section
variable {a : Scene} {A : Option Addr} {c b mb cnt : Nat} {base : List Int} {v : Value} {out : List Node} {w : World}
end
end Go.Proofs.YtglfebpgdghlfaaDoor.L
end
section
namespace Go.Proofs.YtglfebpgdghlfaaDoor.L
open Go.RowKit Go.ChangeShapes Go.WideShapes Go.Proofs.YtglfebpgdghlfaaDoorW.PrintWords Go.Proofs.YtglfebpgdghlfaaDoorW.PrintLast Go.Proofs.YtglfebpgdghlfaaDoorW.PrintMore
attribute [local go_sem] max2_int min2_int max_two min_two max_three min_three max_four min_four
theorem grown_of_below {W W1 W2 : World} {row : Option Nat} (h : Below W.heap.size W W1) (hg : W1.grownBy W2 row) : W.grownBy W2 row :=
  ⟨hg.os.trans h.os, hg.tape.trans h.tape, hg.output.trans h.output, Nat.le_trans h.size hg.size, fun i hi hr => (hg.block i (Nat.lt_of_lt_of_le hi h.size) hr).trans (h.block i hi)⟩
theorem grown_then {W W1 W2 : World} {row : Option Nat} (hg : W.grownBy W1 row) (h : Below W1.heap.size W1 W2) : W.grownBy W2 row :=
  ⟨h.os.trans hg.os, h.tape.trans hg.tape, h.output.trans hg.output, Nat.le_trans hg.size h.size, fun i hi hr => (h.block i (Nat.lt_of_lt_of_le hi hg.size)).trans (hg.block i hi hr)⟩
theorem grown_set {W W1 : World} {row : Option Nat} (hg : W.grownBy W1 row) {rb i : Nat} (h : W.heap.size ≤ rb) (u : Value) : W.grownBy (W1.setCell ⟨rb, i, none⟩ u) row :=
  ⟨hg.os, hg.tape, hg.output, by have := hg.size; simpa using this, fun k hk hr => (Below.heap_setCell W1 ⟨rb, i, none⟩ u k (by show k ≠ rb; omega)).trans (hg.block k hk hr)⟩
theorem grown_set4 {W W1 : World} {row : Option Nat} (hg : W.grownBy W1 row) {rb i0 i1 i2 i3 : Nat} (h : W.heap.size ≤ rb) (u0 u1 u2 u3 : Value) : W.grownBy ((((W1.setCell ⟨rb, i0, none⟩ u0).setCell ⟨rb, i1, none⟩ u1).setCell ⟨rb, i2, none⟩ u2).setCell ⟨rb, i3, none⟩ u3) row :=
  grown_set (grown_set (grown_set (grown_set hg h u0) h u1) h u2) h u3
theorem MapF.set4 {P : Program} {k : TypeId} {W : World} {mb n rb i0 i1 i2 i3 : Nat} {f : Lit → Option Value} (h : MapF P k W mb n f) (hne : mb ≠ rb) (u0 u1 u2 u3 : Value) : MapF P k ((((W.setCell ⟨rb, i0, none⟩ u0).setCell ⟨rb, i1, none⟩ u1).setCell ⟨rb, i2, none⟩ u2).setCell ⟨rb, i3, none⟩ u3) mb n f :=
  (((h.setCell (a := ⟨rb, i0, none⟩) hne _).setCell (a := ⟨rb, i1, none⟩) hne _).setCell (a := ⟨rb, i2, none⟩) hne _).setCell (a := ⟨rb, i3, none⟩) hne _
theorem M_lower {W : World} {B B' : Nat} {m : Node} {cs : List Value} (h : kNode.M W B (fun _ => True) m cs) (hB : B' ≤ B) : kNode.M W B' (fun _ => True) m cs := by
  obtain ⟨x1, x2, x3, rfl, h1, h2, h3⟩ := kNode_openM h
  exact kNode_mkM (Kd.R_lower h1 hB) (Kd.R_lower h2 hB) (Kd.R_lower h3 hB)
theorem M_below {W W1 : World} {B : Nat} {m : Node} {cs : List Value} (h : kNode.M W B (fun _ => True) m cs) (hb : Below W.heap.size W W1) : kNode.M W1 B (fun _ => True) m cs := by
  obtain ⟨x1, x2, x3, rfl, h1, h2, h3⟩ := kNode_openM h
  exact kNode_mkM (Kd.R_below h1 hb) (Kd.R_below h2 hb) (Kd.R_below h3 hb)
def OnePost (a : Scene) (A : Option Addr) (c b mb cnt : Nat) (base : List Int) (v : Value) (out : List Node) (w : World) (o : Opn) (r : Node × Int) (W : World) (e : Ending) (W' : World) : Prop :=
  ∃ v1 v2 v3, e = .returned (.tuple #[.agg #[.int .i64 r.1.kind, v1, v2, v3], .int .i64 r.2]) ∧ kNode.M W' W.heap.size (fun _ => True) r.1 [.int .i64 r.1.kind, v1, v2, v3] ∧
    (r.2 = 0 → ∃ cnt', cnt' ≤ cnt + 1 ∧ BRel a A c b mb cnt' (imgF (base ++ [baseOf o])) v out w W') ∧ W.grownBy W' (some mb)
section
variable {a : Scene} {A : Option Addr} {c b mb cnt : Nat} {base : List Int} {v : Value} {out : List Node} {w : World}
theorem OnePost.bad {o : Opn} {r : Node × Int} {W W' : World} (hr : r = (nodez, 21)) (hg : W.grownBy W' (some mb)) : OnePost a A c b mb cnt base v out w o r W (.returned (.tuple #[.agg #[.int .i64 0, .slice none 0 0, .slice none 0 0, .slice none 0 0], .int .i64 21])) W' := by
  subst hr
  exact ⟨_, _, _, rfl, nodez_M _ _, (fun h => absurd h (show ¬ (21 : Int) = 0 by decide)), hg⟩
end
end Go.Proofs.YtglfebpgdghlfaaDoor.L
end
section
namespace Go.Proofs.YtglfebpgdghlfaaDoor.L
open Go.RowKit Go.ChangeShapes Go.WideShapes Go.Proofs.YtglfebpgdghlfaaDoorW.PrintWords Go.Proofs.YtglfebpgdghlfaaDoorW.PrintLast Go.Proofs.YtglfebpgdghlfaaDoorW.PrintMore
attribute [local go_sem] max2_int min2_int max_two min_two max_three min_three max_four min_four
theorem blk_set4 {W : World} {q rb i0 i1 i2 i3 : Nat} {o : Obj} (h : W.heap[q]? = some o) (hne : q ≠ rb) (u0 u1 u2 u3 : Value) : ((((W.setCell ⟨rb, i0, none⟩ u0).setCell ⟨rb, i1, none⟩ u1).setCell ⟨rb, i2, none⟩ u2).setCell ⟨rb, i3, none⟩ u3).heap[q]? = some o := by
  rw [Below.heap_setCell _ ⟨rb, i3, none⟩ u3 q hne, Below.heap_setCell _ ⟨rb, i2, none⟩ u2 q hne, Below.heap_setCell _ ⟨rb, i1, none⟩ u1 q hne, Below.heap_setCell _ ⟨rb, i0, none⟩ u0 q hne]
  exact h
structure EdRel (m : Node) (v1 v2 v3 : Value) (w W : World) (mb cnt : Nat) (f : Lit → Option Value) (g : Nat) (cs : Array Value) (W1 : World) : Prop where
  node : kNode.M W1 W.heap.size (fun _ => True) m [.int .i64 m.kind, v1, v2, v3]
  box : W1.heap[g]? = some (.cells #[.int .i64 m.kind, v1, v2, v3] 26 (0, 0))
  res : W1.heap[W.heap.size + 1]? = some (.cells zeroN 26 (0, 0))
  ob : W1.heap[W.heap.size]? = some (.cells cs 61 (0, 0))
  map : MapF Tryd.prog 3 W1 mb cnt f
  grown : W.grownBy W1 (some mb)
  ge : W.heap.size + 1 < g
section
variable {m : Node} {v1 v2 v3 : Value} {w W : World} {mb cnt : Nat} {f : Lit → Option Value} {g : Nat} {cs : Array Value} {W1 W2 : World}
theorem EdRel.later (h : EdRel m v1 v2 v3 w W mb cnt f g cs W1) (hb : Below W1.heap.size W1 W2) : EdRel m v1 v2 v3 w W mb cnt f g cs W2 :=
  ⟨M_below h.node hb, (hb.block _ (blk_lt h.box)).trans h.box, (hb.block _ (blk_lt h.res)).trans h.res, (hb.block _ (blk_lt h.ob)).trans h.ob, h.map.below hb, grown_then h.grown hb, h.ge⟩
theorem EdRel.put {m2 : Node} {x1 x2 x3 : Value} (h : EdRel m v1 v2 v3 w W mb cnt f g cs W1) (hm : mb < W.heap.size) (hM : kNode.M W1 W.heap.size (fun _ => True) m2 [.int .i64 m2.kind, x1, x2, x3]) :
    EdRel m2 x1 x2 x3 w W mb cnt f g cs ((((W1.setCell ⟨g, 0, none⟩ (.int .i64 m2.kind)).setCell ⟨g, 1, none⟩ x1).setCell ⟨g, 2, none⟩ x2).setCell ⟨g, 3, none⟩ x3) := by
  have hg := h.ge
  obtain ⟨y1, y2, y3, e, r1, r2, r3⟩ := kNode_openM hM
  injection e with _ e
  injection e with e1 e
  injection e with e2 e
  injection e with e3 _
  subst e1 e2 e3
  have hb0 := h.box
  have hb1 := blk_set hb0 0 (.int .i64 m2.kind)
  have hb2 := blk_set hb1 1 x1
  have hb3 := blk_set hb2 2 x2
  refine ⟨kNode_mkM ?_ ?_ ?_, box4 h.box _ _ _ _, blk_set4 h.res (by omega) _ _ _ _, blk_set4 h.ob (by omega) _ _ _ _, MapF.set4 h.map (by omega) _ _ _ _, grown_set4 h.grown (by omega) _ _ _ _, h.ge⟩
  · exact R_type (R_type (R_type (R_type r1 hb0 (by decide) _ _) hb1 (by decide) _ _) hb2 (by decide) _ _) hb3 (by decide) _ _
  · exact R_type (R_type (R_type (R_type r2 hb0 (by decide) _ _) hb1 (by decide) _ _) hb2 (by decide) _ _) hb3 (by decide) _ _
  · exact R_type (R_type (R_type (R_type r3 hb0 (by decide) _ _) hb1 (by decide) _ _) hb2 (by decide) _ _) hb3 (by decide) _ _
theorem EdRel.kid {x3 : Value} {l : List Int} (h : EdRel m v1 v2 v3 w W mb cnt f g cs W1) (hm : mb < W.heap.size) (hR : (Kd.int .i64).R 3 W1 W.heap.size (fun _ => True) x3 l) :
    EdRel ⟨m.kind, m.ints, m.texts, l⟩ v1 v2 x3 w W mb cnt f g cs (W1.setCell ⟨g, 3, none⟩ x3) := by
  have hg := h.ge
  obtain ⟨y1, y2, y3, e, r1, r2, r3⟩ := kNode_openM h.node
  injection e with _ e
  injection e with e1 e
  injection e with e2 e
  injection e with e3 _
  subst e1 e2 e3
  have hb3 := blk_set h.box 3 x3
  refine ⟨kNode_mkM (R_type r1 h.box (by decide) _ _) (R_type r2 h.box (by decide) _ _) (R_type hR h.box (by decide) _ _), by simpa using hb3, ?_, ?_, h.map.setCell (a := ⟨g, 3, none⟩) (by show mb ≠ g; omega) _, grown_set h.grown (by omega) _, h.ge⟩
  · exact (Below.heap_setCell W1 ⟨g, 3, none⟩ x3 _ (by show W.heap.size + 1 ≠ g; omega)).trans h.res
  · exact (Below.heap_setCell W1 ⟨g, 3, none⟩ x3 _ (by show W.heap.size ≠ g; omega)).trans h.ob
end
end Go.Proofs.YtglfebpgdghlfaaDoor.L
end
section
namespace Go.Proofs.YtglfebpgdghlfaaDoor.L
open Go.RowKit Go.ChangeShapes Go.WideShapes Go.Proofs.YtglfebpgdghlfaaDoorW.PrintWords Go.Proofs.YtglfebpgdghlfaaDoorW.PrintLast Go.Proofs.YtglfebpgdghlfaaDoorW.PrintMore
attribute [local go_sem] max2_int min2_int max_two min_two max_three min_three max_four min_four
def OkN (b : Nat) (n : Node) : Prop := n.ints.length ≤ 1000000 ∧ n.texts.length ≤ 1000000 ∧ n.kids.length ≤ b ∧ ∀ x ∈ n.texts, x.size ≤ 1000000
theorem OkN.small {b : Nat} {n : Node} (h : OkN b n) (hb : b ≤ 1000000) : Small n := ⟨h.1, h.2.1, Nat.le_trans h.2.2.1 hb⟩
theorem OkN.texts {b : Nat} {n : Node} (h : OkN b n) : TextsSmall n := fun j hj => by
  have h1 : str n.texts j = n.texts[j] := by unfold str; rw [List.getD_eq_getElem?_getD, List.getElem?_eq_getElem hj]; rfl
  rw [h1]
  exact h.2.2.2 _ (List.getElem_mem hj)
end Go.Proofs.YtglfebpgdghlfaaDoor.L
end
section
namespace Go.Proofs.YtglfebpgdghlfaaDoor.L
open Go.RowKit Go.ChangeShapes Go.WideShapes Go.Proofs.YtglfebpgdghlfaaDoorW.PrintWords Go.Proofs.YtglfebpgdghlfaaDoorW.PrintLast Go.Proofs.YtglfebpgdghlfaaDoorW.PrintMore
attribute [local go_sem] max2_int min2_int max_two min_two max_three min_three max_four min_four
set_option maxRecDepth 100000 in
set_option maxHeartbeats 2000000 in
theorem gedges_any (A : Option Addr) (c : Nat) (s : Scene) (w : World) (h : kNode.C w A s.nodes.length s.nodes) :
    Calls Tryd.prog 51 #[.agg #[.slice A s.nodes.length c, .int .i64 s.root]] w fun e w' => e = .returned (.int .i64 (edgesW s.nodes)) ∧ Below w.heap.size w w' := by
  have HR := Aside0.mk h
  have b0 := h.2.1
  have HB := Aside0.mk (below_alloc (Below.refl w.heap.size w) (.cells #[.slice A s.nodes.length c, .int .i64 s.root] 39))
  have k0 := box_cell w _ rfl #[.slice A s.nodes.length c, .int .i64 s.root] 39 0 (.slice A s.nodes.length c) rfl
  have hu := Tryd.underlying39
  have hun := Tryd.underlying26
  clear h
  go_enter Tryd.func51, Tryd.ntmps51
  go_wp2
  clear k0
  go_loopw [9, 3] (fun v9 v3 W => ∃ i : Nat, i ≤ s.nodes.length ∧ v9 = .int .i64 i ∧ v3 = .int .i64 (edgesTo s.nodes i) ∧ Aside0 (Below w.heap.size w W)) (fun v9 _ _ => s.nodes.length - (intOf v9).toNat)
  case atStart => exact ⟨0, by omega, rfl, rfl, HB⟩
  case round =>
    clear HB
    obtain ⟨i, hi, rfl, rfl, HW⟩ := hrel
    by_cases hlt : i < s.nodes.length
    · obtain ⟨adn, A1, c1, A2, c2, A3, c3, rfl, x0, x1, x2, x3, hN⟩ := at_node HR.out i hlt
      replace x0 := pw_cell_below HW.out x0
      replace x1 := pw_cell_below HW.out x1
      replace x2 := pw_cell_below HW.out x2
      replace x3 := pw_cell_below HW.out x3
      have y3 := box_cell wr _ rfl #[.int .i64 (nd s.nodes i).kind, .slice A1 (nd s.nodes i).ints.length c1, .slice A2 (nd s.nodes i).texts.length c2, .slice A3 (nd s.nodes i).kids.length c3] 26 3 (.slice A3 (nd s.nodes i).kids.length c3) rfl
      have HE := Aside0.mk (show edgesTo s.nodes (i + 1) = IntKind.i64.wrap (edgesTo s.nodes i + ((nd s.nodes i).kids.length : Int)) from rfl)
      have HW2 := Aside0.mk (below_alloc HW.out (.cells #[.int .i64 (nd s.nodes i).kind, .slice A1 (nd s.nodes i).ints.length c1, .slice A2 (nd s.nodes i).texts.length c2, .slice A3 (nd s.nodes i).kids.length c3] 26))
      clear hN
      generalize edgesTo s.nodes i = a at HE ⊢
      go_wp2
      go_roundw
      case rel => exact ⟨i + 1, by omega, by go_num, by rw [HE.out, i64_w], HW2⟩
      case measure => simp [intOf]; omega
    · obtain rfl : i = s.nodes.length := by omega
      go_wp2
      go_ret
      exact ⟨rfl, HW.out⟩
noncomputable def rightB (s : Scene) : Bool := (gcheck s).1 == 0
set_option maxRecDepth 100000 in
theorem rright_any (A : Option Addr) (c : Nat) (s : Scene) (w : World) (h : kNode.C w A s.nodes.length s.nodes) (hc : s.nodes.length ≤ c) (hM : rows s.nodes ≤ 1000000) :
    Calls Tryd.prog 50 #[.agg #[.slice A s.nodes.length c, .int .i64 s.root]] w fun e w' => e = .returned (.bool (rightB s)) ∧ Below w.heap.size w w' := by
  have HR := Aside0.mk h
  have HB := Aside0.mk (below_alloc (Below.refl w.heap.size w) (.cells #[.slice A s.nodes.length c, .int .i64 s.root] 39))
  have k0 := box_cell w _ rfl #[.slice A s.nodes.length c, .int .i64 s.root] 39 0 (.slice A s.nodes.length c) rfl
  have k1 := box_cell w _ rfl #[.slice A s.nodes.length c, .int .i64 s.root] 39 1 (.int .i64 s.root) rfl
  have hu := Tryd.underlying39
  have HE := Aside0.mk (show rightB s = ((gcheck s).1 == 0) from rfl)
  clear h
  go_enter Tryd.func50, Tryd.ntmps50
  go_wp2_with fail
  refine (rchk_any A c s _ (Kd.C_below HR.out HB.out) hc hM).mono ?_
  rintro e w1 ⟨rfl, hB1⟩
  have HB1 := Aside0.mk (below_step HB.out hB1)
  clear hB1 k0 k1
  generalize (gcheck s).1 = g at HE ⊢
  generalize (gcheck s).2 = g2
  go_wp2
  go_ret
  exact ⟨ret_bool HE.out.symm, HB1.out⟩
noncomputable def whole1 (s : Scene) : Bool := (typedS oldTab s.nodes).1 == 0 && rightB s
set_option maxRecDepth 100000 in
set_option maxHeartbeats 1000000 in
theorem rwhole_1 (A : Option Addr) (c : Nat) (s : Scene) (w : World) (h : kNode.C w A s.nodes.length s.nodes) (hc : s.nodes.length ≤ c) (hS : ∀ i : Nat, i < s.nodes.length → Small (nd s.nodes i)) (hTS : ∀ i : Nat, i < s.nodes.length → TextsSmall (nd s.nodes i)) (hM : rows s.nodes ≤ 1000000) :
    Calls Tryd.prog 25 #[.agg #[.slice A s.nodes.length c, .int .i64 s.root], .int .i64 1] w fun e w' => e = .returned (.bool (whole1 s)) ∧ Below w.heap.size w w' := by
  have HR := Aside0.mk h
  have HB := Aside0.mk (below_alloc (Below.refl w.heap.size w) (.cells #[.slice A s.nodes.length c, .int .i64 s.root] 39))
  have k0 := box_cell w _ rfl #[.slice A s.nodes.length c, .int .i64 s.root] 39 0 (.slice A s.nodes.length c) rfl
  have k1 := box_cell w _ rfl #[.slice A s.nodes.length c, .int .i64 s.root] 39 1 (.int .i64 s.root) rfl
  have hu := Tryd.underlying39
  clear h
  go_enter Tryd.func25, Tryd.ntmps25
  go_wp2_with fail
  refine (rtyped_1 A c s _ (Kd.C_below HR.out HB.out) hS hTS).mono ?_
  rintro e w1 ⟨rfl, hB1⟩
  replace k0 := pw_cell_below hB1 k0
  replace k1 := pw_cell_below hB1 k1
  have HB1 := Aside0.mk (below_step HB.out hB1)
  clear hB1
  by_cases hty : (typedS oldTab s.nodes).1 = 0
  · have HE : Aside0 (whole1 s = rightB s) := ⟨by unfold whole1; rw [hty]; rfl⟩
    rw [hty]
    clear hty
    go_wp2_with fail
    refine (rright_any A c s _ (Kd.C_below HR.out HB1.out) hc hM).mono ?_
    rintro e w2 ⟨rfl, hB2⟩
    have HB2 := Aside0.mk (below_step HB1.out hB2)
    clear hB2 k0 k1
    go_wp2
    go_ret
    exact ⟨ret_bool HE.out.symm, HB2.out⟩
  · have HE : Aside0 (whole1 s = false) := ⟨by unfold whole1; rw [beq_eq_false_iff_ne.2 hty]; rfl⟩
    have d1 : ((typedS oldTab s.nodes).1 == 0) = false := beq_eq_false_iff_ne.2 hty
    clear hty k0 k1
    go_wp2
    go_ret
    exact ⟨ret_bool HE.out.symm, HB1.out⟩
end Go.Proofs.YtglfebpgdghlfaaDoor.L
end
section
namespace Go.Proofs.YtglfebpgdghlfaaDoor.L
open Go.RowKit Go.ChangeShapes Go.WideShapes Go.Proofs.YtglfebpgdghlfaaDoorW.PrintWords Go.Proofs.YtglfebpgdghlfaaDoorW.PrintLast Go.Proofs.YtglfebpgdghlfaaDoorW.PrintMore
attribute [local go_sem] max2_int min2_int max_two min_two max_three min_three max_four min_four
theorem keyS : Maps.Keyed Tryd.prog 9 := Maps.string_keyed Tryd.underlying9
theorem keyS_of {s : ByteArray} (h : s.size ≤ maxLen) : keyOf Tryd.prog 9 (.string s) = some (.string s.data.toList) := Go.WideMaps.keyOf_string_mk Tryd.underlying9 h
theorem str_inj {a b : ByteArray} (h : Lit.string a.data.toList = Lit.string b.data.toList) : a = b := by
  injection h with h
  cases a; cases b
  simp only at h
  rw [Array.toList_inj.1 h]
open Classical in
noncomputable def visS (vs : List ByteArray) : Lit → Option Value := fun q => if ∃ k ∈ vs, q = .string k.data.toList then some (.bool true) else none
theorem visS_nil : visS [] = fun _ => none := by
  funext q
  unfold visS
  rw [if_neg (fun ⟨k, hk, _⟩ => by simp at hk)]
theorem visS_put (vs : List ByteArray) (x : ByteArray) : putF (visS vs) (.string x.data.toList) (.bool true) = visS (x :: vs) := by
  funext q
  unfold putF visS
  by_cases hq : q = .string x.data.toList
  · rw [if_pos hq, if_pos ⟨x, by simp, hq⟩]
  · rw [if_neg hq]
    by_cases h : ∃ k ∈ vs, q = .string k.data.toList
    · obtain ⟨k, hk, e⟩ := h
      rw [if_pos ⟨k, hk, e⟩, if_pos ⟨k, by simp [hk], e⟩]
    · rw [if_neg h, if_neg (fun ⟨k, hk, e⟩ => by
        rcases List.mem_cons.1 hk with rfl | hk
        · exact hq e
        · exact h ⟨k, hk, e⟩)]
theorem visS_in {vs : List ByteArray} {x : ByteArray} (h : x ∈ vs) : (visS vs (.string x.data.toList)).getD (.bool false) = .bool true := by unfold visS; rw [if_pos ⟨x, h, rfl⟩]; rfl
theorem visS_out {vs : List ByteArray} {x : ByteArray} (h : ¬ x ∈ vs) : (visS vs (.string x.data.toList)).getD (.bool false) = .bool false := by
  unfold visS
  rw [if_neg (fun ⟨k, hk, e⟩ => h (by rw [str_inj e]; exact hk))]; rfl
theorem box5 {W : World} {b : Nat} {x0 x1 x2 x3 x4 : Value} {T : TypeId} (h : W.heap[b]? = some (.cells #[x0, x1, x2, x3, x4] T (0, 0))) (u0 u1 u2 u3 u4 : Value) : (((((W.setCell ⟨b, 0, none⟩ u0).setCell ⟨b, 1, none⟩ u1).setCell ⟨b, 2, none⟩ u2).setCell ⟨b, 3, none⟩ u3).setCell ⟨b, 4, none⟩ u4).heap[b]? = some (.cells #[u0, u1, u2, u3, u4] T (0, 0)) := by
  have := blk_set (blk_set (blk_set (blk_set (blk_set h 0 u0) 1 u1) 2 u2) 3 u3) 4 u4
  simpa using this
theorem below_set5 {B b : Nat} {w W : World} {u0 u1 u2 u3 u4 : Value} (h : Below B w W) (hb : B ≤ b) : Below B w (((((W.setCell ⟨b, 0, none⟩ u0).setCell ⟨b, 1, none⟩ u1).setCell ⟨b, 2, none⟩ u2).setCell ⟨b, 3, none⟩ u3).setCell ⟨b, 4, none⟩ u4) :=
  ((((h.setCell (p := ⟨b, 0, none⟩) hb u0).setCell (p := ⟨b, 1, none⟩) hb u1).setCell (p := ⟨b, 2, none⟩) hb u2).setCell (p := ⟨b, 3, none⟩) hb u3).setCell (p := ⟨b, 4, none⟩) hb u4
structure MsRel (s : Scene) (w : World) (g mb : Nat) (pl : List ByteArray) (W : World) : Prop where
  map : MapF Tryd.prog 9 W mb pl.length (visS (meas pl).1)
  m : W.heap[g]? = some (.cells #[.int .i64 0, .int .i64 (s.nodes.length : Int), .int .i64 (edgesW s.nodes), .int .i64 (depthS s), .int .i64 ((meas pl).2 : Int)] 50 (0, 0))
  res : W.heap[w.heap.size + 1]? = some (.cells #[.int .i64 0, .int .i64 0, .int .i64 0, .int .i64 0, .int .i64 0] 50 (0, 0))
  ge : w.heap.size + 1 < g
  mge : w.heap.size ≤ mb
  below : Below w.heap.size w W
theorem MsRel.later {s : Scene} {w : World} {g mb : Nat} {pl : List ByteArray} {W W1 : World} (h : MsRel s w g mb pl W) (hb : Below W.heap.size W W1) : MsRel s w g mb pl W1 :=
  ⟨h.map.below hb, (hb.block _ (blk_lt h.m)).trans h.m, (hb.block _ (blk_lt h.res)).trans h.res, h.ge, h.mge, below_step h.below hb⟩
theorem MsRel.had {s : Scene} {w : World} {g mb : Nat} {pl : List ByteArray} {W : World} {t : ByteArray} (h : MsRel s w g mb pl W) (ht : t ∈ (meas pl).1) : MsRel s w g mb (pl ++ [t]) W := by
  have e : meas (pl ++ [t]) = meas pl := by rw [meas_snoc]; unfold mstep; rw [if_pos ht]
  exact ⟨by rw [e]; exact h.map.mono (by simp), by rw [e]; exact h.m, h.res, h.ge, h.mge, h.below⟩
theorem MsRel.new {s : Scene} {w : World} {g mb : Nat} {pl : List ByteArray} {W W2 : World} {t : ByteArray} (h : MsRel s w g mb pl W) (ht : ¬ t ∈ (meas pl).1) (hM : MapF Tryd.prog 9 W2 mb (pl.length + 1) (putF (visS (meas pl).1) (.string t.data.toList) (.bool true))) (hg : W.grownBy W2 (some mb)) :
    W2.heap[g]? = some (.cells #[.int .i64 0, .int .i64 (s.nodes.length : Int), .int .i64 (edgesW s.nodes), .int .i64 (depthS s), .int .i64 ((meas pl).2 : Int)] 50 (0, 0)) ∧ MsRel s w g mb (pl ++ [t]) (W2.setCell ⟨g, 4, none⟩ (.int .i64 (((meas pl).2 : Int) + (t.size : Int)))) := by
  have e : meas (pl ++ [t]) = (t :: (meas pl).1, (meas pl).2 + t.size) := by rw [meas_snoc]; unfold mstep; rw [if_neg ht]
  have hne : g ≠ mb := fun he => h.map.not_cells (by rw [← he]; exact h.m)
  have hnr : w.heap.size + 1 ≠ mb := fun he => h.map.not_cells (by rw [← he]; exact h.res)
  have hm := blk_grown h.m hg (fun he => hne (by injection he))
  have hr := blk_grown h.res hg (fun he => hnr (by injection he))
  have hB : Below w.heap.size w W2 := h.below.grown hg h.below.size (fun q hq => by injection hq with hq; have := h.mge; omega)
  refine ⟨hm, ?_, ?_, ?_, h.ge, h.mge, ?_⟩
  · rw [e, List.length_append, List.length_singleton]
    show MapF _ _ _ _ _ (visS (t :: (meas pl).1))
    rw [← visS_put]
    exact hM.setCell (a := ⟨g, 4, none⟩) (fun he => hne he.symm) _
  · rw [e]
    have := blk_set hm 4 (.int .i64 (((meas pl).2 : Int) + (t.size : Int)))
    simpa using this
  · exact (Below.heap_setCell W2 ⟨g, 4, none⟩ _ _ (by show w.heap.size + 1 ≠ g; have := h.ge; omega)).trans hr
  · exact hB.setCell (p := ⟨g, 4, none⟩) (by show w.heap.size ≤ g; have := h.ge; omega) _
theorem meas_bound {l : List ByteArray} (h : ∀ x ∈ l, x.size ≤ 1000000) : (meas l).2 ≤ l.length * 1000000 := by
  have hi := meas_inv l
  rw [hi.sum]
  have key : ∀ v : List ByteArray, (∀ x ∈ v, x.size ≤ 1000000) → szs v ≤ v.length * 1000000 := fun v => by
    induction v with
    | nil => intro _; exact Nat.zero_le _
    | cons x v ih =>
      intro hv
      have h1 := ih (fun y hy => hv y (by simp [hy]))
      have h2 := hv x (by simp)
      unfold szs at h1 ⊢
      rw [List.map_cons, List.sum_cons, List.length_cons, Nat.succ_mul]
      omega
  have h1 := key (meas l).1 (fun x hx => h x ((hi.mem x).1 hx))
  exact Nat.le_trans h1 (Nat.mul_le_mul_right 1000000 hi.len)
theorem texs_succ (ns : List Node) (i : Nat) (hi : i < ns.length) : texs (ns.take (i + 1)) = texs (ns.take i) ++ (nd ns i).texts := by
  rw [List.take_succ_eq_append_getElem hi]
  unfold texs
  rw [List.flatMap_append]
  have : nd ns i = ns[i] := by unfold nd; rw [List.getD_eq_getElem?_getD, List.getElem?_eq_getElem hi]; rfl
  rw [this]
  simp
theorem texs_pre (ns : List Node) (i j : Nat) (hi : i < ns.length) : ∃ r, texs ns = (texs (ns.take i) ++ (nd ns i).texts.take j) ++ r := by
  refine ⟨(nd ns i).texts.drop j ++ texs (ns.drop (i + 1)), ?_⟩
  have h1 : texs ns = texs (ns.take (i + 1)) ++ texs (ns.drop (i + 1)) := by
    unfold texs
    rw [← List.flatMap_append, List.take_append_drop]
  rw [h1, texs_succ ns i hi]
  have h2 := (List.take_append_drop j (nd ns i).texts).symm
  generalize (nd ns i).texts.take j = u at h2 ⊢
  generalize (nd ns i).texts.drop j = v at h2 ⊢
  rw [h2]
  simp only [List.append_assoc]
theorem take_str (l : List ByteArray) (j : Nat) (h : j < l.length) : l.take (j + 1) = l.take j ++ [str l j] := by
  rw [List.take_succ_eq_append_getElem h]
  have : str l j = l[j] := by unfold str; rw [List.getD_eq_getElem?_getD, List.getElem?_eq_getElem h]; rfl
  rw [this]
theorem set5_far {W : World} {b k : Nat} (h : k ≠ b) (u0 u1 u2 u3 u4 : Value) : (((((W.setCell ⟨b, 0, none⟩ u0).setCell ⟨b, 1, none⟩ u1).setCell ⟨b, 2, none⟩ u2).setCell ⟨b, 3, none⟩ u3).setCell ⟨b, 4, none⟩ u4).heap[k]? = W.heap[k]? := by
  rw [Below.heap_setCell _ ⟨b, 4, none⟩ u4 k h, Below.heap_setCell _ ⟨b, 3, none⟩ u3 k h, Below.heap_setCell _ ⟨b, 2, none⟩ u2 k h, Below.heap_setCell _ ⟨b, 1, none⟩ u1 k h, Below.heap_setCell _ ⟨b, 0, none⟩ u0 k h]
structure MsHead (s : Scene) (w : World) (A : Option Addr) (c g : Nat) (W : World) : Prop where
  m : W.heap[g]? = some (.cells #[.int .i64 0, .int .i64 (s.nodes.length : Int), .int .i64 (edgesW s.nodes), .int .i64 (depthS s), .int .i64 0] 50 (0, 0))
  res : W.heap[w.heap.size + 1]? = some (.cells #[.int .i64 0, .int .i64 0, .int .i64 0, .int .i64 0, .int .i64 0] 50 (0, 0))
  box : W.cell? ⟨w.heap.size, 0, none⟩ = some (.slice A s.nodes.length c)
  ge : w.heap.size + 1 < g
  below : Below w.heap.size w W
theorem MsHead.alloc {s : Scene} {w : World} {A : Option Addr} {c : Nat} {W : World} (hres : W.heap[w.heap.size + 1]? = some (.cells #[.int .i64 0, .int .i64 0, .int .i64 0, .int .i64 0, .int .i64 0] 50 (0, 0))) (hbox : W.cell? ⟨w.heap.size, 0, none⟩ = some (.slice A s.nodes.length c)) (hB : Below w.heap.size w W) :
    MsHead s w A c W.heap.size (W.alloc (.cells #[.int .i64 0, .int .i64 (s.nodes.length : Int), .int .i64 (edgesW s.nodes), .int .i64 (depthS s), .int .i64 0] 50)) := by
  have hA := below_alloc (Below.refl W.heap.size W) (.cells #[.int .i64 0, .int .i64 (s.nodes.length : Int), .int .i64 (edgesW s.nodes), .int .i64 (depthS s), .int .i64 0] 50)
  exact ⟨by simpa using heap_alloc_new W _, (hA.block _ (blk_lt hres)).trans hres, pw_cell_below hA hbox, blk_lt hres, below_step hB hA⟩
theorem MsHead.store {s : Scene} {w : World} {A : Option Addr} {c g : Nat} {W : World} {x0 x1 x2 x3 x4 : Value} (hm : W.heap[g]? = some (.cells #[x0, x1, x2, x3, x4] 50 (0, 0))) (hg : w.heap.size + 1 < g) (hres : W.heap[w.heap.size + 1]? = some (.cells #[.int .i64 0, .int .i64 0, .int .i64 0, .int .i64 0, .int .i64 0] 50 (0, 0))) (hbox : W.cell? ⟨w.heap.size, 0, none⟩ = some (.slice A s.nodes.length c)) (hB : Below w.heap.size w W) :
    MsHead s w A c g (((((W.setCell ⟨g, 0, none⟩ (.int .i64 0)).setCell ⟨g, 1, none⟩ (.int .i64 (s.nodes.length : Int))).setCell ⟨g, 2, none⟩ (.int .i64 (edgesW s.nodes))).setCell ⟨g, 3, none⟩ (.int .i64 (depthS s))).setCell ⟨g, 4, none⟩ (.int .i64 0)) := by
  have hne : g ≠ (⟨w.heap.size, 0, none⟩ : Addr).block := by show g ≠ w.heap.size; omega
  exact ⟨box5 hm _ _ _ _ _, (set5_far (by omega) _ _ _ _ _).trans hres, far_set (far_set (far_set (far_set (far_set hbox _ _ hne _) _ _ hne _) _ _ hne _) _ _ hne _) _ _ hne _, hg, below_set5 hB (by omega)⟩
theorem MsHead.start {s : Scene} {w : World} {A : Option Addr} {c g : Nat} {W : World} (h : MsHead s w A c g W) : MsRel s w g W.heap.size [] (W.alloc (.map #[] 0)) := by
  have hA := below_alloc (Below.refl W.heap.size W) (.map #[] 0)
  refine ⟨?_, (hA.block _ (blk_lt h.m)).trans h.m, (hA.block _ (blk_lt h.res)).trans h.res, h.ge, h.below.size, below_step h.below hA⟩
  show MapF _ _ _ _ 0 (visS [])
  rw [visS_nil]
  exact MapF.made Tryd.prog 9 W
end Go.Proofs.YtglfebpgdghlfaaDoor.L
end
section
namespace Go.Proofs.YtglfebpgdghlfaaDoor.L
open Go.RowKit Go.ChangeShapes Go.WideShapes Go.Proofs.YtglfebpgdghlfaaDoorW.PrintWords Go.Proofs.YtglfebpgdghlfaaDoorW.PrintLast Go.Proofs.YtglfebpgdghlfaaDoorW.PrintMore
attribute [local go_sem] max2_int min2_int max_two min_two max_three min_three max_four min_four
set_option maxRecDepth 100000 in
set_option maxHeartbeats 16000000 in
theorem measure_any (A : Option Addr) (c : Nat) (s : Scene) (w : World) (h : kNode.C w A s.nodes.length s.nodes) (hM : rows s.nodes ≤ 400000) (hT : ∀ x ∈ texs s.nodes, x.size ≤ 1000000) (hL : (texs s.nodes).length ≤ 1000000000) :
    Calls Tryd.prog 26 #[.agg #[.slice A s.nodes.length c, .int .i64 s.root]] w fun e w' => e = .returned (.agg #[.int .i64 0, .int .i64 (s.nodes.length : Int), .int .i64 (edgesW s.nodes), .int .i64 (depthS s), .int .i64 (textSum s.nodes : Int)]) ∧ Below w.heap.size w w' := by
  have HR := Aside0.mk h
  have HM := Aside0.mk hM
  have HT := Aside0.mk hT
  have HLn := Aside0.mk hL
  have b0 := h.2.1
  have HB := Aside0.mk (below_alloc (below_alloc (Below.refl w.heap.size w) (.cells #[.slice A s.nodes.length c, .int .i64 s.root] 39)) (.cells #[.int .i64 0, .int .i64 0, .int .i64 0, .int .i64 0, .int .i64 0] 50))
  have k0 := box_cell2 w _ rfl #[.slice A s.nodes.length c, .int .i64 s.root] 39 (.cells #[.int .i64 0, .int .i64 0, .int .i64 0, .int .i64 0, .int .i64 0] 50) 0 (.slice A s.nodes.length c) rfl
  have k1 := box_cell2 w _ rfl #[.slice A s.nodes.length c, .int .i64 s.root] 39 (.cells #[.int .i64 0, .int .i64 0, .int .i64 0, .int .i64 0, .int .i64 0] 50) 1 (.int .i64 s.root) rfl
  have HX := Aside0.mk (show ((w.alloc (.cells #[.slice A s.nodes.length c, .int .i64 s.root] 39)).alloc (.cells #[.int .i64 0, .int .i64 0, .int .i64 0, .int .i64 0, .int .i64 0] 50)).heap[w.heap.size + 1]? = some (.cells #[.int .i64 0, .int .i64 0, .int .i64 0, .int .i64 0, .int .i64 0] 50 (0, 0)) from by
    have := heap_alloc_new (w.alloc (.cells #[.slice A s.nodes.length c, .int .i64 s.root] 39)) (.cells #[.int .i64 0, .int .i64 0, .int .i64 0, .int .i64 0, .int .i64 0] 50)
    simpa using this)
  have hu := Tryd.underlying39
  have hul := Tryd.underlying50
  have hun := Tryd.underlying26
  clear h hM hT hL
  go_enter Tryd.func26, Tryd.ntmps26
  go_wp2
  generalize (w.alloc (.cells #[.slice A s.nodes.length c, .int .i64 s.root] 39)).alloc (.cells #[.int .i64 0, .int .i64 0, .int .i64 0, .int .i64 0, .int .i64 0] 50) = W0 at HB HX k0 k1 ⊢
  have HK0 := Aside0.mk k0
  have hzA : (W0.alloc (.cells #[.int .i64 0, .int .i64 0, .int .i64 0, .int .i64 0, .int .i64 0] 50)).drew.heap[W0.heap.size]? = some (.cells #[.int .i64 0, .int .i64 0, .int .i64 0, .int .i64 0, .int .i64 0] 50 (0, 0)) := by
    show (W0.alloc _).heap[W0.heap.size]? = _
    simpa using heap_alloc_new W0 _
  have HZA := Aside0.mk hzA
  have HBA := Aside0.mk (below_drew (below_alloc (Below.refl W0.heap.size W0) (.cells #[.int .i64 0, .int .i64 0, .int .i64 0, .int .i64 0, .int .i64 0] 50)))
  have k0d : W0.drew.cell? ⟨w.heap.size, 0, none⟩ = some (.slice A s.nodes.length c) := k0
  have k1d : W0.drew.cell? ⟨w.heap.size, 1, none⟩ = some (.int .i64 s.root) := k1
  have k0a := pw_cell_below HBA.out k0
  have k1a := pw_cell_below HBA.out k1
  have n0 := World.new_ne W0 _ k0
  clear hzA
  go_region_held3 (fun W => W.cell? ⟨w.heap.size, 0, none⟩ = some (.slice A s.nodes.length c) ∧ W.cell? ⟨w.heap.size, 1, none⟩ = some (.int .i64 s.root))
    (first
      | (go_split_ands
         (repeat' apply And.intro)
         all_goals first
           | with_reducible assumption
           | with_reducible exact pw_cell_below hB (by assumption)
           | with_reducible exact pw_cell_below (below_alloc (Below.refl _ _) _) (by assumption)
           | with_reducible exact pw_cell_below (below_alloc (Below.refl _ _) _) (pw_cell_below hB (by assumption))
           | with_reducible exact far_set (far_set (far_set (far_set (far_set (by assumption) _ _ (by assumption) _) _ _ (by assumption) _) _ _ (by assumption) _) _ _ (by assumption) _) _ _ (by assumption) _
           | (simp [*]; done)))
    (first
      | (go_at_call 51; refine (gedges_any A c s W0.drew (Kd.C_below HR.out (below_drew HB.out))).mono ?_; rintro e w2 ⟨rfl, hB⟩; have HB2 := Aside0.mk (below_step (below_drew HB.out) hB); have HX2 := Aside0.mk ((hB.block _ (blk_lt HX.out)).trans HX.out); have HK2 := Aside0.mk (pw_cell_below hB k0d); have m0 := World.new_ne w2 _ (pw_cell_below hB k0d); have r0 := pw_cell_below hB k0d; have r1 := pw_cell_below hB k1d; have r0a := pw_cell_below (below_alloc (Below.refl w2.heap.size w2) (.cells #[.int .i64 0, .int .i64 0, .int .i64 0, .int .i64 0, .int .i64 0] 50)) r0; have r1a := pw_cell_below (below_alloc (Below.refl w2.heap.size w2) (.cells #[.int .i64 0, .int .i64 0, .int .i64 0, .int .i64 0, .int .i64 0] 50)) r1)
      | (go_at_call 51; refine (gedges_any A c s (W0.alloc (.cells #[.int .i64 0, .int .i64 0, .int .i64 0, .int .i64 0, .int .i64 0] 50)).drew (Kd.C_below HR.out (below_step HB.out HBA.out))).mono ?_; rintro e w2 ⟨rfl, hB⟩; have HB2 := Aside0.mk (below_step (below_step HB.out HBA.out) hB); have HX2 := Aside0.mk ((hB.block _ (blk_lt (show (W0.alloc (.cells #[.int .i64 0, .int .i64 0, .int .i64 0, .int .i64 0, .int .i64 0] 50)).drew.heap[_]? = _ from (HBA.out.block _ (blk_lt HX.out)).trans HX.out))).trans ((HBA.out.block _ (blk_lt HX.out)).trans HX.out)); have HZ2 := Aside0.mk ((hB.block _ (blk_lt HZA.out)).trans HZA.out); have HK2 := Aside0.mk (pw_cell_below hB k0a))
      | (go_at_call 52; refine (depth_any A c s w2 (Kd.C_below HR.out HB2.out) HM.out).mono ?_; rintro e w3 ⟨rfl, hB⟩; have HK3 := Aside0.mk (pw_cell_below hB HK2.out); have HB3 := Aside0.mk (below_step HB2.out hB); have HX3 := Aside0.mk ((hB.block _ (blk_lt HX2.out)).trans HX2.out); have HZ3 := Aside0.mk ((hB.block _ (blk_lt HZ2.out)).trans HZ2.out); have f0 := (blk_cell (HZ3.out) 0).trans rfl; have f0f := blk_frozen (HZ3.out) 0; have f1 := (blk_cell (blk_set (HZ3.out) 0 (.int .i64 0)) 1).trans rfl; have f1f := blk_frozen (blk_set (HZ3.out) 0 (.int .i64 0)) 1; have f2 := (blk_cell (blk_set (blk_set (HZ3.out) 0 (.int .i64 0)) 1 (.int .i64 (s.nodes.length : Int))) 2).trans rfl; have f2f := blk_frozen (blk_set (blk_set (HZ3.out) 0 (.int .i64 0)) 1 (.int .i64 (s.nodes.length : Int))) 2; have f3 := (blk_cell (blk_set (blk_set (blk_set (HZ3.out) 0 (.int .i64 0)) 1 (.int .i64 (s.nodes.length : Int))) 2 (.int .i64 (edgesW s.nodes))) 3).trans rfl; have f3f := blk_frozen (blk_set (blk_set (blk_set (HZ3.out) 0 (.int .i64 0)) 1 (.int .i64 (s.nodes.length : Int))) 2 (.int .i64 (edgesW s.nodes))) 3; have f4 := (blk_cell (blk_set (blk_set (blk_set (blk_set (HZ3.out) 0 (.int .i64 0)) 1 (.int .i64 (s.nodes.length : Int))) 2 (.int .i64 (edgesW s.nodes))) 3 (.int .i64 (depthS s))) 4).trans rfl; have f4f := blk_frozen (blk_set (blk_set (blk_set (blk_set (HZ3.out) 0 (.int .i64 0)) 1 (.int .i64 (s.nodes.length : Int))) 2 (.int .i64 (edgesW s.nodes))) 3 (.int .i64 (depthS s))) 4)
      | (go_at_call 52; refine (depth_any A c s w2 (Kd.C_below HR.out HB2.out) HM.out).mono ?_; rintro e w3 ⟨rfl, hB⟩; have HK3 := Aside0.mk (pw_cell_below hB HK2.out); have HB3 := Aside0.mk (below_step HB2.out hB); have HX3 := Aside0.mk ((hB.block _ (blk_lt HX2.out)).trans HX2.out))
      | (go_at_call 52; refine (depth_any A c s (w2.alloc (.cells #[.int .i64 0, .int .i64 0, .int .i64 0, .int .i64 0, .int .i64 0] 50)) (Kd.C_alloc (Kd.C_below HR.out HB2.out) _) HM.out).mono ?_; rintro e w3 ⟨rfl, hB⟩; have HK3 := Aside0.mk (pw_cell_below hB (pw_cell_below (below_alloc (Below.refl w2.heap.size w2) (.cells #[.int .i64 0, .int .i64 0, .int .i64 0, .int .i64 0, .int .i64 0] 50)) HK2.out)); have HB3 := Aside0.mk (below_step (below_step HB2.out (below_alloc (Below.refl _ _) _)) hB); have HX3 := Aside0.mk ((hB.block _ (blk_lt (show (w2.alloc (.cells #[.int .i64 0, .int .i64 0, .int .i64 0, .int .i64 0, .int .i64 0] 50)).heap[_]? = _ from ((below_alloc (Below.refl w2.heap.size w2) _).block _ (blk_lt HX2.out)).trans HX2.out))).trans (((below_alloc (Below.refl w2.heap.size w2) _).block _ (blk_lt HX2.out)).trans HX2.out)); have HZ3 := Aside0.mk ((hB.block _ (blk_lt (heap_alloc_new w2 (.cells #[.int .i64 0, .int .i64 0, .int .i64 0, .int .i64 0, .int .i64 0] 50)))).trans (heap_alloc_new w2 (.cells #[.int .i64 0, .int .i64 0, .int .i64 0, .int .i64 0, .int .i64 0] 50))); have f0 := (blk_cell (HZ3.out) 0).trans rfl; have f0f := blk_frozen (HZ3.out) 0; have f1 := (blk_cell (blk_set (HZ3.out) 0 (.int .i64 0)) 1).trans rfl; have f1f := blk_frozen (blk_set (HZ3.out) 0 (.int .i64 0)) 1; have f2 := (blk_cell (blk_set (blk_set (HZ3.out) 0 (.int .i64 0)) 1 (.int .i64 (s.nodes.length : Int))) 2).trans rfl; have f2f := blk_frozen (blk_set (blk_set (HZ3.out) 0 (.int .i64 0)) 1 (.int .i64 (s.nodes.length : Int))) 2; have f3 := (blk_cell (blk_set (blk_set (blk_set (HZ3.out) 0 (.int .i64 0)) 1 (.int .i64 (s.nodes.length : Int))) 2 (.int .i64 (edgesW s.nodes))) 3).trans rfl; have f3f := blk_frozen (blk_set (blk_set (blk_set (HZ3.out) 0 (.int .i64 0)) 1 (.int .i64 (s.nodes.length : Int))) 2 (.int .i64 (edgesW s.nodes))) 3; have f4 := (blk_cell (blk_set (blk_set (blk_set (blk_set (HZ3.out) 0 (.int .i64 0)) 1 (.int .i64 (s.nodes.length : Int))) 2 (.int .i64 (edgesW s.nodes))) 3 (.int .i64 (depthS s))) 4).trans rfl; have f4f := blk_frozen (blk_set (blk_set (blk_set (blk_set (HZ3.out) 0 (.int .i64 0)) 1 (.int .i64 (s.nodes.length : Int))) 2 (.int .i64 (edgesW s.nodes))) 3 (.int .i64 (depthS s))) 4))
  have HH := Aside0.mk (MsHead.alloc HX3.out HK3.out HB3.out)
  clear hB r0 r1 r0a r1a m0
  generalize w3.alloc (.cells #[.int .i64 0, .int .i64 (s.nodes.length : Int), .int .i64 (edgesW s.nodes), .int .i64 (depthS s), .int .i64 0] 50) = W5 at HH ⊢
  generalize w3.heap.size = g at HH ⊢
  rotate_left
  have HH := Aside0.mk (MsHead.store HZ3.out (blk_lt HX2.out) HX3.out HK3.out HB3.out)
  clear hB r0 r1 r0a r1a m0 f0 f0f f1 f1f f2 f2f f3 f3f f4 f4f
  generalize (((((w3.setCell ⟨w2.heap.size, 0, none⟩ (.int .i64 0)).setCell ⟨w2.heap.size, 1, none⟩ (.int .i64 (s.nodes.length : Int))).setCell ⟨w2.heap.size, 2, none⟩ (.int .i64 (edgesW s.nodes))).setCell ⟨w2.heap.size, 3, none⟩ (.int .i64 (depthS s))).setCell ⟨w2.heap.size, 4, none⟩ (.int .i64 0)) = W5 at HH ⊢
  generalize w2.heap.size = g at HH ⊢
  rotate_left
  have HH := Aside0.mk (MsHead.store HZ3.out (blk_lt HX.out) HX3.out HK3.out HB3.out)
  clear hB f0 f0f f1 f1f f2 f2f f3 f3f f4 f4f
  generalize (((((w3.setCell ⟨W0.heap.size, 0, none⟩ (.int .i64 0)).setCell ⟨W0.heap.size, 1, none⟩ (.int .i64 (s.nodes.length : Int))).setCell ⟨W0.heap.size, 2, none⟩ (.int .i64 (edgesW s.nodes))).setCell ⟨W0.heap.size, 3, none⟩ (.int .i64 (depthS s))).setCell ⟨W0.heap.size, 4, none⟩ (.int .i64 0)) = W5 at HH ⊢
  generalize hgg : W0.heap.size = g at HH ⊢
  clear hgg
  all_goals
    clear k0 k1 k0d k1d k0a k1a n0 HBA HZA HK0
    have k5 := HH.out.box
    have k5a := pw_cell_below (below_alloc (Below.refl W5.heap.size W5) (.map #[] 0)) k5
    have HI := Aside0.mk HH.out.start
    have hmm := @run_makeMap Tryd.prog
    clear HH
    go_wp2
    clear k5 k5a hmm
    generalize W5.alloc (.map #[] 0) = W6 at HI ⊢
    generalize W5.heap.size = mb at HI ⊢
    go_loopw [21] (fun v21 W => ∃ i : Nat, i ≤ s.nodes.length ∧ v21 = .int .i64 i ∧ Aside0 (MsRel s w g mb (texs (s.nodes.take i)) W)) (fun v21 _ => s.nodes.length - (intOf v21).toNat)
    case atStart => exact ⟨0, by omega, rfl, HI⟩
    case round =>
      clear HI
      obtain ⟨i, hi, rfl, HI⟩ := hrel
      by_cases hlt : i < s.nodes.length
      · obtain ⟨adn, A1, c1, A2, c2, A3, c3, rfl, x0, x1, x2, x3, hN⟩ := at_node HR.out i hlt
        replace x0 := pw_cell_below HI.out.below x0
        replace x1 := pw_cell_below HI.out.below x1
        replace x2 := pw_cell_below HI.out.below x2
        replace x3 := pw_cell_below HI.out.below x3
        have HN := Aside0.mk hN
        have y2 := box_cell wr _ rfl #[.int .i64 (nd s.nodes i).kind, .slice A1 (nd s.nodes i).ints.length c1, .slice A2 (nd s.nodes i).texts.length c2, .slice A3 (nd s.nodes i).kids.length c3] 26 2 (.slice A2 (nd s.nodes i).texts.length c2) rfl
        have HJ := Aside0.mk (HI.out.later (below_alloc (Below.refl _ _) (.cells #[.int .i64 (nd s.nodes i).kind, .slice A1 (nd s.nodes i).ints.length c1, .slice A2 (nd s.nodes i).texts.length c2, .slice A3 (nd s.nodes i).kids.length c3] 26)))
        have htl := hN.t.2.1
        clear hN
        go_wp2
        clear x0 x1 x2 x3 y2
        go_loopw [28] (fun v28 W => ∃ j : Nat, j ≤ (nd s.nodes i).texts.length ∧ v28 = .int .i64 j ∧ Aside0 (MsRel s w g mb (texs (s.nodes.take i) ++ (nd s.nodes i).texts.take j) W)) (fun v28 _ => (nd s.nodes i).texts.length - (intOf v28).toNat)
        case atStart => exact ⟨0, by omega, rfl, by rw [List.take_zero, List.append_nil]; exact HJ⟩
        case round =>
          clear HJ
          obtain ⟨j, hj, rfl, HJ⟩ := hrel
          obtain ⟨pr, hpr⟩ := texs_pre s.nodes i j hlt
          by_cases hjl : j < (nd s.nodes i).texts.length
          · obtain ⟨adt, rfl, z0⟩ := at_str (HN.out.below HJ.out.below).t j hjl
            have hsz : (str (nd s.nodes i).texts j).size ≤ 1000000 := HT.out _ (mem_texs.2 ⟨i, hlt, by
              have : str (nd s.nodes i).texts j = (nd s.nodes i).texts[j] := by unfold str; rw [List.getD_eq_getElem?_getD, List.getElem?_eq_getElem hjl]; rfl
              rw [this]; exact List.getElem_mem hjl⟩)
            have HTk := Aside0.mk (show texs (s.nodes.take i) ++ (nd s.nodes i).texts.take (j + 1) = (texs (s.nodes.take i) ++ (nd s.nodes i).texts.take j) ++ [str (nd s.nodes i).texts j] from by rw [take_str _ _ hjl, List.append_assoc])
            have hplen : (texs (s.nodes.take i) ++ (nd s.nodes i).texts.take j).length ≤ 1000000000 := by
              have h1 := HLn.out
              rw [hpr, List.length_append] at h1
              omega
            have hsum := meas_bound (l := texs (s.nodes.take i) ++ (nd s.nodes i).texts.take j) (fun x hx => HT.out x (by rw [hpr]; exact List.mem_append_left _ hx))
            clear hpr
            obtain ⟨t, ht⟩ : ∃ t, t = str (nd s.nodes i).texts j := ⟨_, rfl⟩
            rw [← ht] at z0 hsz HTk
            have HKy := Aside0.mk (keyS_of (s := t) (by unfold maxLen; omega))
            generalize texs (s.nodes.take i) ++ (nd s.nodes i).texts.take j = pl at HJ HTk hplen hsum
            have hsum2 : (meas pl).2 ≤ 1000000000000000 := by omega
            clear ht hsum
            by_cases hin : t ∈ (meas pl).1
            · have HV := Aside0.mk (visS_in hin)
              have HNx := Aside0.mk (HJ.out.had hin)
              rw [← HTk.out] at HNx
              clear hin
              go_wp2_with (at_lookup; refine wpList_lookup_F _ rfl (.tmp 32) (.tmp 33) 82 rfl 9 4 keyS Tryd.underlying82 (zeroB _) mb pl.length (visS (meas pl).1) rfl HJ.out.map (.string t) (.string t.data.toList) rfl HKy.out (.bool true) HV.out ?_)
              go_roundw
              case rel => exact ⟨j + 1, by omega, by go_num, HNx⟩
              case measure => simp [intOf]; omega
            · have HV := Aside0.mk (visS_out hin)
              have HIn := Aside0.mk hin
              have hw : IntKind.i64.wrap (((meas pl).2 : Int) + (t.size : Int)) = ((meas pl).2 : Int) + (t.size : Int) := wrap_i (by omega) (by omega)
              have hpl : pl.length < maxLen := by unfold maxLen; omega
              clear hin
              go_wp2_with (first
                | (at_lookup; refine wpList_lookup_F _ rfl (.tmp 32) (.tmp 33) 82 rfl 9 4 keyS Tryd.underlying82 (zeroB _) mb pl.length (visS (meas pl).1) rfl HJ.out.map (.string t) (.string t.data.toList) rfl HKy.out (.bool false) HV.out ?_)
                | (at_mapUpdate; refine wpList_update_F _ rfl (.tmp 36) (.tmp 37) _ 82 rfl 9 4 keyS Tryd.underlying82 mb pl.length (visS (meas pl).1) rfl HJ.out.map hpl (.string t) (.bool true) (.string t.data.toList) rfl rfl HKy.out ?_; intro w2' hM2 hg2; obtain ⟨hm2, hN2⟩ := HJ.out.new HIn.out hM2 hg2; have HN2 := Aside0.mk hN2; have q4 := (blk_cell hm2 4).trans rfl; have q4f := blk_frozen hm2 4; clear hM2 hg2 hm2 hN2))
              rw [← HTk.out] at HN2
              go_roundw
              case rel => exact ⟨j + 1, by omega, by go_num, HN2⟩
              case measure => simp [intOf]; omega
          · obtain rfl : j = (nd s.nodes i).texts.length := by omega
            have HNx := Aside0.mk (show MsRel s w g mb (texs (s.nodes.take (i + 1))) wr from by
              have h := HJ.out
              rw [List.take_length, ← texs_succ s.nodes i hlt] at h
              exact h)
            clear hpr
            go_wp2
            go_roundw
            case rel => exact ⟨i + 1, by omega, by go_num, HNx⟩
            case measure => simp [intOf]; omega
      · obtain rfl : i = s.nodes.length := by omega
        rw [List.take_length] at HI
        have q0 := (blk_cell HI.out.m 0).trans rfl
        have q1 := (blk_cell HI.out.m 1).trans rfl
        have q2 := (blk_cell HI.out.m 2).trans rfl
        have q3 := (blk_cell HI.out.m 3).trans rfl
        have q4 := (blk_cell HI.out.m 4).trans rfl
        have l0 := (blk_cell (HI.out.res) 0).trans rfl
        have l0f := blk_frozen (HI.out.res) 0
        have l1 := (blk_cell (blk_set (HI.out.res) 0 (.int .i64 0)) 1).trans rfl
        have l1f := blk_frozen (blk_set (HI.out.res) 0 (.int .i64 0)) 1
        have l2 := (blk_cell (blk_set (blk_set (HI.out.res) 0 (.int .i64 0)) 1 (.int .i64 (s.nodes.length : Int))) 2).trans rfl
        have l2f := blk_frozen (blk_set (blk_set (HI.out.res) 0 (.int .i64 0)) 1 (.int .i64 (s.nodes.length : Int))) 2
        have l3 := (blk_cell (blk_set (blk_set (blk_set (HI.out.res) 0 (.int .i64 0)) 1 (.int .i64 (s.nodes.length : Int))) 2 (.int .i64 (edgesW s.nodes))) 3).trans rfl
        have l3f := blk_frozen (blk_set (blk_set (blk_set (HI.out.res) 0 (.int .i64 0)) 1 (.int .i64 (s.nodes.length : Int))) 2 (.int .i64 (edgesW s.nodes))) 3
        have l4 := (blk_cell (blk_set (blk_set (blk_set (blk_set (HI.out.res) 0 (.int .i64 0)) 1 (.int .i64 (s.nodes.length : Int))) 2 (.int .i64 (edgesW s.nodes))) 3 (.int .i64 (depthS s))) 4).trans rfl
        have l4f := blk_frozen (blk_set (blk_set (blk_set (blk_set (HI.out.res) 0 (.int .i64 0)) 1 (.int .i64 (s.nodes.length : Int))) 2 (.int .i64 (edgesW s.nodes))) 3 (.int .i64 (depthS s))) 4
        go_wp2
        have h2 := And.intro ((blk_cell (box5 HI.out.res (.int .i64 0) (.int .i64 (s.nodes.length : Int)) (.int .i64 (edgesW s.nodes)) (.int .i64 (depthS s)) (.int .i64 ((meas (texs s.nodes)).2 : Int))) 0).trans rfl) (And.intro ((blk_cell (box5 HI.out.res (.int .i64 0) (.int .i64 (s.nodes.length : Int)) (.int .i64 (edgesW s.nodes)) (.int .i64 (depthS s)) (.int .i64 ((meas (texs s.nodes)).2 : Int))) 1).trans rfl) (And.intro ((blk_cell (box5 HI.out.res (.int .i64 0) (.int .i64 (s.nodes.length : Int)) (.int .i64 (edgesW s.nodes)) (.int .i64 (depthS s)) (.int .i64 ((meas (texs s.nodes)).2 : Int))) 2).trans rfl) (And.intro ((blk_cell (box5 HI.out.res (.int .i64 0) (.int .i64 (s.nodes.length : Int)) (.int .i64 (edgesW s.nodes)) (.int .i64 (depthS s)) (.int .i64 ((meas (texs s.nodes)).2 : Int))) 3).trans rfl) ((blk_cell (box5 HI.out.res (.int .i64 0) (.int .i64 (s.nodes.length : Int)) (.int .i64 (edgesW s.nodes)) (.int .i64 (depthS s)) (.int .i64 ((meas (texs s.nodes)).2 : Int))) 4).trans rfl))))
        exact bodyPost_ret (v := .agg #[.int .i64 0, .int .i64 (s.nodes.length : Int), .int .i64 (edgesW s.nodes), .int .i64 (depthS s), .int .i64 ((meas (texs s.nodes)).2 : Int)]) (by simp [results, Tryd.results26, go_sem, h2]) rfl ⟨rfl, below_set5 HI.out.below (by omega)⟩
end Go.Proofs.YtglfebpgdghlfaaDoor.L
end
section
namespace Go.Proofs.YtglfebpgdghlfaaDoor.L
open Go.RowKit Go.ChangeShapes Go.WideShapes Go.Proofs.YtglfebpgdghlfaaDoorW.PrintWords Go.Proofs.YtglfebpgdghlfaaDoorW.PrintLast Go.Proofs.YtglfebpgdghlfaaDoorW.PrintMore
attribute [local go_sem] max2_int min2_int max_two min_two max_three min_three max_four min_four
structure Lim where
  b : Int
  n : Int
  e : Int
  d : Int
  t : Int
abbrev limV (l : Lim) : Array Value := #[.int .i64 l.b, .int .i64 l.n, .int .i64 l.e, .int .i64 l.d, .int .i64 l.t]
structure Lim.Le (x y : Lim) : Prop where
  b : x.b ≤ y.b
  n : x.n ≤ y.n
  e : x.e ≤ y.e
  d : x.d ≤ y.d
  t : x.t ≤ y.t
abbrev eachV (x y : Lim) : Array Value := #[.int .i64 x.b, .int .i64 y.b, .int .i64 x.n, .int .i64 y.n, .int .i64 x.e, .int .i64 y.e, .int .i64 x.d, .int .i64 y.d, .int .i64 x.t, .int .i64 y.t]
set_option maxRecDepth 100000 in
set_option maxHeartbeats 2000000 in
theorem each_any (x y : Lim) (w : World) : Calls Tryd.prog 99 #[.agg (limV x), .agg (limV y)] w fun e w' => e = .returned (.agg (eachV x y)) ∧ Below w.heap.size w w' := by
  have HB := Aside0.mk (below_alloc (below_alloc (below_alloc (Below.refl w.heap.size w) (.cells (limV x) 50)) (.cells (limV y) 50)) (.cells (eachV x y) 131))
  have hu := Tryd.underlying50
  go_enter Tryd.func99, Tryd.ntmps99
  go_wp2
  exact bodyPost_ret (v := .agg (eachV x y)) (by simp [results, Tryd.results99, go_sem]) rfl ⟨rfl, HB.out⟩
theorem rx0 (x y : Lim) (W : World) : (Instr.index 131 (.agg (eachV x y)) (.int .i64 ((0 : Nat) : Int))).run Tryd.prog W = .ok (.agg #[.int .i64 x.b, .int .i64 y.b]) W := by simp [Instr.index, go_sem]
theorem rx1 (x y : Lim) (W : World) : (Instr.index 131 (.agg (eachV x y)) (.int .i64 ((1 : Nat) : Int))).run Tryd.prog W = .ok (.agg #[.int .i64 x.n, .int .i64 y.n]) W := by simp [Instr.index, go_sem]
theorem rx2 (x y : Lim) (W : World) : (Instr.index 131 (.agg (eachV x y)) (.int .i64 ((2 : Nat) : Int))).run Tryd.prog W = .ok (.agg #[.int .i64 x.e, .int .i64 y.e]) W := by simp [Instr.index, go_sem]
theorem rx3 (x y : Lim) (W : World) : (Instr.index 131 (.agg (eachV x y)) (.int .i64 ((3 : Nat) : Int))).run Tryd.prog W = .ok (.agg #[.int .i64 x.d, .int .i64 y.d]) W := by simp [Instr.index, go_sem]
theorem rx4 (x y : Lim) (W : World) : (Instr.index 131 (.agg (eachV x y)) (.int .i64 ((4 : Nat) : Int))).run Tryd.prog W = .ok (.agg #[.int .i64 x.t, .int .i64 y.t]) W := by simp [Instr.index, go_sem]
theorem wpList_index {P : Program} {ops : Array Oper} {rest : List Oper} {o : Oper} {a : Act} {Q : Exit → Act → World → Prop} {w : World} (hg : o.guard = none) (m x : Operand) (t : TypeId) (hop : o.op = Op.index t m x) (mv xv u : Value) (hm : a.eval m = mv) (hx : a.eval x = xv)
    (hrun : (Instr.index t mv xv).run P w = .ok u w) (hK : wpList P ops Q rest (a.put o.dst u) w) : wpList P ops Q (o :: rest) a w := by
  refine wpList_plain hg fun K' hK' => ?_
  unfold Oper.wp
  simp [execOp, hop, hm, hx, hrun, Result.andThen]
  exact hK' _ _ hK
set_option maxRecDepth 100000 in
set_option maxHeartbeats 4000000 in
theorem within_ok (x y : Lim) (h : Lim.Le x y) (w : World) : Calls Tryd.prog 63 #[.agg (limV x), .agg (limV y)] w fun e w' => e = .returned (.bool true) ∧ Below w.heap.size w w' := by
  have HB := Aside0.mk (below_alloc (below_alloc (Below.refl w.heap.size w) (.cells (limV x) 50)) (.cells (limV y) 50))
  have hu := Tryd.underlying50
  have HH := Aside0.mk h
  clear h
  go_enter Tryd.func63, Tryd.ntmps63
  go_wp2_with fail
  refine (each_any x y _).mono ?_
  rintro e w1 ⟨rfl, hB1⟩
  have HB1 := Aside0.mk (below_step HB.out hB1)
  clear hB1
  go_wp2
  go_loopw [10] (fun v10 W => ∃ k : Nat, k ≤ 5 ∧ v10 = .int .i64 k ∧ Aside0 (Below w.heap.size w W)) (fun v10 _ => 5 - (intOf v10).toNat)
  case atStart => exact ⟨0, by omega, rfl, HB1⟩
  case round =>
    clear HB1
    obtain ⟨k, hk, rfl, HW⟩ := hrel
    have d0 : decide (y.b < x.b) = false := decide_eq_false (by have := HH.out.b; omega)
    have d1 : decide (y.n < x.n) = false := decide_eq_false (by have := HH.out.n; omega)
    have d2 : decide (y.e < x.e) = false := decide_eq_false (by have := HH.out.e; omega)
    have d3 : decide (y.d < x.d) = false := decide_eq_false (by have := HH.out.d; omega)
    have d4 : decide (y.t < x.t) = false := decide_eq_false (by have := HH.out.t; omega)
    rcases (show k = 0 ∨ k = 1 ∨ k = 2 ∨ k = 3 ∨ k = 4 ∨ k = 5 from by omega) with rfl | rfl | rfl | rfl | rfl | rfl
    case inr.inr.inr.inr.inr =>
      go_wp2
      go_ret
      exact ⟨rfl, HW.out⟩
    case inl =>
      have HW2 := Aside0.mk (fun o : Obj => below_alloc HW.out o)
      go_wp2_with (refine wpList_index rfl (.tmp 9) (.tmp 10) 131 rfl _ _ _ rfl rfl (rx0 x y _) ?_)
      go_roundw
      case rel => exact ⟨_, by decide, rfl, ⟨HW2.out _⟩⟩
      case measure => simp [intOf]
    case inr.inl =>
      have HW2 := Aside0.mk (fun o : Obj => below_alloc HW.out o)
      go_wp2_with (refine wpList_index rfl (.tmp 9) (.tmp 10) 131 rfl _ _ _ rfl rfl (rx1 x y _) ?_)
      go_roundw
      case rel => exact ⟨_, by decide, rfl, ⟨HW2.out _⟩⟩
      case measure => simp [intOf]
    case inr.inr.inl =>
      have HW2 := Aside0.mk (fun o : Obj => below_alloc HW.out o)
      go_wp2_with (refine wpList_index rfl (.tmp 9) (.tmp 10) 131 rfl _ _ _ rfl rfl (rx2 x y _) ?_)
      go_roundw
      case rel => exact ⟨_, by decide, rfl, ⟨HW2.out _⟩⟩
      case measure => simp [intOf]
    case inr.inr.inr.inl =>
      have HW2 := Aside0.mk (fun o : Obj => below_alloc HW.out o)
      go_wp2_with (refine wpList_index rfl (.tmp 9) (.tmp 10) 131 rfl _ _ _ rfl rfl (rx3 x y _) ?_)
      go_roundw
      case rel => exact ⟨_, by decide, rfl, ⟨HW2.out _⟩⟩
      case measure => simp [intOf]
    case inr.inr.inr.inr.inl =>
      have HW2 := Aside0.mk (fun o : Obj => below_alloc HW.out o)
      go_wp2_with (refine wpList_index rfl (.tmp 9) (.tmp 10) 131 rfl _ _ _ rfl rfl (rx4 x y _) ?_)
      go_roundw
      case rel => exact ⟨_, by decide, rfl, ⟨HW2.out _⟩⟩
      case measure => simp [intOf]
def wideL : Lim := ⟨16777216, 16777216, 16777216, 16777216, 16777216⟩
def zeroL : Lim := ⟨0, 0, 0, 0, 0⟩
set_option maxRecDepth 100000 in
set_option maxHeartbeats 2000000 in
theorem lright_ok (x : Lim) (h1 : Lim.Le x wideL) (h0 : Lim.Le zeroL x) (w : World) : Calls Tryd.prog 62 #[.agg (limV x)] w fun e w' => e = .returned (.bool true) ∧ Below w.heap.size w w' := by
  have HB := Aside0.mk (below_alloc (Below.refl w.heap.size w) (.cells (limV x) 50))
  have hu := Tryd.underlying50
  have H1 := Aside0.mk h1
  have H0 := Aside0.mk h0
  have k0 := box_cell w _ rfl (limV x) 50 0 _ rfl
  have k1 := box_cell w _ rfl (limV x) 50 1 _ rfl
  have k2 := box_cell w _ rfl (limV x) 50 2 _ rfl
  have k3 := box_cell w _ rfl (limV x) 50 3 _ rfl
  have k4 := box_cell w _ rfl (limV x) 50 4 _ rfl
  clear h0 h1
  go_enter Tryd.func62, Tryd.ntmps62
  go_wp2_with fail
  refine (within_ok x wideL H1.out _).mono ?_
  rintro e w1 ⟨rfl, hB1⟩
  have HB1 := Aside0.mk (below_step HB.out hB1)
  replace k0 := pw_cell_below hB1 k0
  replace k1 := pw_cell_below hB1 k1
  replace k2 := pw_cell_below hB1 k2
  replace k3 := pw_cell_below hB1 k3
  replace k4 := pw_cell_below hB1 k4
  clear hB1
  go_wp2_with fail
  refine (within_ok zeroL x H0.out _).mono ?_
  rintro e w2 ⟨rfl, hB2⟩
  have HB2 := Aside0.mk (below_step HB1.out hB2)
  clear hB2 k0 k1 k2 k3 k4
  go_wp2
  go_ret
  exact ⟨rfl, HB2.out⟩
end Go.Proofs.YtglfebpgdghlfaaDoor.L
end
section
namespace Go.Proofs.YtglfebpgdghlfaaDoor.L
open Go.RowKit Go.ChangeShapes Go.WideShapes Go.Proofs.YtglfebpgdghlfaaDoorW.PrintWords Go.Proofs.YtglfebpgdghlfaaDoorW.PrintLast Go.Proofs.YtglfebpgdghlfaaDoorW.PrintMore
attribute [local go_sem] max2_int min2_int max_two min_two max_three min_three max_four min_four
def Has (b : Nat) (cs : Array Value) (W : World) : Prop := ∃ t, W.heap[b]? = some (.cells cs t (0, 0))
theorem Lives.has {b : Nat} {W : World} (h : Lives 5 b W) (u0 u1 u2 u3 u4 : Value) : Has b #[u0, u1, u2, u3, u4] (((((W.setCell ⟨b, 0, none⟩ u0).setCell ⟨b, 1, none⟩ u1).setCell ⟨b, 2, none⟩ u2).setCell ⟨b, 3, none⟩ u3).setCell ⟨b, 4, none⟩ u4) := by
  obtain ⟨cs, hk, t, h⟩ := h
  obtain ⟨x0, x1, x2, x3, x4, rfl⟩ : ∃ x0 x1 x2 x3 x4, cs = #[x0, x1, x2, x3, x4] := by
    obtain ⟨l⟩ := cs
    match l, hk with
    | [x0, x1, x2, x3, x4], _ => exact ⟨_, _, _, _, _, rfl⟩
  exact ⟨t, box5 h u0 u1 u2 u3 u4⟩
theorem Has.lt {b : Nat} {cs : Array Value} {W : World} (h : Has b cs W) : b < W.heap.size := by obtain ⟨t, h⟩ := h; exact blk_lt h
theorem Has.below {b : Nat} {cs : Array Value} {W W1 : World} (hb : Below W.heap.size W W1) (h : Has b cs W) : Has b cs W1 := by
  obtain ⟨t, h⟩ := h
  exact ⟨t, (hb.block b (blk_lt h)).trans h⟩
theorem Has.alloc {b : Nat} {cs : Array Value} {W : World} (o : Obj) (h : Has b cs W) : Has b cs (W.alloc o) := h.below (below_alloc (Below.refl _ _) o)
theorem Has.far {b g i : Nat} {cs : Array Value} {W : World} {u : Value} (hne : b ≠ g) (h : Has b cs W) : Has b cs (W.setCell ⟨g, i, none⟩ u) := by
  obtain ⟨t, h⟩ := h
  exact ⟨t, (Below.heap_setCell W ⟨g, i, none⟩ u b hne).trans h⟩
theorem Has.cell {b : Nat} {cs : Array Value} {W : World} (h : Has b cs W) (i : Nat) {v : Value} (hv : cs[i]? = some v) : W.cell? ⟨b, i, none⟩ = some v := by
  obtain ⟨t, h⟩ := h
  exact (blk_cell h i).trans hv
theorem depthS_le {s : Scene} (hr : Right s) : 0 ≤ depthS s ∧ depthS s ≤ s.nodes.length + 1 := by
  unfold depthS
  rw [if_pos (gcheck_right.2 hr)]
  have := H_bound hr.dag (a := s.root) ⟨hr.r0, hr.r1⟩
  omega
end Go.Proofs.YtglfebpgdghlfaaDoor.L
end
section
namespace Go.Proofs.YtglfebpgdghlfaaDoor.L
open Go.RowKit Go.ChangeShapes Go.WideShapes Go.Proofs.YtglfebpgdghlfaaDoorW.PrintWords Go.Proofs.YtglfebpgdghlfaaDoorW.PrintLast Go.Proofs.YtglfebpgdghlfaaDoorW.PrintMore
attribute [local go_sem] max2_int min2_int max_two min_two max_three min_three max_four min_four
noncomputable def msL (s : Scene) : Lim := ⟨0, (s.nodes.length : Int), edgesW s.nodes, depthS s, (textSum s.nodes : Int)⟩
theorem Lim.le_refl (x : Lim) : Lim.Le x x := ⟨Int.le_refl _, Int.le_refl _, Int.le_refl _, Int.le_refl _, Int.le_refl _⟩
set_option maxRecDepth 100000 in
set_option maxHeartbeats 8000000 in
theorem valid_ok (A : Option Addr) (c : Nat) (s : Scene) (w : World) (h : kNode.C w A s.nodes.length s.nodes) (hT : Tabs w) (hTS : ∀ i : Nat, i < s.nodes.length → TextsSmall (nd s.nodes i)) (hM : rows s.nodes ≤ 400000) (hx : ∀ x ∈ texs s.nodes, x.size ≤ 1000000) (hl : (texs s.nodes).length ≤ 1000000000)
    (hty : (typedS newTab s.nodes).1 = 0) (hr : Right s) (h1 : Lim.Le (msL s) wideL) (h0 : Lim.Le zeroL (msL s)) :
    Calls Tryd.prog 34 #[.agg #[.slice A s.nodes.length c, .int .i64 s.root], .agg (limV (msL s))] w fun e w' => e = .returned (.tuple #[.int .i64 0, .int .i64 0]) ∧ Below w.heap.size w w' := by
  have HR := Aside0.mk h
  have HT := Aside0.mk hT
  have HTS := Aside0.mk hTS
  have HM := Aside0.mk hM
  have HX := Aside0.mk hx
  have HL := Aside0.mk hl
  have HTy := Aside0.mk hty
  have HRt := Aside0.mk hr
  have H1 := Aside0.mk h1
  have H0 := Aside0.mk h0
  have HMs := Aside0.mk (show (.agg #[.int .i64 0, .int .i64 (s.nodes.length : Int), .int .i64 (edgesW s.nodes), .int .i64 (depthS s), .int .i64 (textSum s.nodes : Int)] : Value) = .agg (limV (msL s)) from rfl)
  have HB := Aside0.mk (below_alloc (below_alloc (Below.refl w.heap.size w) (.cells #[.slice A s.nodes.length c, .int .i64 s.root] 39)) (.cells (limV (msL s)) 50))
  have k0 := box_cell2 w _ rfl #[.slice A s.nodes.length c, .int .i64 s.root] 39 (.cells (limV (msL s)) 50) 0 (.slice A s.nodes.length c) rfl
  have k1 := box_cell2 w _ rfl #[.slice A s.nodes.length c, .int .i64 s.root] 39 (.cells (limV (msL s)) 50) 1 (.int .i64 s.root) rfl
  have hu := Tryd.underlying39
  have hul := Tryd.underlying50
  clear h hT hTS hM hx hl hty hr h1 h0
  generalize msL s = m at H1 H0 HMs HB k0 k1 ⊢
  have l0 := box_cell (w.alloc (.cells #[.slice A s.nodes.length c, .int .i64 s.root] 39)) (w.heap.size + 1) (by simp) (limV m) 50 0 (.int .i64 m.b) rfl
  have l1 := box_cell (w.alloc (.cells #[.slice A s.nodes.length c, .int .i64 s.root] 39)) (w.heap.size + 1) (by simp) (limV m) 50 1 (.int .i64 m.n) rfl
  have l2 := box_cell (w.alloc (.cells #[.slice A s.nodes.length c, .int .i64 s.root] 39)) (w.heap.size + 1) (by simp) (limV m) 50 2 (.int .i64 m.e) rfl
  have l3 := box_cell (w.alloc (.cells #[.slice A s.nodes.length c, .int .i64 s.root] 39)) (w.heap.size + 1) (by simp) (limV m) 50 3 (.int .i64 m.d) rfl
  have l4 := box_cell (w.alloc (.cells #[.slice A s.nodes.length c, .int .i64 s.root] 39)) (w.heap.size + 1) (by simp) (limV m) 50 4 (.int .i64 m.t) rfl
  go_enter Tryd.func34, Tryd.ntmps34
  go_wp2_with fail
  refine (lright_ok m H1.out H0.out _).mono ?_
  rintro e w1 ⟨rfl, hB1⟩
  replace k0 := pw_cell_below hB1 k0
  replace k1 := pw_cell_below hB1 k1
  replace l0 := pw_cell_below hB1 l0
  replace l1 := pw_cell_below hB1 l1
  replace l2 := pw_cell_below hB1 l2
  replace l3 := pw_cell_below hB1 l3
  replace l4 := pw_cell_below hB1 l4
  have HB1 := Aside0.mk (below_step HB.out hB1)
  clear hB1 HB
  go_wp2_with fail
  refine (typed_any A c s _ (Kd.C_below HR.out HB1.out) (HT.out.below HB1.out) HTS.out).mono ?_
  rintro e w2 ⟨rfl, hB2⟩
  replace k0 := pw_cell_below hB2 k0
  replace k1 := pw_cell_below hB2 k1
  replace l0 := pw_cell_below hB2 l0
  replace l1 := pw_cell_below hB2 l1
  replace l2 := pw_cell_below hB2 l2
  replace l3 := pw_cell_below hB2 l3
  replace l4 := pw_cell_below hB2 l4
  have HB2 := Aside0.mk (below_step HB1.out hB2)
  clear hB2
  rw [HTy.out]
  go_wp2_with fail
  refine (gcheck_any A c s _ (Kd.C_below HR.out HB2.out) HM.out).mono ?_
  rintro e w3 ⟨rfl, hB3⟩
  replace k0 := pw_cell_below hB3 k0
  replace k1 := pw_cell_below hB3 k1
  replace l0 := pw_cell_below hB3 l0
  replace l1 := pw_cell_below hB3 l1
  replace l2 := pw_cell_below hB3 l2
  replace l3 := pw_cell_below hB3 l3
  replace l4 := pw_cell_below hB3 l4
  have HB3 := Aside0.mk (below_step HB2.out hB3)
  have hz := gcheck_zero HRt.out
  rw [hz]
  clear hB3 HB1 HB2 hz
  go_wp2
  go_region_held3 (fun W => W.cell? ⟨w.heap.size, 0, none⟩ = some (.slice A s.nodes.length c) ∧ W.cell? ⟨w.heap.size, 1, none⟩ = some (.int .i64 s.root) ∧ W.cell? ⟨w.heap.size + 1, 0, none⟩ = some (.int .i64 m.b) ∧ W.cell? ⟨w.heap.size + 1, 1, none⟩ = some (.int .i64 m.n) ∧ W.cell? ⟨w.heap.size + 1, 2, none⟩ = some (.int .i64 m.e) ∧ W.cell? ⟨w.heap.size + 1, 3, none⟩ = some (.int .i64 m.d) ∧ W.cell? ⟨w.heap.size + 1, 4, none⟩ = some (.int .i64 m.t))
    (first
      | (go_split_ands
         (repeat' apply And.intro)
         all_goals first
           | with_reducible assumption
           | with_reducible exact pw_cell_below hB (by assumption)
           | (simp [*]; done)))
    (first
      | (go_at_call 26; refine (measure_any A c s _ (Kd.C_drew (Kd.C_below HR.out HB3.out)) HM.out HX.out HL.out).mono ?_; rintro e w4 ⟨rfl, hB⟩; rw [HMs.out]; have HB4 := Aside0.mk (below_step (below_drew HB3.out) hB))
      | (go_at_call 63; refine (within_ok m m (Lim.le_refl m) _).mono ?_; rintro e w5 ⟨rfl, hB⟩; have HB5 := Aside0.mk (below_step HB4.out hB)))
  all_goals
    clear k0 k1 l0 l1 l2 l3 l4
    go_wp2
    go_ret2
    exact ⟨rfl, HB5.out⟩
end Go.Proofs.YtglfebpgdghlfaaDoor.L
end
section
namespace Go.Proofs.YtglfebpgdghlfaaDoor.L
open Go.RowKit Go.ChangeShapes Go.WideShapes Go.Proofs.YtglfebpgdghlfaaDoorW.PrintWords Go.Proofs.YtglfebpgdghlfaaDoorW.PrintLast Go.Proofs.YtglfebpgdghlfaaDoorW.PrintMore
attribute [local go_sem] max2_int min2_int max_two min_two max_three min_three max_four min_four
def TxOk (n : Node) : Prop := n.texts.length ≤ 100 ∧ ∀ x ∈ n.texts, x.size ≤ 500
theorem meas_le {l : List ByteArray} {b : Nat} (h : ∀ x ∈ l, x.size ≤ b) : (meas l).2 ≤ l.length * b := by
  have hi := meas_inv l
  rw [hi.sum]
  have key : ∀ v : List ByteArray, (∀ x ∈ v, x.size ≤ b) → szs v ≤ v.length * b := fun v => by
    induction v with
    | nil => intro _; exact Nat.zero_le _
    | cons x v ih =>
      intro hv
      have h1 := ih (fun y hy => hv y (by simp [hy]))
      have h2 := hv x (by simp)
      unfold szs at h1 ⊢
      rw [List.map_cons, List.sum_cons, List.length_cons, Nat.succ_mul]
      omega
  have h1 := key (meas l).1 (fun x hx => h x ((hi.mem x).1 hx))
  exact Nat.le_trans h1 (Nat.mul_le_mul_right b hi.len)
theorem edgesTo_le {ns : List Node} (h : ∀ i : Nat, i < ns.length → (nd ns i).kids.length ≤ 5000) (hn : ns.length ≤ 1000) : ∀ i : Nat, i ≤ ns.length → 0 ≤ edgesTo ns i ∧ edgesTo ns i ≤ (i : Int) * 5000
  | 0, _ => ⟨Int.le_refl _, Int.le_refl _⟩
  | i + 1, hi => by
    obtain ⟨h1, h2⟩ := edgesTo_le h hn i (by omega)
    have h3 := h i (by omega)
    have e : edgesTo ns (i + 1) = edgesTo ns i + ((nd ns i).kids.length : Int) := wrap_i (by omega) (by omega)
    rw [e]
    omega
theorem msL_wide {s : Scene} (hr : Right s) (hn : s.nodes.length ≤ 1000) (hk : ∀ i : Nat, i < s.nodes.length → (nd s.nodes i).kids.length ≤ 5000) (ht : (textSum s.nodes : Int) ≤ 16777216) : Lim.Le (msL s) wideL ∧ Lim.Le zeroL (msL s) := by
  obtain ⟨d0, d1⟩ := depthS_le hr
  obtain ⟨e0, e1⟩ := edgesTo_le hk hn s.nodes.length (Nat.le_refl _)
  have e2 : edgesW s.nodes = edgesTo s.nodes s.nodes.length := rfl
  refine ⟨⟨by show (0 : Int) ≤ 16777216; decide, by show (s.nodes.length : Int) ≤ 16777216; omega, by show edgesW s.nodes ≤ 16777216; omega, by show depthS s ≤ 16777216; omega, ht⟩, ⟨by show (0 : Int) ≤ 0; decide, by show (0 : Int) ≤ (s.nodes.length : Int); omega, by show (0 : Int) ≤ edgesW s.nodes; omega, d0, by show (0 : Int) ≤ (textSum s.nodes : Int); omega⟩⟩
theorem tx_texs {ns : List Node} (h : ∀ i : Nat, i < ns.length → TxOk (nd ns i)) : (∀ x ∈ texs ns, x.size ≤ 500) ∧ (texs ns).length ≤ ns.length * 100 := by
  refine ⟨fun x hx => ?_, texs_le ns (fun n hn => ?_)⟩
  · obtain ⟨p, hp, hm⟩ := mem_texs.1 hx
    exact (h p hp).2 x hm
  · obtain ⟨i, hi, rfl⟩ := mem_nd hn
    exact (h i hi).1
theorem tx_sum {ns : List Node} (h : ∀ i : Nat, i < ns.length → TxOk (nd ns i)) (hn : ns.length ≤ 60) : textSum ns ≤ 3000000 := by
  obtain ⟨h1, h2⟩ := tx_texs h
  have h3 := meas_le h1
  have h4 : (texs ns).length * 500 ≤ (60 * 100) * 500 := Nat.mul_le_mul_right 500 (Nat.le_trans h2 (Nat.mul_le_mul_right 100 hn))
  unfold textSum
  omega
end Go.Proofs.YtglfebpgdghlfaaDoor.L
end
section
namespace Go.Proofs.YtglfebpgdghlfaaDoor.L
open Go.RowKit Go.ChangeShapes Go.WideShapes Go.Proofs.YtglfebpgdghlfaaDoorW.PrintWords Go.Proofs.YtglfebpgdghlfaaDoorW.PrintLast Go.Proofs.YtglfebpgdghlfaaDoorW.PrintMore
attribute [local go_sem] max2_int min2_int max_two min_two max_three min_three max_four min_four
theorem nd_mem' (l : List Node) (k : Nat) (hk : k < l.length) : nd l k ∈ l := by
  unfold nd
  rw [List.getD_eq_getElem?_getD, List.getElem?_eq_getElem hk]
  exact List.getElem_mem hk
end Go.Proofs.YtglfebpgdghlfaaDoor.L
end
section
namespace Go.Proofs.YtglfebpgdghlfaaDoor.L
open Go.RowKit Go.ChangeShapes Go.WideShapes Go.Proofs.YtglfebpgdghlfaaDoorW.PrintWords Go.Proofs.YtglfebpgdghlfaaDoorW.PrintLast Go.Proofs.YtglfebpgdghlfaaDoorW.PrintMore
attribute [local go_sem] max2_int min2_int max_two min_two max_three min_three max_four min_four
theorem canon_at {s : Scene} (h : Right s) (i : Nat) (hi : i < (canonL s).length) : ∃ p : Nat, p < s.nodes.length ∧ (nd (canonL s) i).ints = (nd s.nodes p).ints ∧ (nd (canonL s) i).texts = (nd s.nodes p).texts ∧ (nd (canonL s) i).kids.length = (nd s.nodes p).kids.length := by
  have hm := nd_mem' (canonL s) i hi
  generalize nd (canonL s) i = x at hm
  obtain ⟨q, hq, rfl⟩ := List.mem_map.1 hm
  have hpl := ord_pl h q hq
  exact ⟨q.toNat, by have := hpl.1; have := hpl.2; omega, rfl, rfl, by show (List.map _ _).length = _; rw [List.length_map]⟩
theorem canon_fits {s : Scene} (h : Right s) (hg : greatS s = false) :
    (∀ i : Nat, i < (canonL s).length → Small (nd (canonL s) i)) ∧ (∀ i : Nat, i < (canonL s).length → TextsSmall (nd (canonL s) i)) ∧ rows (canonL s) ≤ 130000 := by
  obtain ⟨hn, hS, hTS, hK⟩ := greatS_small hg
  refine ⟨fun i hi => ?_, fun i hi => ?_, ?_⟩
  · obtain ⟨p, hp, e1, e2, e3⟩ := canon_at h i hi
    have := hS p hp
    exact ⟨by rw [e1]; exact this.1, by rw [e2]; exact this.2.1, by rw [e3]; exact this.2.2⟩
  · obtain ⟨p, hp, e1, e2, e3⟩ := canon_at h i hi
    have := hTS p hp
    unfold TextsSmall at this ⊢
    rw [e2]
    exact this
  · have h1 := rows_le (ns := canonL s) (b := 300) (fun i hi => by
      obtain ⟨p, hp, e1, e2, e3⟩ := canon_at h i hi
      rw [e3]; exact hK p hp)
    have hlen : (canonL s).length = s.nodes.length := (canon_iso h).len
    have h2 : (canonL s).length * (300 + 1) ≤ 60 * 301 := Nat.mul_le_mul (by omega) (by omega)
    omega
theorem great_texS {s : Scene} (hg : greatS s = false) : textSum s.nodes ≤ 3000000 := by
  have h' := of_decide_eq_false hg
  refine tx_sum (fun i hi => ?_) (greatS_small hg).1
  have h3 := of_decide_eq_false (Bool.eq_false_iff.2 (fun e => h' (.inr (.inr ⟨i, hi, e⟩))) : greatN (nd s.nodes i) = false)
  have h4 : ¬ 100 < (nd s.nodes i).texts.length := fun e => h3 (.inr (.inl e))
  have h5 : ¬ ∃ j, j < (nd s.nodes i).texts.length ∧ 500 < (str (nd s.nodes i).texts j).size := fun e => h3 (.inr (.inr (.inr e)))
  refine ⟨by omega, fun x hx => ?_⟩
  obtain ⟨j, hj, rfl⟩ := List.getElem_of_mem hx
  refine Classical.byContradiction fun hn => h5 ⟨j, hj, ?_⟩
  unfold str
  rw [List.getD_eq_getElem?_getD, List.getElem?_eq_getElem hj]
  show 500 < ((nd s.nodes i).texts[j]).size
  omega
structure KpS (s : Scene) : Prop where
  right : Right (upRes s)
  typed : (typedS newTab (upRes s).nodes).1 = 0
  isc : isC (upRes s) = true
  err : upErr s = 0
  small : ∀ i : Nat, i < (upRes s).nodes.length → Small (nd (upRes s).nodes i)
  texts : ∀ i : Nat, i < (upRes s).nodes.length → TextsSmall (nd (upRes s).nodes i)
  rws : rows (upRes s).nodes ≤ 400000
  txs : ∀ x ∈ texs (upRes s).nodes, x.size ≤ 1000000
  txl : (texs (upRes s).nodes).length ≤ 1000000000
  le1 : Lim.Le (msL (upRes s)) wideL
  le0 : Lim.Le zeroL (msL (upRes s))
  cerr : upErr ⟨canonL s, (s.nodes.length : Int) - 1⟩ = 0
  cres : upRes ⟨canonL s, (s.nodes.length : Int) - 1⟩ = upRes s
theorem kpS {s : Scene} (hty : (typedS oldTab s.nodes).1 = 0) (hr : Right s) (hg : greatS s = false) : KpS s := by
  obtain ⟨hn, hS, hTS, hK⟩ := greatS_small hg
  have hru := (upRes_depth hty hr).1
  obtain ⟨z1, z2, z3⟩ := upRes_sizes hty hr hg
  have ht := upRes_text hty (typedS_all hty) hr
  have ht2 := great_texS hg
  have hln := upRes_len hty hr
  have hk := upRes_kids hty hr hK
  have hw := msL_wide hru (by omega) (fun i hi => Nat.le_trans (hk i hi) (by omega)) (by omega)
  obtain ⟨c1, c2⟩ := up_canon hty hr
  refine ⟨hru, upRes_typed hty hr, ?_, (up_is_ref hty hr).1, ?_, ?_, z1, z2, z3, hw.1, hw.2, c2, c1⟩
  · have hu := upS_right hr
    have hres : upRes s = ⟨canonL (upS s), ((upS s).nodes.length : Int) - 1⟩ := by
      unfold upRes canonR
      rw [if_pos hty, if_pos (gcheck_right.2 hr), if_pos (gcheck_right.2 hu)]
    rw [hres]
    exact canon_isC hu
  · rw [(up_is_ref hty hr).2]
    exact refRes_small hr hS
  · intro i hi
    unfold TextsSmall
    intro j hj
    refine z2 _ (mem_texs.2 ⟨i, hi, ?_⟩)
    unfold str
    rw [List.getD_eq_getElem?_getD, List.getElem?_eq_getElem hj]
    exact List.getElem_mem hj
end Go.Proofs.YtglfebpgdghlfaaDoor.L
end
section
namespace Go.Proofs.YtglfebpgdghlfaaDoor.L
open Go.RowKit Go.ChangeShapes Go.WideShapes Go.Proofs.YtglfebpgdghlfaaDoorW.PrintWords Go.Proofs.YtglfebpgdghlfaaDoorW.PrintLast Go.Proofs.YtglfebpgdghlfaaDoorW.PrintMore
attribute [local go_sem] max2_int min2_int max_two min_two max_three min_three max_four min_four
set_option maxRecDepth 100000 in
set_option maxHeartbeats 8000000 in
theorem upgradeKeeps_any (A : Option Addr) (c : Nat) (s : Scene) (w : World) (h : kNode.C w A s.nodes.length s.nodes) (hc : s.nodes.length ≤ c) (hT : Tabs w) :
    Calls Tryd.prog 9 #[.agg #[.slice A s.nodes.length c, .int .i64 s.root]] w fun e w' => e = .returned (.bool true) ∧ Below w.heap.size w w' := by
  have HR := Aside0.mk h
  have HT := Aside0.mk hT
  have HB := Aside0.mk (below_alloc (Below.refl w.heap.size w) (.cells #[.slice A s.nodes.length c, .int .i64 s.root] 39))
  have k0 := box_cell w _ rfl #[.slice A s.nodes.length c, .int .i64 s.root] 39 0 (.slice A s.nodes.length c) rfl
  have k1 := box_cell w _ rfl #[.slice A s.nodes.length c, .int .i64 s.root] 39 1 (.int .i64 s.root) rfl
  have hu := Tryd.underlying39
  clear h hT
  go_enter Tryd.func9, Tryd.ntmps9
  go_wp2_with fail
  refine (awake_any _ (HT.out.below HB.out)).mono ?_
  rintro e w1 ⟨rfl, hB1⟩
  replace k0 := pw_cell_below hB1 k0
  replace k1 := pw_cell_below hB1 k1
  have HB1 := Aside0.mk (below_step HB.out hB1)
  clear hB1
  go_wp2_with fail
  refine (greatS_any A c s _ (Kd.C_below HR.out HB1.out)).mono ?_
  rintro e w2 ⟨rfl, hB2⟩
  replace k0 := pw_cell_below hB2 k0
  replace k1 := pw_cell_below hB2 k1
  have HB2 := Aside0.mk (below_step HB1.out hB2)
  clear hB2
  cases hg : greatS s with
  | true =>
    clear hg
    go_wp2_with fail
    refine (awake_any _ (HT.out.below HB2.out)).mono ?_
    rintro e w3 ⟨rfl, hB3⟩
    have HB3 := Aside0.mk (below_step HB2.out hB3)
    clear hB3 k0 k1
    go_wp2
    go_ret
    exact ⟨rfl, HB3.out⟩
  | false =>
    have HG := Aside0.mk (greatS_small hg)
    have HO := Aside0.mk (own_sizes hg)
    have HGr := Aside0.mk hg
    clear hg
    go_wp2_with fail
    refine (rwhole_1 A c s _ (Kd.C_below HR.out HB2.out) hc HG.out.2.1 HG.out.2.2.1 (by have := HO.out.1; omega)).mono ?_
    rintro e w3 ⟨rfl, hB3⟩
    replace k0 := pw_cell_below hB3 k0
    replace k1 := pw_cell_below hB3 k1
    have HB3 := Aside0.mk (below_step HB2.out hB3)
    clear hB3
    cases hwh : whole1 s with
    | false =>
      clear hwh
      go_wp2_with fail
      refine (awake_any _ (HT.out.below HB3.out)).mono ?_
      rintro e w4 ⟨rfl, hB4⟩
      have HB4 := Aside0.mk (below_step HB3.out hB4)
      clear hB4 k0 k1
      go_wp2
      go_ret
      exact ⟨rfl, HB4.out⟩
    | true =>
      have HW := Aside0.mk hwh
      clear hwh
      have hwt : (typedS oldTab s.nodes).1 = 0 ∧ (gcheck s).1 = 0 := by
        have h0 := HW.out
        unfold whole1 rightB at h0
        simpa using h0
      have HRt := Aside0.mk (gcheck_right.1 hwt.2)
      have HK := Aside0.mk (kpS hwt.1 (gcheck_right.1 hwt.2) HGr.out)
      have HCF := Aside0.mk (canon_fits (gcheck_right.1 hwt.2) HGr.out)
      have he0 : upErr s = 0 := HK.out.err
      clear hwt
      go_wp2_with fail
      refine (up_any A c s _ (Kd.C_below HR.out HB3.out) (HT.out.below HB3.out) HG.out.2.1 HG.out.2.2.1 HO.out.1).mono ?_
      rintro e w4 ⟨A3, c3, rfl, hR4, hB4⟩
      rw [he0]
      have hA := below_alloc (Below.refl w4.heap.size w4) (.cells #[.slice A3 (upRes s).nodes.length c3, .int .i64 (upRes s).root] 39)
      have HC4 := Aside0.mk (Kd.C_alloc (Kd.R_reads' hR4).2.2 (.cells #[.slice A3 (upRes s).nodes.length c3, .int .i64 (upRes s).root] 39))
      have q0 := box_cell w4 _ rfl #[.slice A3 (upRes s).nodes.length c3, .int .i64 (upRes s).root] 39 0 (.slice A3 (upRes s).nodes.length c3) rfl
      have q1 := box_cell w4 _ rfl #[.slice A3 (upRes s).nodes.length c3, .int .i64 (upRes s).root] 39 1 (.int .i64 (upRes s).root) rfl
      replace k0 := pw_cell_below hA (pw_cell_below hB4 k0)
      replace k1 := pw_cell_below hA (pw_cell_below hB4 k1)
      have HB4 := Aside0.mk (below_step (below_step HB3.out hB4) hA)
      clear hB4 hR4 hA he0
      have HD4 := Aside0.mk (Kd.C_below HR.out HB4.out)
      have HT4 := Aside0.mk (HT.out.below HB4.out)
      have HM := Aside0.mk (show rows s.nodes ≤ 130000 from HO.out.1)
      have HOl := Aside0.mk (ord_len HRt.out)
      have HCn := Aside0.mk (show (⟨refCanL s.nodes (ord s), ((ord s).length : Int) - 1⟩ : Scene) = ⟨canonL s, (s.nodes.length : Int) - 1⟩ from by rw [refCan_eq HRt.out.dag ⟨HRt.out.r0, HRt.out.r1⟩, ord_len HRt.out])
      have HCc := Aside0.mk hc
      have hnl := Aside0.mk (len_rows s.nodes)
      go_wp2_with fail
      generalize hw5 : w4.alloc (.cells #[.slice A3 (upRes s).nodes.length c3, .int .i64 (upRes s).root] 39) = w5 at HB4 HC4 HD4 HT4 k0 k1 q0 q1 ⊢
      clear hw5
      generalize w4.heap.size = b4 at q0 q1 ⊢
      refine (rcanon_any A c s (ord s) _ _ HD4.out HCc.out HG.out.2.1 (order_f HRt.out.dag ⟨HRt.out.r0, HRt.out.r1⟩ (by have := HM.out; omega)) (by have := HM.out; have := hnl.out; have := HOl.out; omega) (ord_met' HRt.out.dag ⟨HRt.out.r0, HRt.out.r1⟩).shut.pl).mono ?_
      rw [HCn.out]
      rintro e w6 ⟨B2, d2, rfl, hR6, hB6⟩
      replace q0 := pw_cell_below hB6 q0
      replace q1 := pw_cell_below hB6 q1
      have HC6 := Aside0.mk (Kd.R_reads' hR6).2.2
      have HB6 := Aside0.mk (below_step HB4.out hB6)
      have HE6 := Aside0.mk (Kd.C_below HC4.out hB6)
      have HT6 := Aside0.mk (HT.out.below HB6.out)
      clear hB6 hR6 k0 k1
      have HRS := Aside0.mk HK.out.cres
      have HES := Aside0.mk HK.out.cerr
      go_wp2_with fail
      refine (up_any B2 d2 ⟨canonL s, (s.nodes.length : Int) - 1⟩ _ HC6.out HT6.out HCF.out.1 HCF.out.2.1 HCF.out.2.2).mono ?_
      rw [HRS.out, HES.out]
      rintro e w7 ⟨B, d, rfl, hR7, hB7⟩
      have hA7 := below_alloc (Below.refl w7.heap.size w7) (.cells #[.slice B (upRes s).nodes.length d, .int .i64 (upRes s).root] 39)
      have HC7 := Aside0.mk (Kd.C_alloc (Kd.R_reads' hR7).2.2 (.cells #[.slice B (upRes s).nodes.length d, .int .i64 (upRes s).root] 39))
      have p0 := box_cell w7 _ rfl #[.slice B (upRes s).nodes.length d, .int .i64 (upRes s).root] 39 0 (.slice B (upRes s).nodes.length d) rfl
      have p1 := box_cell w7 _ rfl #[.slice B (upRes s).nodes.length d, .int .i64 (upRes s).root] 39 1 (.int .i64 (upRes s).root) rfl
      replace q0 := pw_cell_below hA7 (pw_cell_below hB7 q0)
      replace q1 := pw_cell_below hA7 (pw_cell_below hB7 q1)
      have HB7 := Aside0.mk (below_step (below_step HB6.out hB7) hA7)
      have HE7 := Aside0.mk (Kd.C_below (Kd.C_below HE6.out hB7) hA7)
      have HT7 := Aside0.mk (HT.out.below HB7.out)
      clear hB7 hR7 hA7 HC6 HE6 HT6 HB6
      go_wp2
      generalize hw8 : w7.alloc (.cells #[.slice B (upRes s).nodes.length d, .int .i64 (upRes s).root] 39) = w8 at HB7 HC7 HE7 HT7 p0 p1 q0 q1 ⊢
      clear hw8
      generalize w7.heap.size = b7 at p0 p1 ⊢
      have HMs := Aside0.mk (show (.agg #[.int .i64 0, .int .i64 ((upRes s).nodes.length : Int), .int .i64 (edgesW (upRes s).nodes), .int .i64 (depthS (upRes s)), .int .i64 (textSum (upRes s).nodes : Int)] : Value) = .agg (limV (msL (upRes s))) from rfl)
      have HK2 := Aside0.mk (show (∀ i : Nat, i < (upRes s).nodes.length → TextsSmall (nd (upRes s).nodes i)) ∧ rows (upRes s).nodes ≤ 400000 ∧ (∀ x ∈ texs (upRes s).nodes, x.size ≤ 1000000) ∧ (texs (upRes s).nodes).length ≤ 1000000000 ∧ (typedS newTab (upRes s).nodes).1 = 0 ∧ Right (upRes s) ∧ Lim.Le (msL (upRes s)) wideL ∧ Lim.Le zeroL (msL (upRes s)) from ⟨HK.out.texts, HK.out.rws, HK.out.txs, HK.out.txl, HK.out.typed, HK.out.right, HK.out.le1, HK.out.le0⟩)
      have HIc := Aside0.mk HK.out.isc
      have HSr := Aside0.mk HK.out.small
      clear HK
      generalize upRes s = t at HMs HK2 HIc HSr HC7 HE7 p0 p1 q0 q1 ⊢
      go_region_held3 (fun W => (W.cell? ⟨b4, 0, none⟩ = some (.slice A3 t.nodes.length c3) ∧ W.cell? ⟨b4, 1, none⟩ = some (.int .i64 t.root)) ∧ W.cell? ⟨b7, 0, none⟩ = some (.slice B t.nodes.length d) ∧ W.cell? ⟨b7, 1, none⟩ = some (.int .i64 t.root))
        (first
          | (go_split_ands
             (repeat' apply And.intro)
             all_goals first
               | with_reducible assumption
               | with_reducible exact pw_cell_below hB (by assumption)
               | (simp [*]; done)))
        (first
          | (go_at_call 26; refine (measure_any A3 c3 t _ (Kd.C_drew HE7.out) HK2.out.2.1 HK2.out.2.2.1 HK2.out.2.2.2.1).mono ?_; rintro e w10 ⟨rfl, hB⟩; rw [HMs.out]; have HB10 := Aside0.mk (below_step (below_drew HB7.out) hB); have HE10 := Aside0.mk (Kd.C_below (Kd.C_drew HE7.out) hB); have HC10 := Aside0.mk (Kd.C_below (Kd.C_drew HC7.out) hB))
          | (go_at_call 34; refine (valid_ok A3 c3 t _ HE10.out (HT.out.below HB10.out) HK2.out.1 HK2.out.2.1 HK2.out.2.2.1 HK2.out.2.2.2.1 HK2.out.2.2.2.2.1 HK2.out.2.2.2.2.2.1 HK2.out.2.2.2.2.2.2.1 HK2.out.2.2.2.2.2.2.2).mono ?_; rintro e w11 ⟨rfl, hB⟩; have HB11 := Aside0.mk (below_step HB10.out hB); have HE11 := Aside0.mk (Kd.C_below HE10.out hB); have HC11 := Aside0.mk (Kd.C_below HC10.out hB)))
      all_goals
        clear p0 p1 q0 q1
        go_split_ands
        go_wp2_with fail
        refine (is_any A3 c3 t _ HE11.out HK2.out.2.1).mono ?_
        rintro e w12 ⟨rfl, hB12⟩
        rw [HIc.out]
        have q0 : w12.cell? ⟨b4, 0, none⟩ = some (.slice A3 t.nodes.length c3) := pw_cell_below hB12 (by assumption)
        have q1 : w12.cell? ⟨b4, 1, none⟩ = some (.int .i64 t.root) := pw_cell_below hB12 (by assumption)
        have p0 : w12.cell? ⟨b7, 0, none⟩ = some (.slice B t.nodes.length d) := pw_cell_below hB12 (by assumption)
        have p1 : w12.cell? ⟨b7, 1, none⟩ = some (.int .i64 t.root) := pw_cell_below hB12 (by assumption)
        have HB12 := Aside0.mk (below_step HB11.out hB12)
        have HE12 := Aside0.mk (Kd.C_below HE11.out hB12)
        have HC12 := Aside0.mk (Kd.C_below HC11.out hB12)
        clear hB12
        go_wp2_with fail
        refine (sameS_any A3 c3 t B d t _ HE12.out HC12.out HSr.out).mono ?_
        rintro e w13 ⟨rfl, hB13⟩
        rw [sameS_yes rfl]
        have HB13 := Aside0.mk (below_step HB12.out hB13)
        clear hB13 q0 q1 p0 p1
        go_wp2
        go_ret
        exact ⟨rfl, HB13.out⟩
end Go.Proofs.YtglfebpgdghlfaaDoor.L
end
section
namespace Go.Proofs.YtglfebpgdghlfaaDoor.L
open Go.RowKit Go.ChangeShapes Go.WideShapes Go.Proofs.YtglfebpgdghlfaaDoorW.PrintWords Go.Proofs.YtglfebpgdghlfaaDoorW.PrintLast Go.Proofs.YtglfebpgdghlfaaDoorW.PrintMore
attribute [local go_sem] max2_int min2_int max_two min_two max_three min_three max_four min_four
section
variable {P : Program} {α β : Type}
def Opens (P : Program) (k : Kd α) (t : TypeId) (good : α → Prop) : Prop :=
  ∀ (H : Type) (enc : TypeId × Value → H) (w : World) (base : Nat) (spare : Nat → Bool) (held : Bool) (fuel : Nat) (cs : List Value) (x : DataW H × List MemPlace), DataW.trod enc P w base spare held fuel t cs = some x → ∃ v, k.K w v cs ∧ good v
theorem opens_int {t : TypeId} {k : IntKind} (ht : P.underlying t = some (.int k)) : Opens P (Kd.int k) t (fun n => (Lit.int k n).wf = true) := by
  intro H enc w base spare held fuel cs x h
  obtain ⟨n, rfl, _, hw⟩ := DataW.trod_int ht h
  exact ⟨n, rfl, hw⟩
theorem opens_string {t : TypeId} (ht : P.underlying t = some .string) : Opens P Kd.string t (fun s => s.size ≤ maxLen) := by
  intro H enc w base spare held fuel cs x h
  obtain ⟨s, rfl, _, hs⟩ := DataW.trod_string ht h
  exact ⟨s, rfl, hs⟩
theorem list_of {R : Nat → α → Prop} : ∀ n, (∀ i, i < n → ∃ p, R i p) → ∃ xs : List α, xs.length = n ∧ ∀ j p, xs[j]? = some p → R j p := by
  intro n
  induction n with
  | zero => intro _; exact ⟨[], rfl, fun j p h => by simp at h⟩
  | succ n ih =>
    intro h
    obtain ⟨xs, hl, hx⟩ := ih (fun i hi => h i (by omega))
    obtain ⟨p, hp⟩ := h n (by omega)
    refine ⟨xs ++ [p], by simp [hl], fun j q hq => ?_⟩
    rw [List.getElem?_append] at hq
    split at hq
    · exact hx j q hq
    · have hj : j = n := by
        have := (List.getElem?_eq_some_iff.1 hq).1
        simp at this
        omega
      subst hj
      rw [hl, Nat.sub_self] at hq
      simp at hq
      subst hq
      exact hp
theorem opens_slice {d : Kd α} {t e e' : TypeId} {good : α → Prop} (ht : P.underlying t = some (.slice e)) (hc : P.cellsOf e = d.sz) (hd : Opens P d e good) : Opens P (Kd.slice e' d) t (fun xs => xs.length ≤ maxLen ∧ ∀ x ∈ xs, good x) := by
  intro H enc w base spare held fuel cs x h
  rcases Deep.open_slice ht h with ⟨rfl, _⟩ | ⟨a, len, cap, m, n, D, Pl, rfl, _, hl, hm, hmm, _, hx⟩
  · exact ⟨[], ⟨none, 0, rfl, Nat.le_refl _, rfl, by simp, fun h => by simp at h⟩, by simp, by simp⟩
  · have hlm : len ≤ m := by rw [hmm]; split <;> omega
    rw [hc] at hx
    obtain ⟨xs, hxl, hxs⟩ := list_of (R := fun i p => (∃ c, c.length = d.sz ∧ d.K w p c ∧ ∀ j u, c[j]? = some u → w.cell? (a.add (i * d.sz + j)) = some u) ∧ good p) len (fun i hi => by
      obtain ⟨cs', h1, h2⟩ := hx i (by omega)
      obtain ⟨_, hcl, hat⟩ := World.cells?_some h1
      obtain ⟨p, hK, hg⟩ := hd H enc w base spare held n cs' _ h2
      refine ⟨p, ⟨cs', hcl, hK, fun j u hu => ?_⟩, hg⟩
      have hj : j < d.sz := by rw [← hcl]; exact (List.getElem?_eq_some_iff.1 hu).1
      rw [← Deep.add_add, hat j hj, hu])
    subst hxl
    refine ⟨xs, ⟨some a, cap, rfl, hl, rfl, by unfold maxLen at hm; omega, fun _ => ⟨a, rfl, fun j p hp => (hxs j p hp).1⟩⟩, by omega, fun x hx => ?_⟩
    obtain ⟨j, hj⟩ := List.getElem?_of_mem hx
    exact (hxs j x hj).2
def OpensL (P : Program) (k : Kd α) (fs : List Field) (off : Nat) (good : α → Prop) : Prop :=
  ∀ (H : Type) (enc : TypeId × Value → H) (w : World) (base : Nat) (spare : Nat → Bool) (held : Bool) (n : Nat) (cs : List Value), cs.length = k.sz → (∀ f ∈ fs, ∃ x, DataW.trod enc P w base spare held n f.type ((cs.drop (f.offset - off)).take (P.cellsOf f.type)) = some x) → ∃ v, k.K w v cs ∧ good v
theorem opensL_one {k : Kd α} {f : Field} {off : Nat} {good : α → Prop} (ho : f.offset = off) (hc : P.cellsOf f.type = k.sz) (h : Opens P k f.type good) : OpensL P k [f] off good := by
  intro H enc w base spare held n cs hl hf
  obtain ⟨x, hx⟩ := hf f (by simp)
  rw [ho, Nat.sub_self, List.drop_zero, hc, ← hl, List.take_length] at hx
  exact h H enc w base spare held n cs x hx
theorem opensL_cons {a : Kd α} {b : Kd β} {f : Field} {fs : List Field} {off : Nat} {ga : α → Prop} {gb : β → Prop} (ho : f.offset = off) (hc : P.cellsOf f.type = a.sz) (h : Opens P a f.type ga) (hoff : ∀ g ∈ fs, off + a.sz ≤ g.offset) (hs : OpensL P b fs (off + a.sz) gb) :
    OpensL P (Kd.pair a b) (f :: fs) off (fun x => ga x.1 ∧ gb x.2) := by
  intro H enc w base spare held n cs hl hf
  have hl' : cs.length = a.sz + b.sz := hl
  obtain ⟨x, hx⟩ := hf f (by simp)
  rw [ho, Nat.sub_self, List.drop_zero, hc] at hx
  obtain ⟨v, hv, hg⟩ := h H enc w base spare held n _ x hx
  obtain ⟨u, hu, hg'⟩ := hs H enc w base spare held n (cs.drop a.sz) (by rw [List.length_drop]; omega) (fun g hg => by
    obtain ⟨y, hy⟩ := hf g (by simp [hg])
    have := hoff g hg
    refine ⟨y, ?_⟩
    rw [List.drop_drop, show a.sz + (g.offset - (off + a.sz)) = g.offset - off from by omega]
    exact hy)
  exact ⟨(v, u), ⟨_, _, (List.take_append_drop a.sz cs).symm, hv, hu⟩, hg, hg'⟩
theorem opens_struct {k : Kd α} {t : TypeId} {fs : Array Field} {good : α → Prop} (ht : P.underlying t = some (.struct fs)) (hc : P.cellsOf t = k.sz) (h : OpensL P k fs.toList 0 good) : Opens P k t good := by
  intro H enc w base spare held fuel cs x hx
  obtain ⟨xs, n, _, _, hl, hxl, hf⟩ := DataW.trod_struct ht hx
  refine h H enc w base spare held n cs (hl.trans hc) (fun f hfm => ?_)
  obtain ⟨i, hi⟩ := List.getElem?_of_mem hfm
  have hi' : fs[i]? = some f := by simpa using hi
  have hil : i < xs.length := by rw [hxl]; exact (Array.getElem?_eq_some_iff.1 hi').1
  exact ⟨xs[i]'hil, by rw [Nat.sub_zero, hf i f hi', List.getElem?_eq_getElem hil]⟩
theorem opens_iso {d : Kd α} {f : β → α} {t : TypeId} {good : α → Prop} (hf : ∀ v, ∃ x, f x = v) (h : Opens P d t good) : Opens P (Kd.iso d f) t (fun x => good (f x)) := by
  intro H enc w base spare held fuel cs x hx
  obtain ⟨v, hv, hg⟩ := h H enc w base spare held fuel cs x hx
  obtain ⟨y, rfl⟩ := hf v
  exact ⟨y, hv, hg⟩
theorem Opens.arg_struct {k : Kd α} {H : Type} {enc : TypeId × Value → H} {W : World} {b0 base : Nat} {r : Reach} {spare : Nat → Bool} {held : Bool} {t : TypeId} {fs : Array Field} {good : α → Prop} {v : Value} {q : DataW H} {p : List MemPlace} (hs : P.underlying t = some (.struct fs)) (ho : Opens P k t good)
    (hv : Value.okWide P W r b0 t v) (h : DataW.Trod enc P W base spare held t v q p) : ∃ x cs, v = .agg cs ∧ k.K W x cs.toList ∧ good x := by
  obtain ⟨cs, rfl, _⟩ := okWide_struct hs hv
  obtain ⟨fuel, hf⟩ := h
  obtain ⟨x, hK, hg⟩ := ho H enc W base spare held fuel _ _ hf
  exact ⟨x, cs, rfl, by simpa [Value.cells] using hK, hg⟩
end
end Go.Proofs.YtglfebpgdghlfaaDoor.L
end
section
namespace Go.Proofs.YtglfebpgdghlfaaDoor.L
open Go.RowKit Go.ChangeShapes Go.WideShapes Go.Proofs.YtglfebpgdghlfaaDoorW.PrintWords Go.Proofs.YtglfebpgdghlfaaDoorW.PrintLast Go.Proofs.YtglfebpgdghlfaaDoorW.PrintMore
attribute [local go_sem] max2_int min2_int max_two min_two max_three min_three max_four min_four
open Go.ChangeShapes Go.WideShapes Go.ChangeAt Go.RowKit
theorem own : ownKnob Tryd.prog.godebug = none := by kernel_rfl
theorem laidOut : laidOutB Tryd.prog = true := by kernel_rfl
def rowLaid : List (String × DataW Unit) := [("unicode/utf8.acceptRanges", Rows.laid_unicode_utf8_acceptRanges), ("unicode/utf8.first", Rows.laid_unicode_utf8_first)]
theorem firstD : Go.Pinned.utf8First = Lib.firstData := by kernel_rfl
theorem acceptD : (Rows.laid_unicode_utf8_acceptRanges : DataW Unit) = Lib.acceptData := by kernel_rfl
theorem tabs_of_laid {W : World} (h : laidMetH Tryd.prog rowLaid W) : Tabs W := by
  rw [MakeChecks.laidMetH_plain _ _ _ (by kernel_rfl)] at h
  exact utf8Tabs_of_reads Tryd.lays260 ⟨by kernel_rfl, by kernel_rfl, by kernel_rfl, by kernel_rfl, by kernel_rfl, by kernel_rfl, by kernel_rfl⟩
    (firstD ▸ Lib.laidMet.reads h (show ("unicode/utf8.first", Go.Pinned.utf8First) ∈ rowLaid from .tail _ (.head _)))
    (acceptD ▸ Lib.laidMet.reads h (show ("unicode/utf8.acceptRanges", Rows.laid_unicode_utf8_acceptRanges) ∈ rowLaid from .head _))
theorem laid_met (os : Os) (args : Array Value) : laidMetH Tryd.prog rowLaid ((World.laidAll Tryd.prog os rowLaid).forCall (fun _ _ => 0) ⟨#[], args, []⟩).memory := by
  rw [MakeChecks.laidMetH_plain _ _ _ (by kernel_rfl)]
  exact laidMet_laidAll _ (by kernel_rfl) (by kernel_rfl)
theorem opensL_any {P : Program} {α : Type} {k : Kd α} {fs : List Field} {off : Nat} {good : α → Prop} (h : OpensL P k fs off good) : OpensL P k fs off (fun _ => True) := by
  intro H enc w base spare held n cs hl hf
  obtain ⟨v, hv, _⟩ := h H enc w base spare held n cs hl hf
  exact ⟨v, hv, trivial⟩
theorem opens_node : Opens Tryd.prog kNode 26 (fun _ => True) := by
  unfold kNode
  refine opens_iso (good := fun _ => True) (fun v => ⟨⟨v.1, v.2.1, v.2.2.1, v.2.2.2⟩, rfl⟩) (opens_struct (good := fun _ => True) Tryd.underlying26 (by kernel_rfl) ?_)
  exact opensL_any (opensL_cons rfl (by kernel_rfl) (opens_int Tryd.underlying3) (by decide)
    (opensL_cons rfl (by kernel_rfl) (opens_slice Tryd.underlying22 (by kernel_rfl) (opens_int Tryd.underlying2)) (by decide)
    (opensL_cons rfl (by kernel_rfl) (opens_slice Tryd.underlying23 (by kernel_rfl) (opens_string Tryd.underlying9)) (by decide)
    (opensL_one rfl (by kernel_rfl) (opens_slice Tryd.underlying24 (by kernel_rfl) (opens_int Tryd.underlying3))))))
def kScene : Kd Scene := Kd.iso (Kd.pair (Kd.slice 26 kNode) (Kd.int .i64)) (fun x : Scene => (x.nodes, x.root))
theorem opens_scene : Opens Tryd.prog kScene 39 (fun _ => True) := by
  unfold kScene
  refine opens_iso (good := fun _ => True) (fun v => ⟨⟨v.1, v.2⟩, rfl⟩) (opens_struct (good := fun _ => True) Tryd.underlying39 (by kernel_rfl) ?_)
  exact opensL_any (opensL_cons rfl (by kernel_rfl) (opens_slice Tryd.underlying30 (by kernel_rfl) opens_node) (by decide)
    (opensL_one rfl (by kernel_rfl) (opens_int Tryd.underlying3)))
theorem kScene_open {w : World} {x : Scene} {cs : List Value} (h : kScene.K w x cs) : ∃ A c, cs = [.slice A x.nodes.length c, .int .i64 x.root] ∧ x.nodes.length ≤ c ∧ kNode.C w A x.nodes.length x.nodes := by
  obtain ⟨_, _, rfl, ⟨A, c, rfl, l, h⟩, rfl⟩ := h
  exact ⟨A, c, rfl, l, h⟩
end Go.Proofs.YtglfebpgdghlfaaDoor.L
end
section
namespace Go.Proofs.YtglfebpgdghlfaaDoor.L
open Go.RowKit Go.ChangeShapes Go.WideShapes Go.Proofs.YtglfebpgdghlfaaDoorW.PrintWords Go.Proofs.YtglfebpgdghlfaaDoorW.PrintLast Go.Proofs.YtglfebpgdghlfaaDoorW.PrintMore
attribute [local go_sem] max2_int min2_int max_two min_two max_three min_three max_four min_four
namespace upgradeKeeps
open Go.ChangeShapes Go.WideShapes Go.ChangeAt Go.RowKit
set_option maxRecDepth 100000 in
theorem lifted (os : Os) (started : os.Started) (H : Type) (enc : TypeId × Value → H) :
    ReturnsInHanded {} Tryd.checked os 9 .any (fun w args => (Rows.upgradeKeepsSpec.pre enc Tryd.prog Tryd.f9 [] false w args ∧ laidMetH Tryd.prog rowLaid w) ∧ sizedMet enc Tryd.prog Tryd.f9 (OpenSpec.ofChange Rows.upgradeKeepsSpec) false w args)
      (Rows.upgradeKeepsSpec.post enc Tryd.prog Tryd.f9 false true false false) := by
  refine returnsInHanded_of_change_and (C := Tryd.checked) (X := fun w _ => laidMetH Tryd.prog rowLaid w) (fun _ _ _ hh h => h.of_heap hh) own started (by kernel_rfl) Tryd.func9
    (ChangeSpec.witness_shaped (enc := enc) (C := Tryd.checked) (os := os) (X := fun w _ => laidMetH Tryd.prog rowLaid w) false (World.laidAll Tryd.prog os rowLaid) #[.agg #[.slice none 0 0, .int .i64 0]] 8 (World.laidAll_os _ _ _)
      (World.shaped_of_ZipB (by kernel_rfl) (by kernel_rfl)) (by kernel_rfl) (by kernel_rfl) (by kernel_rfl) (laid_met os _)) ?_
  intro W base args ds gs before hval0 hW hc _ hL _
  have hval : ∀ (j : Nat) t v, (Tryd.f9).params[j]? = some t → args[j]? = some v → Value.okWide Tryd.prog W .any base t v := hval0
  have hW' := hW
  obtain ⟨p, q, hA0, hV, rfl, hfz, hnd⟩ := hW
  have hA : DataW.TrodAll enc Tryd.prog W 0 (fun _ => true) true (Tryd.f9).params.toList args.toList ds p := hA0
  rw [Tryd.params9] at hA hval
  obtain ⟨v0, vs0, d0, ds0, p0, q0, hargs, rfl, rfl, h0, r0⟩ := trodAll_cons hA
  obtain ⟨rfl, rfl, rfl⟩ := trodAll_nil r0
  obtain rfl : args = #[v0] := by cases args; simp_all
  obtain ⟨rfl, rfl⟩ := trodVars_none hV
  have lt0 : ∀ x ∈ p0, x.block < W.heap.size := by obtain ⟨m, hm⟩ := h0; exact DataW.trod_lt m _ _ _ hm
  obtain ⟨s0, cs0, rfl, hK0, _⟩ := Opens.arg_struct Tryd.underlying39 opens_scene (hval 0 39 v0 rfl rfl) h0
  obtain ⟨A0, c0, hcs0, hlc0, hC0⟩ := kScene_open hK0
  obtain rfl : cs0 = #[.slice A0 s0.nodes.length c0, .int .i64 s0.root] := by cases cs0; simp_all
  clear hA0 hval0
  refine (upgradeKeeps_any A0 c0 s0 W hC0 hlc0 (tabs_of_laid hL)).mono fun e W' ⟨he, bel⟩ => ?_
  subst he
  exact ⟨_, rfl, _, _, _, [], _, [], hW', trodAll_mk1 (shut_bool Tryd.underlying4 _), (trodAll_cons_mk (Below.trod laidOut (by kernel_rfl) (of_decide_eq_true (by kernel_rfl)) h0 bel lt0) trodAll_mk0), rfl, bel.frame _, fun h => by cases h⟩
theorem over : Rows.UpgradeKeepsSaid :=
  OpenClaim.holds_of_wide 9 Tryd.f9 rfl rfl rfl rfl rfl rfl rfl ⟨rfl, rfl, rfl, rfl, rfl⟩ rfl rfl rfl rfl rfl (by kernel_rfl) Tryd.func9 (by kernel_rfl)
    (of_decide_eq_true (by kernel_rfl)) (by unfold Func.isWrapper; first | (rw [if_pos (by decide +kernel)]; kernel_rfl) | (rw [if_neg (by decide +kernel)]; exact ⟨rfl, rfl⟩))
    (fun os started H enc _ => lifted os started H enc)
theorem card_holds : Rows.UpgradeKeepsCardSaid :=
  Claim7.holds_tied_plain_at .later [] [.data, .pinned] true (true, "d9096c8d86ec02858f6829e4145980d481af2c3bac41f782ac1e7c2d8c679a29") false over (fun _ h => by cases h) (by kernel_rfl) (fun _ h => by cases h) upgradeKeeps_row_tie rfl ⟨rfl, rfl⟩ (by kernel_rfl) rfl
    (fun f fn hf hfn => by
      obtain rfl : f = 9 := Option.some.inj ((show Tryd.prog.funcNamed "diorama/dioramalaw18.UpgradeKeeps" = some 9 by kernel_rfl).symm.trans hf) |>.symm
      obtain rfl : fn = Tryd.f9 := (Option.some.inj ((Tryd.func9).symm.trans hfn)).symm
      exact ⟨by kernel_rfl, fun j t ht => by
        rw [Tryd.params9] at ht
        have hm : t ∈ [39] := by simpa using Array.mem_of_getElem? ht
        have hall : ([39].all fun u => !Tryd.prog.wantsStandIn u) = true := by kernel_rfl
        exact (show Tryd.prog.wantsStandIn t = false by simpa using List.all_eq_true.1 hall t hm)⟩)
    (by kernel_rfl)
#print axioms card_holds
end upgradeKeeps
end Go.Proofs.YtglfebpgdghlfaaDoor.L
end
