/- Part 3 of the texts that the rows of this seat rest on, joined by a program: what its functions come to. Conditions: those that each theorem states. -/
import Derived.Test.YtggldnbhmebcpaaDoorQib
import Derived.Shelf.RegionOpenPlain
import Derived.Lib.Strings
import Derived.Lib.Slices
import Derived.Lib.Walk
import Derived.Lib.Builder
import Derived.Lib.AppendStr
import Derived.Lib.UnsafeStr
import Derived.Laws.Externs
import Derived.Laws.IdiomCopy
import Derived.Shelf.Strings.Builder1
import Derived.Shelf.Small.Utf8
import Derived.Shelf.Small.Wraps
import Derived.Shelf.Strings.BuilderF
import Derived.Shelf.Strings.BuilderK
import Derived.Shelf.Utf8.AppendRune
import Derived.Shelf.Strconv.Bsearch
import Derived.Shelf.Strconv.IsPrint
import Derived.Shelf.Strconv.IsPrint16
import Derived.Shelf.Strconv.IsPrint32
import Derived.Shelf.Strconv.Escaped
import Derived.Shelf.Strconv.Quoted
import Derived.Shelf.Strconv.Quote
import Derived.Shelf.Strconv.Itoa0
import Derived.Shelf.Strconv.Itoa1
import Derived.Shelf.LaysM
import Derived.Shelf.Strconv.Itoa2
import Derived.Shelf.Strconv.Itoa3
import Derived.Shelf.Strconv.Itoa4
import Derived.Shelf.Unicode.Decode
import Derived.Shelf.Unicode.DecodeSlow
import Derived.Shelf.Unicode.DecodeAny
import Derived.Ground.Names2Prog
import Derived.Shelf.Slices.Clone
import Derived.Shelf.Slices.SearchI
import Derived.Ground.SlgnProg
import Derived.Shelf.SlicesG.Clone
import Derived.Shelf.SlicesE.Clone
import Derived.Test.YtggldnbhmebcpaaDoorProg
import Derived.Deep.QuietTactic
import Derived.BigQuiet
import Derived.Deep.RegionHeld3
import Derived.Lib.AppendIntMem
import Derived.Lib.LaidTab
import Derived.Lib.ItoaLen
import Derived.StringKeys
set_option linter.unusedVariables false
set_option linter.unusedSimpArgs false
section
namespace Go.Proofs.YtggldnbhmebcpaaDoor.L
open Go.RowKit Go.ChangeShapes Go.WideShapes Go.Proofs.YtggldnbhmebcpaaDoorW.PrintWords Go.Proofs.YtggldnbhmebcpaaDoorW.PrintLast Go.Proofs.YtggldnbhmebcpaaDoorW.PrintMore
attribute [local go_sem] max2_int min2_int max_two min_two max_three min_three max_four min_four
theorem szBld : (Tryd.prog.info? 83).map (·.size) = some 2 := by kernel_rfl
theorem liesBld : liesAt Tryd.prog Tryd.prog.depth 83 (2 / Tryd.prog.cellsOf 83) 0 83 1 = true := by kernel_rfl
theorem infoB : (Tryd.prog.info? 5).map (fun i => (i.zero, i.size, i.bytes)) = some (some (.int .u8 0), 1, 1) := by kernel_rfl
theorem neB5 : 83 ≠ 5 := by decide
set_option maxHeartbeats 1000000 in
set_option maxRecDepth 100000 in
theorem ccheck_used (b : Nat) (w : World) (h0 : w.cell? ⟨b, 0, none⟩ = some (.pointer (some ⟨b, 0, none⟩))) :
    Calls Tryd.prog 63 #[.pointer (some ⟨b, 0, none⟩)] w fun e w' => e = .returned (.tuple #[]) ∧ w' = w := by
  obtain ⟨j, hj, _⟩ := Option.map_eq_some_iff.1 szBld
  have t72 := Tryd.underlying83
  have t70 := Tryd.underlying80
  go_enter Tryd.func63, Tryd.ntmps63
  go_wp2
  rw [Lib.run_neq_ptr_same w _ Tryd.underlying80 hj]
  go_wp2
  go_end0
  exact ⟨rfl, rfl⟩
set_option maxHeartbeats 1000000 in
set_option maxRecDepth 100000 in
theorem ccheck_fresh (b : Nat) (w : World) (h0 : w.cell? ⟨b, 0, none⟩ = some (.pointer none)) (hsh : w.shape? b = some (83, 2)) (hfz : w.frozen? ⟨b, 0, none⟩ = false) :
    Calls Tryd.prog 63 #[.pointer (some ⟨b, 0, none⟩)] w fun e w' => e = .returned (.tuple #[]) ∧ w' = w.setCell ⟨b, 0, none⟩ (.pointer (some ⟨b, 0, none⟩)) := by
  obtain ⟨j, hj, hjs⟩ := Option.map_eq_some_iff.1 szBld
  have t72 := Tryd.underlying83
  have t70 := Tryd.underlying80
  go_enter Tryd.func63, Tryd.ntmps63
  go_wp2
  rw [Lib.run_to_unsafe w ⟨b, 0, none⟩ Tryd.underlying80 Tryd.underlying118 hj (by rw [hjs]; decide) hsh (Nat.zero_lt_succ 1)]
  simp only [Result.andThen]
  rw [Oper.upon_value]
  go_wp2
  rw [run_callFunc_extern Tryd.func74 (by kernel_rfl) (by kernel_rfl) (by kernel_rfl) (e := Extern.AbiNoEscape.same) (by kernel_rfl)]
  rw [Lib.run_noEscape]
  simp only [Result.andThen]
  rw [Oper.upon_value]
  go_wp2
  rw [Lib.run_from_unsafe w ⟨b, 0, none⟩ Tryd.underlying118 Tryd.underlying80 hj hsh liesBld]
  simp only [Result.andThen]
  rw [Oper.upon_value]
  go_wp2
  go_end0
  exact ⟨rfl, rfl⟩
theorem ccheck_any (B b : Nat) (bs : List Value) (w : World) (h : Lib.IsBuilder 83 5 B b bs w) :
    Calls Tryd.prog 63 #[.pointer (some ⟨b, 0, none⟩)] w fun e w' => e = .returned (.tuple #[]) ∧ (Lib.BuilderAt 83 5 B b (.pointer (some ⟨b, 0, none⟩)) bs w' ∧ Below B w w') := by
  rcases h with h | h
  · refine (ccheck_fresh b w h.cell0 h.shape h.frozen0).mono ?_
    rintro e w' ⟨rfl, rfl⟩
    exact ⟨rfl, h.used _, (Below.refl B w).setCell (p := ⟨b, 0, none⟩) h.1 _⟩
  · refine (ccheck_used b w h.cell0).mono ?_
    rintro e w' ⟨rfl, rfl⟩
    exact ⟨rfl, h, Below.refl B _⟩
set_option maxHeartbeats 2000000 in
set_option maxRecDepth 100000 in
theorem wstr_any (B b : Nat) (bs : List Value) (s : ByteArray) (w : World) (h : Lib.IsBuilder 83 5 B b bs w) (hlen : bs.length + s.size ≤ 140737488355328) (hBw : B ≤ w.heap.size) :
    Calls Tryd.prog 47 #[.pointer (some ⟨b, 0, none⟩), .string s] w fun e w' => e = .returned (.tuple #[.int .i64 s.size, .nilIface]) ∧ (Lib.BuilderAt 83 5 B b (.pointer (some ⟨b, 0, none⟩)) (bs ++ Lib.strCells s) w' ∧ Below B w w') := by
  obtain ⟨i0, hi, hz0, hz1, hz2⟩ := info_parts infoB
  have t72 := Tryd.underlying83
  have t70 := Tryd.underlying80
  have t37 := Tryd.underlying81
  have t5 := Tryd.underlying5
  go_enter Tryd.func47, Tryd.ntmps47
  go_wp2_with (go_at_call 63; refine (ccheck_any B b bs _ h).mono ?_)
  rintro e w1 ⟨rfl, h1, hb1⟩
  obtain ⟨hB, v, hbk, hown, hne⟩ := h1
  have c0 : w1.cell? ⟨b, 0, none⟩ = some (.pointer (some ⟨b, 0, none⟩)) := by rw [Lib.cell_of_heap hbk]; rfl
  have c1 : w1.cell? ⟨b, 1, none⟩ = some v := by rw [Lib.cell_of_heap hbk]; rfl
  go_wp2_with (at_builtin; refine Lib.wpList_append_own_string _ rfl _ _ 81 9 rfl B 5 i0 Tryd.underlying81 Tryd.underlying9 hi hz0 hz1 hz2 _ _ _ rfl hown s rfl ?c3 ?c4 ?c5 ?_)
  case c3 => unfold maxLen; omega
  case c4 => omega
  case c5 => have := hb1.size; omega
  intro v' w2 hown' hgrow _
  have hlt : b < w1.heap.size := by
    rcases Nat.lt_or_ge b w1.heap.size with h' | h'
    · exact h'
    · simp [Array.getElem?_eq_none h'] at hbk
  have hb2 : w2.heap[b]? = some (.cells #[.pointer (some ⟨b, 0, none⟩), v] 83 (0, 0)) := by
    rw [hgrow.block b hlt (fun e => hne e.symm)]
    exact hbk
  have d0 : w2.cell? ⟨b, 0, none⟩ = some (.pointer (some ⟨b, 0, none⟩)) := by rw [Lib.cell_of_heap hb2]; rfl
  have d1 : w2.cell? ⟨b, 1, none⟩ = some v := by rw [Lib.cell_of_heap hb2]; rfl
  have f1 : w2.frozen? ⟨b, 1, none⟩ = false := Lib.frozen_of_heap hb2 1
  obtain ⟨ao, n', cap, rfl⟩ : ∃ ao n' cap, v' = .slice ao n' cap := by
    rcases hown'.2 with ⟨hv, _⟩ | ⟨g, cap, cur, hv, _⟩
    · exact ⟨_, _, _, hv⟩
    · exact ⟨_, _, _, hv⟩
  go_wp2
  go_ret2
  refine ⟨rfl, ?_, ?_⟩
  · exact Lib.BuilderAt.put (T := 83) (e := 5) hB hb2 (bs' := bs ++ Lib.strCells s) (by simpa [Lib.strCells_length] using hown') neB5
  · exact (hb1.grown hgrow (by have := hb1.size; omega) (fun k hk => (hown.lt k hk).1)).setCell (p := ⟨b, 1, none⟩) hB _
end Go.Proofs.YtggldnbhmebcpaaDoor.L
end
section
namespace Go.Proofs
open Go.Shelf
def Tryd.lays169_ren : Go.Shelf.Ren := ⟨fun | 169 => 50 | n => n, fun | 70 => 80 | 9 => 9 | 0 => 0 | 72 => 83 | 37 => 81 | 127 => 102 | 3 => 3 | 5 => 5 | n => n, fun | n => n⟩
theorem Tryd.lays169 : Go.Proofs.Lays.n169 Tryd.prog Tryd.lays169_ren := {
  mixed := by kernel_rfl
  f169 := Tryd.func50.trans (congrArg some (by kernel_rfl))
  t0 := Tryd.underlying0
  a0 := Tryd.isAgg0
  z0 := Tryd.sizeOf0
  v0 := Tryd.zeroValue0
  t3 := Tryd.underlying3
  a3 := Tryd.isAgg3
  z3 := Tryd.sizeOf3
  v3 := Tryd.zeroValue3
  t9 := Tryd.underlying9
  a9 := Tryd.isAgg9
  z9 := Tryd.sizeOf9
  v9 := Tryd.zeroValue9
  t37 := Tryd.underlying81
  a37 := Tryd.isAgg81
  z37 := Tryd.sizeOf81
  v37 := Tryd.zeroValue81
  t70 := Tryd.underlying80
  a70 := Tryd.isAgg80
  z70 := Tryd.sizeOf80
  v70 := Tryd.zeroValue80
  t72 := Tryd.underlying83
  a72 := Tryd.isAgg83
  z72 := Tryd.sizeOf83
  v72 := Tryd.zeroValue83
  t127 := Tryd.underlying102
  a127 := Tryd.isAgg102
  z127 := Tryd.sizeOf102
  v127 := Tryd.zeroValue102 }
theorem Tryd.Builder_Extra_169 : Builder.Extra Tryd.prog Tryd.lays169_ren := {
  sizeBuilder := by kernel_rfl
  liesBuilder := by kernel_rfl
  t5 := Tryd.underlying5
  a5 := Tryd.isAgg5
  z5 := Tryd.sizeOf5
  v5 := Tryd.zeroValue5
  infoByte := by kernel_rfl
  cellsByte := by kernel_rfl
  sizeByte := by kernel_rfl
  neB5 := by decide }
open Go.RowKit in
theorem Tryd.Builder_String_any (B b : Nat) (l : List UInt8) (w : World) (h : Lib.IsBuilder 83 5 B b (Lib.byteCells l) w) (hBw : B ≤ w.heap.size) :
    Calls Tryd.prog 50 #[.pointer (some ⟨b, 0, none⟩)] w fun e w' => e = .returned (.string ⟨l.toArray⟩) ∧ Below B w w' := Any.Builder_String_any Tryd.lays169 Tryd.Builder_Extra_169 B b l w h hBw
def Tryd.lays339_ren : Go.Shelf.Ren := ⟨fun | 339 => 93 | 345 => 97 | 346 => 98 | n => n, fun | 21 => 21 | 4 => 4 | 49 => 145 | 234 => 146 | 131 => 71 | 3 => 3 | 0 => 0 | 51 => 124 | 236 => 148 | 46 => 126 | n => n, fun | 20 => 5 | 21 => 6 | 22 => 7 | 23 => 8 | n => n⟩
theorem Tryd.lays339 : Go.Proofs.Lays.n339 Tryd.prog Tryd.lays339_ren := {
  mixed := by kernel_rfl
  f339 := Tryd.func93.trans (congrArg some (by kernel_rfl))
  f345 := Tryd.func97.trans (congrArg some (by kernel_rfl))
  f346 := Tryd.func98.trans (congrArg some (by kernel_rfl))
  t0 := Tryd.underlying0
  a0 := Tryd.isAgg0
  z0 := Tryd.sizeOf0
  v0 := Tryd.zeroValue0
  t3 := Tryd.underlying3
  a3 := Tryd.isAgg3
  z3 := Tryd.sizeOf3
  v3 := Tryd.zeroValue3
  t4 := Tryd.underlying4
  a4 := Tryd.isAgg4
  z4 := Tryd.sizeOf4
  v4 := Tryd.zeroValue4
  t21 := Tryd.underlying21
  a21 := Tryd.isAgg21
  z21 := Tryd.sizeOf21
  v21 := Tryd.zeroValue21
  t46 := Tryd.underlying126
  a46 := Tryd.isAgg126
  z46 := Tryd.sizeOf126
  v46 := Tryd.zeroValue126
  t49 := Tryd.underlying145
  a49 := Tryd.isAgg145
  z49 := Tryd.sizeOf145
  v49 := Tryd.zeroValue145
  t51 := Tryd.underlying124
  a51 := Tryd.isAgg124
  z51 := Tryd.sizeOf124
  v51 := Tryd.zeroValue124
  t131 := Tryd.underlying71
  a131 := Tryd.isAgg71
  z131 := Tryd.sizeOf71
  v131 := Tryd.zeroValue71
  t234 := Tryd.underlying146
  a234 := Tryd.isAgg146
  z234 := Tryd.sizeOf146
  v234 := Tryd.zeroValue146
  t236 := Tryd.underlying148
  a236 := Tryd.isAgg148
  z236 := Tryd.sizeOf148
  v236 := Tryd.zeroValue148
  g20 := by kernel_rfl
  g21 := by kernel_rfl
  g22 := by kernel_rfl
  g23 := by kernel_rfl }
def Tryd.lays177_ren : Go.Shelf.Ren := ⟨fun | 177 => 49 | 250 => 64 | 289 => 75 | 197 => 86 | 323 => 87 | 260 => 92 | 339 => 93 | 340 => 94 | 242 => 95 | 119 => 96 | 345 => 97 | 346 => 98 | 278 => 99 | n => n, fun | 9 => 9 | 5 => 5 | 4 => 4 | 3 => 3 | 37 => 81 | 21 => 21 | 105 => 128 | 46 => 126 | 119 => 141 | 0 => 0 | 139 => 144 | 138 => 143 | 49 => 145 | 234 => 146 | 131 => 71 | 51 => 124 | 236 => 148 | n => n, fun | 3 => 3 | 4 => 4 | 20 => 5 | 21 => 6 | 22 => 7 | 23 => 8 | 24 => 9 | n => n⟩
theorem Tryd.lays177 : Go.Proofs.Lays.n177 Tryd.prog Tryd.lays177_ren := {
  mixed := by kernel_rfl
  f119 := Tryd.func96.trans (congrArg some (by kernel_rfl))
  f177 := Tryd.func49.trans (congrArg some (by kernel_rfl))
  f197 := Tryd.func86.trans (congrArg some (by kernel_rfl))
  f242 := Tryd.func95.trans (congrArg some (by kernel_rfl))
  f250 := Tryd.func64.trans (congrArg some (by kernel_rfl))
  f260 := Tryd.func92.trans (congrArg some (by kernel_rfl))
  f278 := Tryd.func99.trans (congrArg some (by kernel_rfl))
  f289 := Tryd.func75.trans (congrArg some (by kernel_rfl))
  f323 := Tryd.func87.trans (congrArg some (by kernel_rfl))
  f339 := Tryd.func93.trans (congrArg some (by kernel_rfl))
  f340 := Tryd.func94.trans (congrArg some (by kernel_rfl))
  f345 := Tryd.func97.trans (congrArg some (by kernel_rfl))
  f346 := Tryd.func98.trans (congrArg some (by kernel_rfl))
  t0 := Tryd.underlying0
  a0 := Tryd.isAgg0
  z0 := Tryd.sizeOf0
  v0 := Tryd.zeroValue0
  t3 := Tryd.underlying3
  a3 := Tryd.isAgg3
  z3 := Tryd.sizeOf3
  v3 := Tryd.zeroValue3
  t4 := Tryd.underlying4
  a4 := Tryd.isAgg4
  z4 := Tryd.sizeOf4
  v4 := Tryd.zeroValue4
  t5 := Tryd.underlying5
  a5 := Tryd.isAgg5
  z5 := Tryd.sizeOf5
  v5 := Tryd.zeroValue5
  t9 := Tryd.underlying9
  a9 := Tryd.isAgg9
  z9 := Tryd.sizeOf9
  v9 := Tryd.zeroValue9
  t21 := Tryd.underlying21
  a21 := Tryd.isAgg21
  z21 := Tryd.sizeOf21
  v21 := Tryd.zeroValue21
  t37 := Tryd.underlying81
  a37 := Tryd.isAgg81
  z37 := Tryd.sizeOf81
  v37 := Tryd.zeroValue81
  t46 := Tryd.underlying126
  a46 := Tryd.isAgg126
  z46 := Tryd.sizeOf126
  v46 := Tryd.zeroValue126
  t49 := Tryd.underlying145
  a49 := Tryd.isAgg145
  z49 := Tryd.sizeOf145
  v49 := Tryd.zeroValue145
  t51 := Tryd.underlying124
  a51 := Tryd.isAgg124
  z51 := Tryd.sizeOf124
  v51 := Tryd.zeroValue124
  t105 := Tryd.underlying128
  a105 := Tryd.isAgg128
  z105 := Tryd.sizeOf128
  v105 := Tryd.zeroValue128
  t119 := Tryd.underlying141
  a119 := Tryd.isAgg141
  z119 := Tryd.sizeOf141
  t131 := Tryd.underlying71
  a131 := Tryd.isAgg71
  z131 := Tryd.sizeOf71
  v131 := Tryd.zeroValue71
  t138 := Tryd.underlying143
  a138 := Tryd.isAgg143
  z138 := Tryd.sizeOf143
  v138 := Tryd.zeroValue143
  t139 := Tryd.underlying144
  a139 := Tryd.isAgg144
  z139 := Tryd.sizeOf144
  v139 := Tryd.zeroValue144
  t234 := Tryd.underlying146
  a234 := Tryd.isAgg146
  z234 := Tryd.sizeOf146
  v234 := Tryd.zeroValue146
  t236 := Tryd.underlying148
  a236 := Tryd.isAgg148
  z236 := Tryd.sizeOf148
  v236 := Tryd.zeroValue148
  g3 := by kernel_rfl
  g4 := by kernel_rfl
  g20 := by kernel_rfl
  g21 := by kernel_rfl
  g22 := by kernel_rfl
  g23 := by kernel_rfl
  g24 := by kernel_rfl }
open Go.RowKit in
theorem Tryd.strconv_Quote (T : Lib.PrintTabs) (s : ByteArray) (w : World) (hlen : 10 * s.size + 12 ≤ 140737488355328) (hT : Lib.PrintTabsAt 5 6 7 8 T w) (hU : Lib.Utf8Tabs 3 4 w) :
    Calls Tryd.prog 49 #[.string s] w fun e w' => e = .returned (.string (strOfNums (Lib.quoteZ T s))) ∧ Below w.heap.size w w' := Any.strconv_Quote Tryd.lays177 (by kernel_rfl) T s w hlen hT hU
def Tryd.laysM171_ren : Go.Shelf.Ren := ⟨fun | 171 => 24 | 243 => 38 | 246 => 51 | 283 => 65 | 284 => 66 | 285 => 67 | 286 => 68 | 129 => 77 | 317 => 76 | 318 => 78 | 319 => 79 | 320 => 80 | 337 => 88 | 338 => 89 | n => n, fun | 3 => 3 | 9 => 9 | 2 => 2 | 4 => 4 | 171 => 103 | 0 => 0 | 53 => 104 | 37 => 81 | 5 => 5 | 173 => 107 | 212 => 123 | 51 => 124 | 20 => 20 | 213 => 125 | 46 => 126 | 232 => 139 | 233 => 140 | n => n, fun | 17 => 0 | 18 => 1 | 19 => 2 | n => n⟩
theorem Tryd.laysM171 : Go.Proofs.LaysM.n171 Tryd.prog Tryd.laysM171_ren := {
  mixed := by kernel_rfl
  f129 := Tryd.func77.trans (congrArg some (by kernel_rfl))
  f171 := Tryd.func24.trans (congrArg some (by kernel_rfl))
  f243 := Tryd.func38.trans (congrArg some (by kernel_rfl))
  f246 := Tryd.func51.trans (congrArg some (by kernel_rfl))
  f283 := Tryd.func65.trans (congrArg some (by kernel_rfl))
  f284 := Tryd.func66.trans (congrArg some (by kernel_rfl))
  f285 := Tryd.func67.trans (congrArg some (by kernel_rfl))
  f286 := Tryd.func68.trans (congrArg some (by kernel_rfl))
  f317 := Tryd.func76.trans (congrArg some (by kernel_rfl))
  f318 := Tryd.func78.trans (congrArg some (by kernel_rfl))
  f319 := Tryd.func79.trans (congrArg some (by kernel_rfl))
  f320 := Tryd.func80.trans (congrArg some (by kernel_rfl))
  f337 := Tryd.func88.trans (congrArg some (by kernel_rfl))
  f338 := Tryd.func89.trans (congrArg some (by kernel_rfl))
  t0 := Tryd.underlying0
  a0 := Tryd.isAgg0
  z0 := Tryd.sizeOf0
  v0 := Tryd.zeroValue0
  t2 := Tryd.underlying2
  a2 := Tryd.isAgg2
  z2 := Tryd.sizeOf2
  v2 := Tryd.zeroValue2
  t3 := Tryd.underlying3
  a3 := Tryd.isAgg3
  z3 := Tryd.sizeOf3
  v3 := Tryd.zeroValue3
  t4 := Tryd.underlying4
  a4 := Tryd.isAgg4
  z4 := Tryd.sizeOf4
  v4 := Tryd.zeroValue4
  t5 := Tryd.underlying5
  a5 := Tryd.isAgg5
  z5 := Tryd.sizeOf5
  v5 := Tryd.zeroValue5
  t9 := Tryd.underlying9
  a9 := Tryd.isAgg9
  z9 := Tryd.sizeOf9
  v9 := Tryd.zeroValue9
  t20 := Tryd.underlying20
  a20 := Tryd.isAgg20
  z20 := Tryd.sizeOf20
  v20 := Tryd.zeroValue20
  t37 := Tryd.underlying81
  a37 := Tryd.isAgg81
  z37 := Tryd.sizeOf81
  v37 := Tryd.zeroValue81
  t46 := Tryd.underlying126
  a46 := Tryd.isAgg126
  z46 := Tryd.sizeOf126
  v46 := Tryd.zeroValue126
  t51 := Tryd.underlying124
  a51 := Tryd.isAgg124
  z51 := Tryd.sizeOf124
  v51 := Tryd.zeroValue124
  t53 := Tryd.underlying104
  a53 := Tryd.isAgg104
  z53 := Tryd.sizeOf104
  v53 := Tryd.zeroValue104
  t171 := Tryd.underlying103
  a171 := Tryd.isAgg103
  z171 := Tryd.sizeOf103
  v171 := Tryd.zeroValue103
  t173 := Tryd.underlying107
  a173 := Tryd.isAgg107
  z173 := Tryd.sizeOf107
  v173 := Tryd.zeroValue107
  t212 := Tryd.underlying123
  a212 := Tryd.isAgg123
  z212 := Tryd.sizeOf123
  v212 := Tryd.zeroValue123
  t213 := Tryd.underlying125
  a213 := Tryd.isAgg125
  z213 := Tryd.sizeOf125
  t232 := Tryd.underlying139
  a232 := Tryd.isAgg139
  z232 := Tryd.sizeOf139
  v232 := Tryd.zeroValue139
  t233 := Tryd.underlying140
  a233 := Tryd.isAgg140
  z233 := Tryd.sizeOf140
  v233 := Tryd.zeroValue140
  g17 := by kernel_rfl
  g18 := by kernel_rfl
  g19 := by kernel_rfl
  i0 := by kernel_rfl
  i2 := by kernel_rfl
  i3 := by kernel_rfl
  i4 := by kernel_rfl
  i5 := by kernel_rfl
  i9 := by kernel_rfl
  i20 := by kernel_rfl
  i37 := by kernel_rfl
  i46 := by kernel_rfl
  i51 := by kernel_rfl
  i53 := by kernel_rfl
  i171 := by kernel_rfl
  i173 := by kernel_rfl
  i212 := by kernel_rfl
  i232 := by kernel_rfl
  i233 := by kernel_rfl
  m17 := by kernel_rfl
  m18 := by kernel_rfl
  m19 := by kernel_rfl }
open Go.RowKit Go.Sort Go.Lib in
theorem Tryd.strconv_Itoa (n : Int) (h0 : -9223372036854775808 ≤ n) (h1 : n ≤ 9223372036854775807) (w : World) (htab : Lib.TabIs Tryd.prog w "internal/strconv.uint64pow10" .u64 Lib.pow10Tab) :
    Calls Tryd.prog 24 #[.int .i64 n] w fun e w' => e = .returned (.string ⟨(Lib.itoa n).toArray⟩) ∧ ∃ k os, w' = grow (w.drewN k) os := Any.strconv_Itoa Tryd.laysM171 n h0 h1 w htab
def Tryd.laysM173_ren : Go.Shelf.Ren := ⟨fun | 173 => 48 | 246 => 51 | 283 => 65 | 284 => 66 | 285 => 67 | 286 => 68 | 129 => 77 | 317 => 76 | 318 => 78 | 319 => 79 | 320 => 80 | 337 => 88 | 338 => 89 | n => n, fun | 2 => 2 | 3 => 3 | 9 => 9 | 4 => 4 | 171 => 103 | 0 => 0 | 53 => 104 | 37 => 81 | 5 => 5 | 173 => 107 | 212 => 123 | 51 => 124 | 20 => 20 | 213 => 125 | 46 => 126 | 232 => 139 | 233 => 140 | n => n, fun | 17 => 0 | 18 => 1 | 19 => 2 | n => n⟩
theorem Tryd.laysM173 : Go.Proofs.LaysM.n173 Tryd.prog Tryd.laysM173_ren := {
  mixed := by kernel_rfl
  f129 := Tryd.func77.trans (congrArg some (by kernel_rfl))
  f173 := Tryd.func48.trans (congrArg some (by kernel_rfl))
  f246 := Tryd.func51.trans (congrArg some (by kernel_rfl))
  f283 := Tryd.func65.trans (congrArg some (by kernel_rfl))
  f284 := Tryd.func66.trans (congrArg some (by kernel_rfl))
  f285 := Tryd.func67.trans (congrArg some (by kernel_rfl))
  f286 := Tryd.func68.trans (congrArg some (by kernel_rfl))
  f317 := Tryd.func76.trans (congrArg some (by kernel_rfl))
  f318 := Tryd.func78.trans (congrArg some (by kernel_rfl))
  f319 := Tryd.func79.trans (congrArg some (by kernel_rfl))
  f320 := Tryd.func80.trans (congrArg some (by kernel_rfl))
  f337 := Tryd.func88.trans (congrArg some (by kernel_rfl))
  f338 := Tryd.func89.trans (congrArg some (by kernel_rfl))
  t0 := Tryd.underlying0
  a0 := Tryd.isAgg0
  z0 := Tryd.sizeOf0
  v0 := Tryd.zeroValue0
  t2 := Tryd.underlying2
  a2 := Tryd.isAgg2
  z2 := Tryd.sizeOf2
  v2 := Tryd.zeroValue2
  t3 := Tryd.underlying3
  a3 := Tryd.isAgg3
  z3 := Tryd.sizeOf3
  v3 := Tryd.zeroValue3
  t4 := Tryd.underlying4
  a4 := Tryd.isAgg4
  z4 := Tryd.sizeOf4
  v4 := Tryd.zeroValue4
  t5 := Tryd.underlying5
  a5 := Tryd.isAgg5
  z5 := Tryd.sizeOf5
  v5 := Tryd.zeroValue5
  t9 := Tryd.underlying9
  a9 := Tryd.isAgg9
  z9 := Tryd.sizeOf9
  v9 := Tryd.zeroValue9
  t20 := Tryd.underlying20
  a20 := Tryd.isAgg20
  z20 := Tryd.sizeOf20
  v20 := Tryd.zeroValue20
  t37 := Tryd.underlying81
  a37 := Tryd.isAgg81
  z37 := Tryd.sizeOf81
  v37 := Tryd.zeroValue81
  t46 := Tryd.underlying126
  a46 := Tryd.isAgg126
  z46 := Tryd.sizeOf126
  v46 := Tryd.zeroValue126
  t51 := Tryd.underlying124
  a51 := Tryd.isAgg124
  z51 := Tryd.sizeOf124
  v51 := Tryd.zeroValue124
  t53 := Tryd.underlying104
  a53 := Tryd.isAgg104
  z53 := Tryd.sizeOf104
  v53 := Tryd.zeroValue104
  t171 := Tryd.underlying103
  a171 := Tryd.isAgg103
  z171 := Tryd.sizeOf103
  v171 := Tryd.zeroValue103
  t173 := Tryd.underlying107
  a173 := Tryd.isAgg107
  z173 := Tryd.sizeOf107
  v173 := Tryd.zeroValue107
  t212 := Tryd.underlying123
  a212 := Tryd.isAgg123
  z212 := Tryd.sizeOf123
  v212 := Tryd.zeroValue123
  t213 := Tryd.underlying125
  a213 := Tryd.isAgg125
  z213 := Tryd.sizeOf125
  t232 := Tryd.underlying139
  a232 := Tryd.isAgg139
  z232 := Tryd.sizeOf139
  v232 := Tryd.zeroValue139
  t233 := Tryd.underlying140
  a233 := Tryd.isAgg140
  z233 := Tryd.sizeOf140
  v233 := Tryd.zeroValue140
  g17 := by kernel_rfl
  g18 := by kernel_rfl
  g19 := by kernel_rfl
  i0 := by kernel_rfl
  i2 := by kernel_rfl
  i3 := by kernel_rfl
  i4 := by kernel_rfl
  i5 := by kernel_rfl
  i9 := by kernel_rfl
  i20 := by kernel_rfl
  i37 := by kernel_rfl
  i46 := by kernel_rfl
  i51 := by kernel_rfl
  i53 := by kernel_rfl
  i171 := by kernel_rfl
  i173 := by kernel_rfl
  i212 := by kernel_rfl
  i232 := by kernel_rfl
  i233 := by kernel_rfl
  m17 := by kernel_rfl
  m18 := by kernel_rfl
  m19 := by kernel_rfl }
open Go.RowKit Go.Sort Go.Lib in
theorem Tryd.strconv_FormatInt_10 (n : Int) (h0 : -9223372036854775808 ≤ n) (h1 : n ≤ 9223372036854775807) (w : World) (htab : Lib.TabIs Tryd.prog w "internal/strconv.uint64pow10" .u64 Lib.pow10Tab) :
    Calls Tryd.prog 48 #[.int .i64 n, .int .i64 10] w fun e w' => e = .returned (.string ⟨(Lib.itoa n).toArray⟩) ∧ ∃ k os, w' = grow (w.drewN k) os := Any.strconv_FormatInt_10 Tryd.laysM173 n h0 h1 w htab
def Tryd.lays260_ren : Go.Shelf.Ren := ⟨fun | 260 => 92 | n => n, fun | 9 => 9 | 21 => 21 | 3 => 3 | 4 => 4 | 5 => 5 | 119 => 141 | 0 => 0 | 46 => 126 | 139 => 144 | 138 => 143 | n => n, fun | 3 => 3 | 4 => 4 | n => n⟩
theorem Tryd.lays260 : Go.Proofs.Lays.n260 Tryd.prog Tryd.lays260_ren := {
  mixed := by kernel_rfl
  f260 := Tryd.func92.trans (congrArg some (by kernel_rfl))
  t0 := Tryd.underlying0
  a0 := Tryd.isAgg0
  z0 := Tryd.sizeOf0
  v0 := Tryd.zeroValue0
  t3 := Tryd.underlying3
  a3 := Tryd.isAgg3
  z3 := Tryd.sizeOf3
  v3 := Tryd.zeroValue3
  t4 := Tryd.underlying4
  a4 := Tryd.isAgg4
  z4 := Tryd.sizeOf4
  v4 := Tryd.zeroValue4
  t5 := Tryd.underlying5
  a5 := Tryd.isAgg5
  z5 := Tryd.sizeOf5
  v5 := Tryd.zeroValue5
  t9 := Tryd.underlying9
  a9 := Tryd.isAgg9
  z9 := Tryd.sizeOf9
  v9 := Tryd.zeroValue9
  t21 := Tryd.underlying21
  a21 := Tryd.isAgg21
  z21 := Tryd.sizeOf21
  v21 := Tryd.zeroValue21
  t46 := Tryd.underlying126
  a46 := Tryd.isAgg126
  z46 := Tryd.sizeOf126
  v46 := Tryd.zeroValue126
  t119 := Tryd.underlying141
  a119 := Tryd.isAgg141
  z119 := Tryd.sizeOf141
  t138 := Tryd.underlying143
  a138 := Tryd.isAgg143
  z138 := Tryd.sizeOf143
  v138 := Tryd.zeroValue143
  t139 := Tryd.underlying144
  a139 := Tryd.isAgg144
  z139 := Tryd.sizeOf144
  v139 := Tryd.zeroValue144
  g3 := by kernel_rfl
  g4 := by kernel_rfl }
def Tryd.laysNm231_ren : Go.Shelf.Ren := ⟨fun | 31 => 59 | 37 => 73 | n => n, fun | 3 => 3 | 4 => 4 | n => n, fun | n => n⟩
theorem Tryd.laysNm231 : Go.Proofs.Lays2.n31 Tryd.prog Tryd.laysNm231_ren := {
  mixed := by kernel_rfl
  f31 := Tryd.func59.trans (congrArg some (by kernel_rfl))
  f37 := Tryd.func73.trans (congrArg some (by kernel_rfl))
  t3 := Tryd.underlying3
  a3 := Tryd.isAgg3
  z3 := Tryd.sizeOf3
  v3 := Tryd.zeroValue3
  t4 := Tryd.underlying4
  a4 := Tryd.isAgg4
  z4 := Tryd.sizeOf4
  v4 := Tryd.zeroValue4 }
open Go.RowKit Go.Lib in
theorem Tryd.cmp_Less_int2 (x y : Int) (w : World) :
    Calls Tryd.prog 59 #[.int .i64 x, .int .i64 y] w fun e w' => e = .returned (.bool (decide (x < y))) ∧ w' = w := Any.cmp_Less_int2 Tryd.laysNm231 x y w
end Go.Proofs
end
section
namespace Go.Proofs.YtggldnbhmebcpaaDoor.L
open Go.RowKit Go.ChangeShapes Go.WideShapes Go.Proofs.YtggldnbhmebcpaaDoorW.PrintWords Go.Proofs.YtggldnbhmebcpaaDoorW.PrintLast Go.Proofs.YtggldnbhmebcpaaDoorW.PrintMore
attribute [local go_sem] max2_int min2_int max_two min_two max_three min_three max_four min_four
def iota (n : Nat) : List Int := (List.range n).map (fun p : Nat => (p : Int))
theorem iota_len (n : Nat) : (iota n).length = n := by simp [iota]
theorem iota_rd (n i : Nat) (h : i < n) : rd (iota n) (i : Int) = (i : Int) := by
  rw [rd_eq (by rw [iota_len]; exact h)]
  simp [iota]
set_option maxRecDepth 100000 in
set_option maxHeartbeats 2000000 in
theorem sorted_iota (A : Option Addr) (c n : Nat) (w : World) (h : (Kd.int .i64).C w A n (iota n)) (hn : n ≤ 1000000) :
    Calls Tryd.prog 45 #[.slice A n c] w fun e w' => e = .returned (.bool true) ∧ Below w.heap.size w w' := by
  have HR := Aside0.mk h
  have HB := Aside0.mk (Below.refl w.heap.size w)
  clear h
  go_enter Tryd.func45, Tryd.ntmps45
  go_wp2
  go_loopw [3] (fun v3 W => ∃ i : Int, -1 ≤ i ∧ i < n ∧ v3 = .int .i64 i ∧ Aside0 (Below w.heap.size w W)) (fun v3 _ => (intOf v3).toNat)
  case atStart => exact ⟨(n : Int) - 1, by omega, by omega, by go_num, HB⟩
  case round =>
    obtain ⟨i, h0, h1, rfl, HW⟩ := hrel
    by_cases hp : 0 < i
    · obtain ⟨j, rfl⟩ : ∃ j : Nat, i = (j : Int) + 1 := ⟨(i - 1).toNat, by omega⟩
      have HRw := Aside0.mk (Kd.C_below HR.out HW.out)
      obtain ⟨ad, rfl, x0⟩ := at_nat HRw.out j (by omega)
      obtain ⟨ad', he, x1⟩ := at_nat HRw.out (j + 1) (by omega)
      injection he with he
      subst he
      rw [iota_rd n j (by omega)] at x0
      rw [iota_rd n (j + 1) (by omega)] at x1
      have d1 : decide ((j : Int) + 1 < (j : Int)) = false := decide_eq_false (by omega)
      have hw1 : IntKind.i64.wrap ((j : Int) + 1 - 1) = (j : Int) := by rw [wrap_i (by omega) (by omega)]; omega
      push_cast at x1
      replace x1 : wr.cell? ⟨ad.block, ad.off + (j + 1), none⟩ = some (.int .i64 ((j : Int) + 1)) := x1
      have b1 : (0 : Int) ≤ (j : Int) + 1 := by omega
      have b2 : (j : Int) + 1 < (n : Int) := by omega
      have b3 : (j : Int) < (n : Int) := by omega
      have d0 : decide (0 < (j : Int) + 1) = true := decide_eq_true (by omega)
      go_wp2
      go_quiet (first | (go_at_call 59; refine Calls.quiet_of_same (Tryd.cmp_Less_int2 _ _ _)))
      go_wp2
      go_roundw
      case rel => exact ⟨(j : Int), by omega, by omega, by go_num, ⟨below_step HW.out (pw_below_drewN (Below.refl _ _) nq)⟩⟩
      case measure => simp [intOf]
    · have d : decide (0 < i) = false := decide_eq_false hp
      go_wp2
      go_ret
      exact ⟨rfl, HW.out⟩

noncomputable def isC (s : Scene) : Bool := decide (nums s = iota (nums s).length ∧ 0 < (nums s).length)
theorem iota_of {l : List Int} (h : ∀ j : Nat, j < l.length → rd l (j : Int) = (j : Int)) : l = iota l.length := by
  refine List.ext_getElem (iota_len _).symm (fun i h1 h2 => ?_)
  rw [← rd_eq h1, ← rd_eq h2, h i h1, iota_rd _ _ h1]
theorem isC_bad {s : Scene} {i : Nat} (hi : i < (nums s).length) (h : ¬ rd (nums s) (i : Int) = (i : Int)) : isC s = false := by
  unfold isC
  refine decide_eq_false (fun hh => h ?_)
  rw [hh.1, iota_rd _ _ hi]
set_option maxRecDepth 100000 in
set_option maxHeartbeats 4000000 in
theorem is_any (A : Option Addr) (c : Nat) (s : Scene) (w : World) (h : kNode.C w A s.nodes.length s.nodes) (hM : rows s.nodes ≤ 400000) :
    Calls Tryd.prog 36 #[.agg #[.slice A s.nodes.length c, .int .i64 s.root]] w fun e w' => e = .returned (.bool (isC s)) ∧ Below w.heap.size w w' := by
  have HR := Aside0.mk h
  have HM := Aside0.mk hM
  have b0 := h.2.1
  have HB := Aside0.mk (below_alloc (Below.refl w.heap.size w) (.cells #[.slice A s.nodes.length c, .int .i64 s.root] 24))
  have k0 := box_cell w _ rfl #[.slice A s.nodes.length c, .int .i64 s.root] 24 0 _ rfl
  have k1 := box_cell w _ rfl #[.slice A s.nodes.length c, .int .i64 s.root] 24 1 _ rfl
  have hu := Tryd.underlying24
  have hnl : (nums s).length ≤ 400000 := by
    unfold nums
    split
    · rw [numsL_len]; exact Nat.le_trans (len_rows _) hM
    · simp
  clear h hM
  go_enter Tryd.func36, Tryd.ntmps36
  go_wp2_with fail
  refine (numbers_canon A c s _ (Kd.C_below HR.out HB.out) HM.out).mono ?_
  rintro e w1 ⟨A1, c1, rfl, hR1, hB1⟩
  have HB1 := Aside0.mk (below_step HB.out hB1)
  have HR1 := Aside0.mk (Kd.R_reads' hR1).2.2
  clear hB1 hR1 k0 k1
  go_wp2
  go_loopw [10] (fun v10 W => ∃ i : Nat, i ≤ (nums s).length ∧ v10 = .int .i64 i ∧ Aside0 (∀ j : Nat, j < i → rd (nums s) (j : Int) = (j : Int)) ∧ W = w1) (fun v10 _ => (nums s).length - (intOf v10).toNat)
  case atStart => exact ⟨0, by omega, rfl, ⟨fun j h => by omega⟩, rfl⟩
  case round =>
    obtain ⟨i, hi, rfl, HI, rfl⟩ := hrel
    by_cases hlt : i < (nums s).length
    · obtain ⟨ad, rfl, x⟩ := at_nat HR1.out i hlt
      by_cases he : rd (nums s) (i : Int) = (i : Int)
      · have HN := Aside0.mk (ext_lt HI.out he)
        rw [he] at x
        clear he
        go_wp2
        go_roundw
        case rel => exact ⟨i + 1, by omega, by go_num, HN, by first | rfl | trivial⟩
        case measure => simp [intOf]; omega
      · have HE := Aside0.mk (isC_bad hlt he)
        have d : ((i : Int) != rd (nums s) (i : Int)) = true := by simpa using fun h => he h.symm
        clear he
        go_wp2
        go_ret
        exact ⟨ret_bool HE.out.symm, HB1.out⟩
    · obtain rfl : i = (nums s).length := by omega
      have HE := Aside0.mk (iota_of HI.out)
      by_cases hp : 0 < (nums s).length
      · have HC := Aside0.mk (show isC s = true from decide_eq_true ⟨HE.out, hp⟩)
        have d : decide (0 < ((nums s).length : Int)) = true := decide_eq_true (by omega)
        have HI2 := Aside0.mk (show (Kd.int .i64).C wr A1 (nums s).length (iota (nums s).length) from HE.out ▸ HR1.out)
        clear HI
        go_wp2_with fail
        refine (sorted_iota A1 c1 _ _ HI2.out (by omega)).mono ?_
        rintro e w2 ⟨rfl, hB2⟩
        go_wp2
        go_ret
        exact ⟨ret_bool HC.out.symm, below_step HB1.out hB2⟩
      · have HC := Aside0.mk (show isC s = false from decide_eq_false (fun h => hp h.2))
        have d : decide (0 < ((nums s).length : Int)) = false := decide_eq_false (by omega)
        clear HI
        go_wp2
        go_ret
        exact ⟨ret_bool HC.out.symm, HB1.out⟩
end Go.Proofs.YtggldnbhmebcpaaDoor.L
end
section
namespace Go.Proofs.YtggldnbhmebcpaaDoor.L
open Go.RowKit Go.ChangeShapes Go.WideShapes Go.Proofs.YtggldnbhmebcpaaDoorW.PrintWords Go.Proofs.YtggldnbhmebcpaaDoorW.PrintLast Go.Proofs.YtggldnbhmebcpaaDoorW.PrintMore
attribute [local go_sem] max2_int min2_int max_two min_two max_three min_three max_four min_four
theorem kNode_mkM {w : World} {base : Nat} {ok : Nat → Prop} {n : Node} {v1 v2 v3 : Value} (h1 : (Kd.int .i64).R 2 w base ok v1 n.ints) (h2 : Kd.string.R 9 w base ok v2 n.texts) (h3 : (Kd.int .i64).R 3 w base ok v3 n.kids) :
    kNode.M w base ok n [.int .i64 n.kind, v1, v2, v3] := ⟨[_], [v1, v2, v3], rfl, rfl, ⟨[v1], [v2, v3], rfl, ⟨v1, rfl, h1⟩, ⟨[v2], [v3], rfl, ⟨v2, rfl, h2⟩, ⟨v3, rfl, h3⟩⟩⟩⟩
theorem kNode_openM {w : World} {base : Nat} {ok : Nat → Prop} {n : Node} {cs : List Value} (h : kNode.M w base ok n cs) : ∃ v1 v2 v3, cs = [.int .i64 n.kind, v1, v2, v3] ∧ (Kd.int .i64).R 2 w base ok v1 n.ints ∧ Kd.string.R 9 w base ok v2 n.texts ∧ (Kd.int .i64).R 3 w base ok v3 n.kids := by
  obtain ⟨_, _, rfl, rfl, ⟨_, _, rfl, ⟨v1, rfl, h1⟩, ⟨_, _, rfl, ⟨v2, rfl, h2⟩, ⟨v3, rfl, h3⟩⟩⟩⟩ := h
  exact ⟨v1, v2, v3, rfl, h1, h2, h3⟩
def Small (n : Node) : Prop := n.ints.length ≤ 1000000 ∧ n.texts.length ≤ 1000000 ∧ n.kids.length ≤ 1000000
def IsNodeM (base : Nat) (n : Node) (v : Value) (w : World) : Prop := ∃ v1 v2 v3, v = .agg #[.int .i64 n.kind, v1, v2, v3] ∧ kNode.M w base (fun _ => True) n [.int .i64 n.kind, v1, v2, v3]
def CopyPost (n : Node) (w : World) (e : Ending) (w' : World) : Prop := ∃ v, e = .returned v ∧ IsNodeM w.heap.size n v w' ∧ Below w.heap.size w w'
set_option maxRecDepth 100000 in
set_option maxHeartbeats 400000 in
theorem copy_any (n : Node) (A1 : Option Addr) (c1 : Nat) (A2 : Option Addr) (c2 : Nat) (A3 : Option Addr) (c3 : Nat) (w : World) (h : NodeC w n A1 c1 A2 c2 A3 c3) (hs : Small n) :
    Calls Tryd.prog 46 #[.agg #[.int .i64 n.kind, .slice A1 n.ints.length c1, .slice A2 n.texts.length c2, .slice A3 n.kids.length c3]] w (CopyPost n w) := by
  have HN := Aside0.mk h
  have HS := Aside0.mk hs
  have HB := Aside0.mk (Below.refl w.heap.size w)
  clear h hs
  have HL := Aside0.mk (show Lives 4 (w.heap.size + 1) ((w.alloc (Obj.cells #[.int .i64 n.kind, .slice A1 n.ints.length c1, .slice A2 n.texts.length c2, .slice A3 n.kids.length c3] 46)).alloc (Obj.cells #[Value.int IntKind.i64 0, Value.slice none 0 0, Value.slice none 0 0, Value.slice none 0 0] 46)) from by
    have := Lives.new (w.alloc (Obj.cells #[.int .i64 n.kind, .slice A1 n.ints.length c1, .slice A2 n.texts.length c2, .slice A3 n.kids.length c3] 46)) #[Value.int IntKind.i64 0, Value.slice none 0 0, Value.slice none 0 0, Value.slice none 0 0] 46
    simpa using this)
  have HBa := Aside0.mk (below_alloc (below_alloc HB.out (Obj.cells #[.int .i64 n.kind, .slice A1 n.ints.length c1, .slice A2 n.texts.length c2, .slice A3 n.kids.length c3] 46)) (Obj.cells #[Value.int IntKind.i64 0, Value.slice none 0 0, Value.slice none 0 0, Value.slice none 0 0] 46))
  have hu := Tryd.underlying46
  have hL0 := fun (W : World) (h : Lives 4 (w.heap.size + 1) W) => h.at 0 (by omega)
  have hL1 := fun (W : World) (h : Lives 4 (w.heap.size + 1) W) => h.at 1 (by omega)
  have hL2 := fun (W : World) (h : Lives 4 (w.heap.size + 1) W) => h.at 2 (by omega)
  have hL3 := fun (W : World) (h : Lives 4 (w.heap.size + 1) W) => h.at 3 (by omega)
  go_enter Tryd.func46, Tryd.ntmps46
  go_wp2_with fail
  go_region_held3 (fun W => W.cell? ⟨w.heap.size, 0, none⟩ = some (.int .i64 n.kind) ∧ W.cell? ⟨w.heap.size, 1, none⟩ = some (.slice A1 n.ints.length c1) ∧ W.cell? ⟨w.heap.size, 2, none⟩ = some (.slice A2 n.texts.length c2) ∧ W.cell? ⟨w.heap.size, 3, none⟩ = some (.slice A3 n.kids.length c3) ∧ Lives 4 (w.heap.size + 1) W)
    (first
      | (go_split_ands
         refine ⟨?_, ?_, ?_, ?_, ?_⟩
         all_goals first
           | with_reducible exact HL.out
           | with_reducible exact pw_cell_below hB (by assumption)
           | with_reducible exact Lives.below (by assumption) hB
           | with_reducible exact far_set (far_set (far_set (far_set (by assumption) _ _ (by simp) _) _ _ (by simp) _) _ _ (by simp) _) _ _ (by simp) _
           | with_reducible exact Lives.set (Lives.set (Lives.set (Lives.set (by assumption) _ _) _ _) _ _) _ _
           | (simp; done)
           | exact HL.out))
    (first
      | (go_at_call 60; refine (clone_i64 A1 c1 n.ints _ ?_ ?_).mono ?_; (exact Kd.C_below HN.out.i (below_drew HBa.out)); (exact Nat.le_trans HS.out.1 (by omega)); rintro e w1 ⟨B1, d1, rfl, hR1, hB1⟩; have HB1 := Aside0.mk (below_step (below_drew HBa.out) hB1); have hB := hB1)
      | (go_at_call 61; refine (clone_str A2 c2 n.texts _ ?_ ?_).mono ?_; (exact Kd.C_below HN.out.t HB1.out); (exact Nat.le_trans HS.out.2.1 (by omega)); rintro e w2 ⟨B2, d2, rfl, hR2, hB2⟩; have HB2 := Aside0.mk (below_step HB1.out hB2); have hB := hB2)
      | (go_at_call 62; refine (clone_int A3 c3 n.kids _ ?_ ?_).mono ?_; (exact Kd.C_below HN.out.k HB2.out); (exact Nat.le_trans HS.out.2.2 (by omega)); rintro e w3 ⟨B3, d3, rfl, hR3, hB3⟩; have HB3 := Aside0.mk (below_step HB2.out hB3); have hB := hB3))
  have HSz := Aside0.mk (show w.heap.size + 2 ≤ w1.heap.size from by have := hB1.size; simpa using this)
  have HSz2 := Aside0.mk hB2.size
  have HR1 := Aside0.mk (Kd.R_below (Kd.R_below hR1 hB2) hB3)
  have HR2 := Aside0.mk (Kd.R_below hR2 hB3)
  have HR3 := Aside0.mk hR3
  have HLv := Aside0.mk (Lives.below (Lives.below (Lives.below (Lives.drew HL.out) hB1) hB2) hB3)
  clear hB hB1 hB2 hB3 hR1 hR2 hR3 hL0 hL1 hL2 hL3
  go_wp2
  have h4 := HLv.out.set4 (.int .i64 n.kind) (.slice B1 n.ints.length d1) (.slice B2 n.texts.length d2) (.slice B3 n.kids.length d3)
  exact bodyPost_ret (v := .agg #[.int .i64 n.kind, .slice B1 n.ints.length d1, .slice B2 n.texts.length d2, .slice B3 n.kids.length d3]) (by simp [results, Tryd.results46, go_sem, h4]) rfl
    ⟨_, rfl, ⟨_, _, _, rfl, kNode_mkM (Kd.R_lower (R_old4 HR1.out (by simp) _ _ _ _) (by simp; omega)) (Kd.R_lower (R_old4 HR2.out (by have := HSz.out; omega) _ _ _ _) (by have := HSz.out; omega)) (Kd.R_lower (R_old4 HR3.out (by have := HSz.out; have := HSz2.out; omega) _ _ _ _) (by have := HSz.out; have := HSz2.out; omega))⟩, below_set4 HB3.out (by omega)⟩
end Go.Proofs.YtggldnbhmebcpaaDoor.L
end
section
namespace Go.Proofs.YtggldnbhmebcpaaDoor.L
open Go.RowKit Go.ChangeShapes Go.WideShapes Go.Proofs.YtggldnbhmebcpaaDoorW.PrintWords Go.Proofs.YtggldnbhmebcpaaDoorW.PrintLast Go.Proofs.YtggldnbhmebcpaaDoorW.PrintMore
attribute [local go_sem] max2_int min2_int max_two min_two max_three min_three max_four min_four
def relab (s : Scene) (n : Node) : Node := ⟨n.kind, n.ints, n.texts, n.kids.map (fun k => (idx s k : Int))⟩
def canonL (s : Scene) : List Node := (ord s).map (fun a => relab s (nd s.nodes a.toNat))
theorem info_nodez : (Tryd.prog.info? 46).map (fun i => (i.zero, i.size, i.bytes)) = some (some (.agg #[.int .i64 0, .slice none 0 0, .slice none 0 0, .slice none 0 0]), 4, 80) := by kernel_rfl
theorem box2 {W : World} {b : Nat} {x0 x1 : Value} {T : TypeId} (h : W.heap[b]? = some (.cells #[x0, x1] T (0, 0))) (u0 u1 : Value) : ((W.setCell ⟨b, 0, none⟩ u0).setCell ⟨b, 1, none⟩ u1).heap[b]? = some (.cells #[u0, u1] T (0, 0)) := by
  have := blk_set (blk_set h 0 u0) 1 u1
  simpa using this
theorem box4 {W : World} {b : Nat} {x0 x1 x2 x3 : Value} {T : TypeId} (h : W.heap[b]? = some (.cells #[x0, x1, x2, x3] T (0, 0))) (u0 u1 u2 u3 : Value) : ((((W.setCell ⟨b, 0, none⟩ u0).setCell ⟨b, 1, none⟩ u1).setCell ⟨b, 2, none⟩ u2).setCell ⟨b, 3, none⟩ u3).heap[b]? = some (.cells #[u0, u1, u2, u3] T (0, 0)) := by
  have := blk_set (blk_set (blk_set (blk_set h 0 u0) 1 u1) 2 u2) 3 u3
  simpa using this
theorem set_grown (W : World) (b i : Nat) (u : Value) : W.grownBy (W.setCell ⟨b, i, none⟩ u) (some b) := ⟨rfl, rfl, rfl, by simp, fun k _ hk => Below.heap_setCell W ⟨b, i, none⟩ u k (fun e => hk (by rw [e]))⟩
theorem R_type {α : Type} {d : Kd α} {e base : Nat} {ok : Nat → Prop} {W : World} {v : Value} {xs : List α} {g : Nat} {cells : Array Value} {T : TypeId} (h : d.R e W base ok v xs) (hb : W.heap[g]? = some (.cells cells T (0, 0))) (hT : ¬ T ∈ e :: d.E) (u : Value) (i : Nat) : d.R e (W.setCell ⟨g, i, none⟩ u) base ok v xs :=
  Kd.R_mono (Kd.R_grown (Kd.R_bound h) (set_grown W g i u) (fun k hk he => by
    injection he with he
    obtain ⟨_, _, _, q, hq, cs, hc⟩ := hk
    subst he
    rw [hb] at hc
    injection hc with hc
    injection hc with _ hc
    subst hc
    exact hT hq)) (fun _ hk => hk.1)
theorem below_set2 {B b : Nat} {w W : World} {u0 u1 : Value} (h : Below B w W) (hb : B ≤ b) : Below B w ((W.setCell ⟨b, 0, none⟩ u0).setCell ⟨b, 1, none⟩ u1) := (h.setCell (p := ⟨b, 0, none⟩) hb u0).setCell (p := ⟨b, 1, none⟩) hb u1
structure CanRel (s : Scene) (w : World) (A2 : Option Addr) (c2 gs gn i : Nat) (l : List Node) (W : World) : Prop where
  len : l.length = s.nodes.length
  at_ : ∀ p : Nat, p < i → p < s.nodes.length → nd l (idx s (p : Int)) = relab s (nd s.nodes p)
  box : W.heap[gs]? = some (.cells #[.slice (some ⟨gn, 0, none⟩) s.nodes.length s.nodes.length, .int .i64 ((s.nodes.length : Int) - 1)] 24 (0, 0))
  row : kNode.R 46 W w.heap.size (fun _ => True) (.slice (some ⟨gn, 0, none⟩) s.nodes.length s.nodes.length) l
  num : (Kd.int .i64).R 3 W w.heap.size (fun _ => True) (.slice A2 s.nodes.length c2) (numsL s)
  res : W.heap[w.heap.size + 1]? = some (.cells #[.slice none 0 0, .int .i64 0] 24 (0, 0))
  lt : w.heap.size + 1 < W.heap.size
  below : Below w.heap.size w W
theorem CanRel.start {s : Scene} {w W : World} {A2 : Option Addr} {c2 gs gn : Nat} (hb : W.heap[gs]? = some (.cells #[.slice none 0 0, .int .i64 0] 24 (0, 0))) (hne : gs ≠ w.heap.size + 1) (hge : w.heap.size ≤ gs)
    (hr : kNode.R 46 W w.heap.size (fun _ => True) (.slice (some ⟨gn, 0, none⟩) s.nodes.length s.nodes.length) (List.replicate s.nodes.length nodez)) (hn : (Kd.int .i64).R 3 W w.heap.size (fun _ => True) (.slice A2 s.nodes.length c2) (numsL s))
    (hl : W.heap[w.heap.size + 1]? = some (.cells #[.slice none 0 0, .int .i64 0] 24 (0, 0))) (hB : Below w.heap.size w W) :
    CanRel s w A2 c2 gs gn 0 (List.replicate s.nodes.length nodez) ((W.setCell ⟨gs, 0, none⟩ (.slice (some ⟨gn, 0, none⟩) s.nodes.length s.nodes.length)).setCell ⟨gs, 1, none⟩ (.int .i64 ((s.nodes.length : Int) - 1))) := by
  have h1 := R_type hr hb (by decide) (.slice (some ⟨gn, 0, none⟩) s.nodes.length s.nodes.length) 0
  have h1' := R_type h1 (blk_set hb 0 _) (by decide) (.int .i64 ((s.nodes.length : Int) - 1)) 1
  have h2 := R_type hn hb (by decide) (.slice (some ⟨gn, 0, none⟩) s.nodes.length s.nodes.length) 0
  have h2' := R_type h2 (blk_set hb 0 _) (by decide) (.int .i64 ((s.nodes.length : Int) - 1)) 1
  refine ⟨by simp, fun p h => by omega, box2 hb _ _, h1', h2', ?_, ?_, below_set2 hB hge⟩
  · rw [Below.heap_setCell _ _ _ _ (Ne.symm hne), Below.heap_setCell _ _ _ _ (Ne.symm hne)]; exact hl
  · have := blk_lt hl
    simpa using this
section
variable {s : Scene} {w W W1 : World} {A2 : Option Addr} {c2 gs gn i : Nat} {l : List Node}
theorem CanRel.later (h : CanRel s w A2 c2 gs gn i l W) (hb : Below W.heap.size W W1) : CanRel s w A2 c2 gs gn i l W1 :=
  ⟨h.len, h.at_, (hb.block gs (blk_lt h.box)).trans h.box, Kd.R_below h.row hb, Kd.R_below h.num hb, (hb.block _ h.lt).trans h.res, Nat.lt_of_lt_of_le h.lt hb.size, below_step h.below hb⟩
theorem CanRel.drew (h : CanRel s w A2 c2 gs gn i l W) : CanRel s w A2 c2 gs gn i l W.drew := h.later (pw_below_drewN (Below.refl _ _) 1)
theorem nd_set (l : List Node) (i j : Nat) (n : Node) (h : i < l.length) : nd (l.set i n) j = if j = i then n else nd l j := by
  unfold nd
  rw [List.getD_eq_getElem?_getD, List.getD_eq_getElem?_getD, List.getElem?_set]
  by_cases e : j = i
  · subst e; rw [if_pos rfl, if_pos rfl, if_pos h]; rfl
  · rw [if_neg e, if_neg (fun h => e h.symm)]
theorem idx_inj {s : Scene} (hr : Right s) {p q : Nat} (hp : p < s.nodes.length) (hq : q < s.nodes.length) (h : idx s (p : Int) = idx s (q : Int)) : p = q := by
  have h1 := (at_idx hr hp).2
  have h2 := (at_idx hr hq).2
  rw [h] at h1
  rw [h1] at h2
  omega
theorem CanRel.put (hr : Right s) (h : CanRel s w A2 c2 gs gn i l W) (hi : i < s.nodes.length) {B : Nat} {v1 v2 v3 : Value} (hM : kNode.M W B (fun _ => True) (relab s (nd s.nodes i)) [.int .i64 (nd s.nodes i).kind, v1, v2, v3]) (hB : gn < B) (hwB : w.heap.size ≤ B) :
    CanRel s w A2 c2 gs gn (i + 1) (l.set (idx s (i : Int)) (relab s (nd s.nodes i))) ((((W.setCell ⟨gn, idx s (i : Int) * 4, none⟩ (.int .i64 (nd s.nodes i).kind)).setCell ⟨gn, idx s (i : Int) * 4 + 1, none⟩ v1).setCell ⟨gn, idx s (i : Int) * 4 + 2, none⟩ v2).setCell ⟨gn, idx s (i : Int) * 4 + 3, none⟩ v3) := by
  have hp := (at_idx hr hi).1
  obtain ⟨c, hcl, _, hcc, _⟩ := R_elemN h.row nodez (idx s (i : Int)) hp
  have hM' : kNode.M W w.heap.size (fun k => True ∧ B ≤ k) (relab s (nd s.nodes i)) [.int .i64 (nd s.nodes i).kind, v1, v2, v3] := by
    obtain ⟨x1, x2, x3, e, h1, h2, h3⟩ := kNode_openM hM
    injection e with _ e
    injection e with e1 e
    injection e with e2 e
    injection e with e3 _
    subst e1 e2 e3
    exact kNode_mkM (Kd.R_lower (Kd.R_mono (Kd.R_bound h1) (fun k hk => ⟨trivial, hk.2.1⟩)) hwB) (Kd.R_lower (Kd.R_mono (Kd.R_bound h2) (fun k hk => ⟨trivial, hk.2.1⟩)) hwB) (Kd.R_lower (Kd.R_mono (Kd.R_bound h3) (fun k hk => ⟨trivial, hk.2.1⟩)) hwB)
  obtain ⟨hs, hg⟩ := R_segN h.row (idx s (i : Int)) hp (seg := [.int .i64 (nd s.nodes i).kind, v1, v2, v3]) (j := 0) hcl hcc (Nat.le_refl 4) (x' := relab s (nd s.nodes i)) (okp := fun k => True ∧ B ≤ k)
    (by
      have hc4 : c.length = 4 := hcl
      rw [List.take_zero, List.drop_eq_nil_of_le (by simp [hc4])]
      exact hM') (fun k hk => ⟨trivial, by have := hk.2; omega⟩)
  have e : W.setCells gn (idx s (i : Int) * kNode.sz + 0) [.int .i64 (nd s.nodes i).kind, v1, v2, v3] = (((W.setCell ⟨gn, idx s (i : Int) * 4, none⟩ (.int .i64 (nd s.nodes i).kind)).setCell ⟨gn, idx s (i : Int) * 4 + 1, none⟩ v1).setCell ⟨gn, idx s (i : Int) * 4 + 2, none⟩ v2).setCell ⟨gn, idx s (i : Int) * 4 + 3, none⟩ v3 := rfl
  rw [e] at hs hg
  obtain ⟨cells, hc⟩ := Kd.R_typed h.row gn rfl
  have hgw := Kd.R_base h.row gn rfl
  refine ⟨by simpa using h.len, fun p hpi hpn => ?_, blk_grown h.box hg (fun e => ?_), hs, Kd.R_grown1 h.num rfl hg (Kd.R_ne h.num hc (by decide)), ?_, ?_, h.below.grown hg h.below.size (fun q hq => by injection hq with hq; omega)⟩
  · rw [nd_set _ _ _ _ (by rw [h.len]; exact hp)]
    by_cases e : p = i
    · subst e; rw [if_pos rfl]
    · rw [if_neg (fun e2 => e (idx_inj hr hpn hi e2))]
      exact h.at_ p (by omega) hpn
  · injection e with e; subst e; rw [h.box] at hc; cases hc
  · refine blk_grown h.res hg (fun e => ?_)
    injection e with e; rw [← e, h.res] at hc; cases hc
  · exact Nat.lt_of_lt_of_le h.lt hg.size
theorem CanRel.done (hr : Right s) (h : CanRel s w A2 c2 gs gn s.nodes.length l W) : l = canonL s := by
  have hl : (canonL s).length = s.nodes.length := by unfold canonL; rw [List.length_map, ord_len hr]
  refine List.ext_getElem (by rw [h.len, hl]) (fun q h1 h2 => ?_)
  have hq : q < s.nodes.length := by rw [← h.len]; exact h1
  obtain ⟨p, hp, hpn⟩ := ord_at hr hq
  have h3 := h.at_ p hpn hpn
  have h4 := idx_at hr hq
  rw [hp] at h4
  rw [h4] at h3
  unfold nd at h3
  rw [getD_eq _ h1] at h3
  have h5 : (canonL s)[q] = relab s (nd s.nodes (rd (ord s) (q : Int)).toNat) := by
    have h6 : (canonL s)[q]? = some (relab s (nd s.nodes (rd (ord s) (q : Int)).toNat)) := by
      unfold canonL
      have h7 : q < (ord s).length := by rw [ord_len hr]; exact hq
      rw [List.getElem?_map, List.getElem?_eq_getElem h7, rd_eq h7]
      rfl
    exact Option.some.inj ((List.getElem?_eq_getElem h2).symm.trans h6)
  rw [h3, h5, hp, Int.toNat_natCast]
  rfl
end
end Go.Proofs.YtggldnbhmebcpaaDoor.L
end
section
namespace Go.Proofs.YtggldnbhmebcpaaDoor.L
open Go.RowKit Go.ChangeShapes Go.WideShapes Go.Proofs.YtggldnbhmebcpaaDoorW.PrintWords Go.Proofs.YtggldnbhmebcpaaDoorW.PrintLast Go.Proofs.YtggldnbhmebcpaaDoorW.PrintMore
attribute [local go_sem] max2_int min2_int max_two min_two max_three min_three max_four min_four
def Tabs (w : World) : Prop := Lib.Utf8Tabs 3 4 w
theorem Tabs.below {w w' : World} (h : Tabs w) (hb : Below w.heap.size w w') : Tabs w' := Utf8Tabs_below h hb
end Go.Proofs.YtggldnbhmebcpaaDoor.L
end
section
namespace Go.Proofs.YtggldnbhmebcpaaDoor.L
open Go.RowKit Go.ChangeShapes Go.WideShapes Go.Proofs.YtggldnbhmebcpaaDoorW.PrintWords Go.Proofs.YtggldnbhmebcpaaDoorW.PrintLast Go.Proofs.YtggldnbhmebcpaaDoorW.PrintMore
attribute [local go_sem] max2_int min2_int max_two min_two max_three min_three max_four min_four
structure QTabs (T : Lib.PrintTabs) (w : World) : Prop where
  utf : Tabs w
  prt : Lib.PrintTabsAt 5 6 7 8 T w
  pow : Lib.TabIs Tryd.prog w "internal/strconv.uint64pow10" .u64 Lib.pow10Tab
theorem tabSlice_below {g : Nat} {k : IntKind} {t : List Nat} {w w' : World} (h : Lib.TabSlice g k t w) (hb : Below w.heap.size w w') : Lib.TabSlice g k t w' := by
  obtain ⟨R, o, c, h1, h2⟩ := h
  exact ⟨R, o, c, pw_cell_below hb h1, fun j hj => pw_cell_below hb (h2 j hj)⟩
theorem QTabs.below {T : Lib.PrintTabs} {w w' : World} (h : QTabs T w) (hb : Below w.heap.size w w') : QTabs T w' := by
  obtain ⟨a, b, c, d, e⟩ := h.prt
  exact ⟨h.utf.below hb, ⟨tabSlice_below a hb, tabSlice_below b hb, tabSlice_below c hb, tabSlice_below d hb, e⟩, Lib.tabBelow_of_tabIs h.pow w' hb⟩
def I64 (x : Int) : Prop := -9223372036854775808 ≤ x ∧ x ≤ 9223372036854775807
structure NBd (n : Node) : Prop where
  kind : I64 n.kind
  ints : ∀ x ∈ n.ints, I64 x
theorem itoa_any (T : Lib.PrintTabs) (x : Int) (w : World) (hx : I64 x) (hT : QTabs T w) : Calls Tryd.prog 24 #[.int .i64 x] w fun e w' => e = .returned (.string ⟨(Lib.itoa x).toArray⟩) ∧ Below w.heap.size w w' := by
  refine (Tryd.strconv_Itoa x hx.1 hx.2 w hT.pow).mono ?_
  rintro e w' ⟨rfl, k, os, rfl⟩
  exact ⟨rfl, Lib.below_grow _ w (Nat.le_refl _) k os⟩
theorem fint_any (T : Lib.PrintTabs) (x : Int) (w : World) (hx : I64 x) (hT : QTabs T w) : Calls Tryd.prog 48 #[.int .i64 x, .int .i64 10] w fun e w' => e = .returned (.string ⟨(Lib.itoa x).toArray⟩) ∧ Below w.heap.size w w' := by
  refine (Tryd.strconv_FormatInt_10 x hx.1 hx.2 w hT.pow).mono ?_
  rintro e w' ⟨rfl, k, os, rfl⟩
  exact ⟨rfl, Lib.below_grow _ w (Nat.le_refl _) k os⟩
theorem quote_any (T : Lib.PrintTabs) (s : ByteArray) (w : World) (hs : s.size ≤ 1000000) (hT : QTabs T w) : Calls Tryd.prog 49 #[.string s] w fun e w' => e = .returned (.string ⟨(qB T s).toArray⟩) ∧ Below w.heap.size w w' := by
  refine (Tryd.strconv_Quote T s w (by omega) hT.prt hT.utf).mono ?_
  rintro e w' ⟨rfl, hb⟩
  exact ⟨rfl, hb⟩
theorem qB_len (T : Lib.PrintTabs) (s : ByteArray) : (qB T s).length ≤ 10 * s.size + 2 := by
  unfold qB
  rw [Lib.bytesOf_length]
  exact Lib.quoteZ_length_le T s
theorem itoa_len {x : Int} (h : I64 x) : (Lib.itoa x).length ≤ 21 := Lib.itoa_length_le x h.1 h.2
theorem wNums_len {l : List Int} (h : ∀ x ∈ l, I64 x) : (wNums l).length ≤ l.length * 22 := by
  induction l with
  | nil => exact Nat.zero_le _
  | cons v l ih =>
    have h1 := ih (fun x hx => h x (by simp [hx]))
    have h2 := itoa_len (h v (by simp))
    have e : wNums (v :: l) = 32 :: (Lib.itoa v ++ wNums l) := rfl
    rw [e, List.length_cons, List.length_append, List.length_cons, Nat.succ_mul]
    omega
theorem wTexts_len (T : Lib.PrintTabs) {l : List ByteArray} (h : ∀ x ∈ l, x.size ≤ 1000000) : (wTexts T l).length ≤ l.length * 10000003 := by
  induction l with
  | nil => exact Nat.zero_le _
  | cons v l ih =>
    have h1 := ih (fun x hx => h x (by simp [hx]))
    have h2 := qB_len T v
    have h3 := h v (by simp)
    have e : wTexts T (v :: l) = 32 :: (qB T v ++ wTexts T l) := rfl
    rw [e, List.length_cons, List.length_append, List.length_cons, Nat.succ_mul]
    omega
structure WRel (b : Nat) (w0 : World) (l : List UInt8) (W : World) : Prop where
  is : Lib.IsBuilder 83 5 b b (Lib.byteCells l) W
  below : Below b w0 W
  ge : b ≤ W.heap.size
theorem WRel.later {b : Nat} {w0 W W1 : World} {l : List UInt8} (h : WRel b w0 l W) (hb : Below W.heap.size W W1) : WRel b w0 l W1 := by
  have key : ∀ {p : Value}, Lib.BuilderAt 83 5 b b p (Lib.byteCells l) W → Lib.BuilderAt 83 5 b b p (Lib.byteCells l) W1 := by
    rintro p ⟨h1, v, h2, h3, h4⟩
    refine ⟨h1, v, (hb.block b (blk_lt h2)).trans h2, h3.kept (row := none) ⟨hb.os, hb.tape, hb.output, hb.size, fun i hi _ => hb.block i hi⟩ ?_, h4⟩
    cases v.ownBlock with
    | none => exact .inl rfl
    | some k => exact .inr (by simp)
  refine ⟨?_, h.below.trans (hb.mono h.ge), Nat.le_trans h.ge hb.size⟩
  rcases h.is with h | h
  · exact .inl (key h)
  · exact .inr (key h)
theorem WRel.wrote {b : Nat} {w0 W W1 : World} {l m : List UInt8} {s : ByteArray} (h : WRel b w0 l W) (hs : s.data.toList = m) (h1 : Lib.BuilderAt 83 5 b b (.pointer (some ⟨b, 0, none⟩)) (Lib.byteCells l ++ Lib.strCells s) W1) (hb : Below b W W1) : WRel b w0 (l ++ m) W1 := by
  refine ⟨.inr ?_, h.below.trans hb, Nat.le_trans h.ge hb.size⟩
  rw [Lib.strCells_eq, hs] at h1
  rwa [show Lib.byteCells (l ++ m) = Lib.byteCells l ++ Lib.byteCells m from List.map_append]
theorem WRel.lt {b : Nat} {w0 W : World} {l : List UInt8} (h : WRel b w0 l W) : b < W.heap.size := by
  rcases h.is with h | h <;> exact h.lt
theorem M_slicesW {W : World} {B : Nat} {m : Node} {v1 v2 v3 : Value} (h : kNode.M W B (fun _ => True) m [.int .i64 m.kind, v1, v2, v3]) : ∃ A1 c1 A2 c2 A3 c3, v1 = .slice A1 m.ints.length c1 ∧ v2 = .slice A2 m.texts.length c2 ∧ v3 = .slice A3 m.kids.length c3 := by
  obtain ⟨x1, x2, x3, e, h1, h2, h3⟩ := kNode_openM h
  injection e with _ e
  injection e with e1 e
  injection e with e2 e
  injection e with e3 _
  subst e1 e2 e3
  obtain ⟨A1, c1, r1⟩ := Kd.R_slice h1
  obtain ⟨A2, c2, r2⟩ := Kd.R_slice h2
  obtain ⟨A3, c3, r3⟩ := Kd.R_slice h3
  exact ⟨A1, c1, A2, c2, A3, c3, r1, r2, r3⟩
end Go.Proofs.YtggldnbhmebcpaaDoor.L
end
section
namespace Go.Proofs.YtggldnbhmebcpaaDoor.L
open Go.RowKit Go.ChangeShapes Go.WideShapes Go.Proofs.YtggldnbhmebcpaaDoorW.PrintWords Go.Proofs.YtggldnbhmebcpaaDoorW.PrintLast Go.Proofs.YtggldnbhmebcpaaDoorW.PrintMore
attribute [local go_sem] max2_int min2_int max_two min_two max_three min_three max_four min_four
theorem wTexts_snoc (T : Lib.PrintTabs) (l : List ByteArray) (x : ByteArray) : wTexts T (l ++ [x]) = wTexts T l ++ 32 :: qB T x := by simp [wTexts]
set_option maxRecDepth 100000 in
set_option maxHeartbeats 8000000 in
theorem word_any (T : Lib.PrintTabs) (n : Node) (A1 : Option Addr) (c1 : Nat) (A2 : Option Addr) (c2 : Nat) (A3 : Option Addr) (c3 : Nat) (Ao : Option Addr) (co : Nat) (own : List Int) (w : World) (h : NodeC w n A1 c1 A2 c2 A3 c3) (hs : Small n) (hts : ∀ x ∈ n.texts, x.size ≤ 1000000) (hn : NBd n)
    (ho : (Kd.int .i64).C w Ao own.length own) (hk : ∀ k ∈ n.kids, 0 ≤ k ∧ k < (own.length : Int)) (hoB : ∀ x ∈ own, I64 x) (hT : QTabs T w) :
    Calls Tryd.prog 37 #[.agg #[.int .i64 n.kind, .slice A1 n.ints.length c1, .slice A2 n.texts.length c2, .slice A3 n.kids.length c3], .slice Ao own.length co] w fun e w' => e = .returned (.string ⟨(nodeW T n own).toArray⟩) ∧ Below w.heap.size w w' := by
  have HN := Aside0.mk h
  have HS := Aside0.mk hs
  have HTS := Aside0.mk hts
  have HB := Aside0.mk hn
  have HO := Aside0.mk ho
  have HK := Aside0.mk hk
  have HOB := Aside0.mk hoB
  have HT := Aside0.mk hT
  have hun := Tryd.underlying46
  have hub := Tryd.underlying83
  have HA := Aside0.mk (below_alloc (Below.refl w.heap.size w) (.cells #[.int .i64 n.kind, .slice A1 n.ints.length c1, .slice A2 n.texts.length c2, .slice A3 n.kids.length c3] 46))
  clear h hs hts hn ho hk hoB hT
  go_enter Tryd.func37, Tryd.ntmps37
  go_wp2_with fail
  refine (copy_any n A1 c1 A2 c2 A3 c3 _ (HN.out.below HA.out) HS.out).mono ?_
  rintro e w1 ⟨v', rfl, ⟨v1, v2, v3, rfl, hM⟩, hB1⟩
  obtain ⟨A5, c5, A6, c6, A7, c7, rfl, rfl, rfl⟩ := M_slicesW hM
  have HN1 : Aside0 (NodeC w1 n A5 c5 A6 c6 A7 c7) := by
    obtain ⟨x1, x2, x3, e, h1, h2, h3⟩ := kNode_openM hM
    injection e with _ e
    injection e with e1 e
    injection e with e2 e
    injection e with e3 _
    subst e1 e2 e3
    have r1 := Kd.R_reads' h1
    have r2 := Kd.R_reads' h2
    have r3 := Kd.R_reads' h3
    exact ⟨r1.2.1, r2.2.1, r3.2.1, r1.2.2, r2.2.2, r3.2.2⟩
  have HB1 := Aside0.mk (below_step HA.out hB1)
  clear hM hB1 HN HA
  go_wp2_with fail
  have hA2 := below_alloc (Below.refl w1.heap.size w1) (.cells #[.int .i64 n.kind, .slice A5 n.ints.length c5, .slice A6 n.texts.length c6, .slice A7 n.kids.length c7] 46)
  have y1 := box_cell w1 _ rfl #[.int .i64 n.kind, .slice A5 n.ints.length c5, .slice A6 n.texts.length c6, .slice A7 n.kids.length c7] 46 1 (.slice A5 n.ints.length c5) rfl
  have y2 := box_cell w1 _ rfl #[.int .i64 n.kind, .slice A5 n.ints.length c5, .slice A6 n.texts.length c6, .slice A7 n.kids.length c7] 46 2 (.slice A6 n.texts.length c6) rfl
  have y3 := box_cell w1 _ rfl #[.int .i64 n.kind, .slice A5 n.ints.length c5, .slice A6 n.texts.length c6, .slice A7 n.kids.length c7] 46 3 (.slice A7 n.kids.length c7) rfl
  have HN2 := Aside0.mk (HN1.out.below hA2)
  have HB2 := Aside0.mk (below_step HB1.out hA2)
  have HO2 := Aside0.mk (Kd.C_below HO.out HB2.out)
  have HT2 := Aside0.mk (HT.out.below HB2.out)
  have hgx : w1.heap.size + 1 = (w1.alloc (.cells #[.int .i64 n.kind, .slice A5 n.ints.length c5, .slice A6 n.texts.length c6, .slice A7 n.kids.length c7] 46)).heap.size := by simp
  have HGx := Aside0.mk hgx
  rw [hgx]
  clear HN1 HB1 HO HT hA2 hgx
  generalize w1.alloc (.cells #[.int .i64 n.kind, .slice A5 n.ints.length c5, .slice A6 n.texts.length c6, .slice A7 n.kids.length c7] 46) = w2 at HN2 HB2 HO2 HT2 HGx y1 y2 y3 ⊢
  generalize w1.heap.size = gx at HGx y1 y2 y3 ⊢
  have HW2 : Aside0 (WRel w2.heap.size w2 [] (w2.alloc (.cells #[.pointer none, .slice none 0 0] 83))) :=
    ⟨Lib.fresh_isBuilder 83 5 w2, below_alloc (Below.refl _ _) _, by simp⟩
  have Y1 : ∀ W, Below w2.heap.size w2 W → W.cell? ⟨gx, 1, none⟩ = some (.slice A5 n.ints.length c5) := fun W h => pw_cell_below h y1
  have Y2 : ∀ W, Below w2.heap.size w2 W → W.cell? ⟨gx, 2, none⟩ = some (.slice A6 n.texts.length c6) := fun W h => pw_cell_below h y2
  have Y3 : ∀ W, Below w2.heap.size w2 W → W.cell? ⟨gx, 3, none⟩ = some (.slice A7 n.kids.length c7) := fun W h => pw_cell_below h y3
  have HY1 := Aside0.mk Y1
  have HY2 := Aside0.mk Y2
  have HY3 := Aside0.mk Y3
  clear y1 y2 y3 Y1 Y2 Y3
  have HLi := Aside0.mk (itoa_len HB.out.kind)
  refine (itoa_any T n.kind _ HB.out.kind (HT2.out.below (below_alloc (Below.refl _ _) _))).mono ?_
  rintro e w3 ⟨rfl, hB3⟩
  have HW3 := Aside0.mk (HW2.out.later hB3)
  clear HW2 hB3
  go_wp2_with fail
  refine (wstr_any _ _ _ _ _ HW3.out.is (by rw [Lib.byteCells_length]; show 0 + (Lib.itoa n.kind).length ≤ _; have := HLi.out; omega) HW3.out.ge).mono ?_
  rintro e w4 ⟨rfl, hw4, hB4⟩
  have HW4 := Aside0.mk (HW3.out.wrote (m := Lib.itoa n.kind) rfl hw4 hB4)
  have x1 := HY1.out _ HW4.out.below
  clear HW3 hw4 hB4
  go_wp2
  clear x1
  go_loopw [22] (fun v22 W => ∃ i : Nat, i ≤ n.ints.length ∧ v22 = .int .i64 i ∧ Aside0 (WRel w2.heap.size w2 (Lib.itoa n.kind ++ wNums (n.ints.take i)) W)) (fun v22 _ => n.ints.length - (intOf v22).toNat)
  case atStart => exact ⟨0, by omega, rfl, by rw [List.take_zero]; exact ⟨by have := HW4.out; simpa [wNums] using this⟩⟩
  case round =>
    clear HW4
    obtain ⟨i, hi, rfl, HI⟩ := hrel
    have hil : n.ints.length ≤ 1000000 := HS.out.1
    by_cases hlt : i < n.ints.length
    · obtain ⟨ad, rfl, z0⟩ := at_nat (HN2.out.below HI.out.below).i i hlt
      have HX := Aside0.mk (HB.out.ints _ (rd_mem hlt))
      have HLx := Aside0.mk (itoa_len HX.out)
      have HTk := Aside0.mk (show wNums (n.ints.take (i + 1)) = wNums (n.ints.take i) ++ 32 :: Lib.itoa (rd n.ints (i : Int)) from by rw [take_succ_rd hlt]; simp [wNums])
      have HLp := Aside0.mk (wNums_len (l := n.ints.take i) (fun x hx => HB.out.ints x (List.mem_of_mem_take hx)))
      generalize rd n.ints (i : Int) = x at z0 HX HLx HTk
      have hlx := HLx.out
      go_wp2_with fail
      refine (fint_any T x _ HX.out (HT2.out.below HI.out.below)).mono ?_
      rintro e w6 ⟨rfl, hB6⟩
      have HW6 := Aside0.mk (HI.out.later hB6)
      clear hB6 z0
      go_wp2_with fail
      refine (wstr_any _ _ _ _ _ HW6.out.is (by
        rw [Lib.byteCells_length, List.length_append]
        have h1 := HLi.out
        have h2 := HLp.out
        have h3 : (n.ints.take i).length ≤ 1000000 := by rw [List.length_take]; omega
        have h4 : (⟨#[32]⟩ ++ ⟨(Lib.itoa x).toArray⟩ : ByteArray).size = 1 + (Lib.itoa x).length := by rw [ByteArray.size_append]; rfl
        rw [h4]; omega) HW6.out.ge).mono ?_
      rintro e w7 ⟨rfl, hw7, hB7⟩
      have HW7 := Aside0.mk (HW6.out.wrote (m := 32 :: Lib.itoa x) (by simp) hw7 hB7)
      clear HW6 hw7 hB7
      rw [List.append_assoc, ← HTk.out] at HW7
      go_wp2
      go_roundw
      case rel => exact ⟨i + 1, by omega, by go_num, HW7⟩
      case measure => simp [intOf]; omega
    · obtain rfl : i = n.ints.length := by omega
      rw [List.take_length] at HI
      have x2 := HY2.out _ HI.out.below
      have HLp := Aside0.mk (wNums_len (l := n.ints) HB.out.ints)
      clear hlt hi
      go_wp2
      clear x2
      go_loopw [34] (fun v34 W => ∃ i : Nat, i ≤ n.texts.length ∧ v34 = .int .i64 i ∧ Aside0 (WRel w2.heap.size w2 (Lib.itoa n.kind ++ (wNums n.ints ++ wTexts T (n.texts.take i))) W)) (fun v34 _ => n.texts.length - (intOf v34).toNat)
      case atStart => exact ⟨0, by omega, rfl, by rw [List.take_zero]; exact ⟨by have := HI.out; simpa [wTexts] using this⟩⟩
      case round =>
        clear HI
        obtain ⟨i, hi, rfl, HI⟩ := hrel
        have htl : n.texts.length ≤ 1000000 := HS.out.2.1
        by_cases hlt : i < n.texts.length
        · obtain ⟨ad, rfl, z0⟩ := at_str (HN2.out.below HI.out.below).t i hlt
          have HX := Aside0.mk (show (str n.texts i).size ≤ 1000000 from HTS.out _ (by
            have : str n.texts i = n.texts[i] := by unfold str; rw [List.getD_eq_getElem?_getD, List.getElem?_eq_getElem hlt]; rfl
            rw [this]; exact List.getElem_mem hlt))
          have HTk := Aside0.mk (show wTexts T (n.texts.take (i + 1)) = wTexts T (n.texts.take i) ++ 32 :: qB T (str n.texts i) from by
            have : str n.texts i = n.texts[i] := by unfold str; rw [List.getD_eq_getElem?_getD, List.getElem?_eq_getElem hlt]; rfl
            rw [List.take_succ_eq_append_getElem hlt, this, wTexts_snoc])
          have HLt := Aside0.mk (wTexts_len T (l := n.texts.take i) (fun x hx => HTS.out x (List.mem_of_mem_take hx)))
          generalize str n.texts i = x at z0 HX HTk
          have hlx := qB_len T x
          have hx1 := HX.out
          go_wp2_with fail
          refine (quote_any T x _ HX.out (HT2.out.below HI.out.below)).mono ?_
          rintro e w6 ⟨rfl, hB6⟩
          have HW6 := Aside0.mk (HI.out.later hB6)
          clear hB6 z0
          go_wp2_with fail
          refine (wstr_any _ _ _ _ _ HW6.out.is (by
            rw [Lib.byteCells_length, List.length_append, List.length_append]
            have h1 := HLi.out
            have h2 := HLp.out
            have h2' := HLt.out
            have h5 : n.ints.length ≤ 1000000 := HS.out.1
            have h3 : (n.texts.take i).length ≤ 1000000 := by rw [List.length_take]; omega
            have h4 : (⟨#[32]⟩ ++ ⟨(qB T x).toArray⟩ : ByteArray).size = 1 + (qB T x).length := by rw [ByteArray.size_append]; rfl
            rw [h4]; omega) HW6.out.ge).mono ?_
          rintro e w7 ⟨rfl, hw7, hB7⟩
          have HW7 := Aside0.mk (HW6.out.wrote (m := 32 :: qB T x) (by simp) hw7 hB7)
          clear HW6 hw7 hB7
          rw [List.append_assoc, List.append_assoc, ← HTk.out] at HW7
          go_wp2
          go_roundw
          case rel => exact ⟨i + 1, by omega, by go_num, HW7⟩
          case measure => simp [intOf]; omega
        · obtain rfl : i = n.texts.length := by omega
          rw [List.take_length] at HI
          have HLt := Aside0.mk (wTexts_len T (l := n.texts) HTS.out)
          clear hlt hi
          go_wp2_with fail
          refine (wstr_any _ _ _ _ _ HI.out.is (by
            rw [Lib.byteCells_length, List.length_append, List.length_append]
            have h1 := HLi.out
            have h2 := HLp.out
            have h2' := HLt.out
            have h5 : n.ints.length ≤ 1000000 := HS.out.1
            show _ + 2 ≤ _
            omega) HI.out.ge).mono ?_
          rintro e w8 ⟨rfl, hw8, hB8⟩
          have HW8 := Aside0.mk (HI.out.wrote (m := [32, 47]) rfl hw8 hB8)
          clear HI hw8 hB8
          have x3 := HY3.out _ HW8.out.below
          go_wp2
          clear x3
          go_loopw [47] (fun v47 W => ∃ i : Nat, i ≤ n.kids.length ∧ v47 = .int .i64 i ∧ Aside0 (WRel w2.heap.size w2 (Lib.itoa n.kind ++ (wNums n.ints ++ (wTexts T n.texts ++ 32 :: 47 :: wNums ((n.kids.take i).map (rd own))))) W)) (fun v47 _ => n.kids.length - (intOf v47).toNat)
          case atStart => exact ⟨0, by omega, rfl, by rw [List.take_zero]; exact ⟨by have := HW8.out; simpa [wNums] using this⟩⟩
          case round =>
            clear HW8
            obtain ⟨i, hi, rfl, HI⟩ := hrel
            have hkl : n.kids.length ≤ 1000000 := HS.out.2.2
            by_cases hlt : i < n.kids.length
            · obtain ⟨ad, rfl, z0⟩ := at_nat (HN2.out.below HI.out.below).k i hlt
              have HQ := Aside0.mk (HK.out _ (rd_mem hlt))
              have HTk := Aside0.mk (show (n.kids.take (i + 1)).map (rd own) = (n.kids.take i).map (rd own) ++ [rd own (rd n.kids (i : Int))] from by rw [take_succ_rd hlt, List.map_append]; rfl)
              obtain ⟨k, hk⟩ : ∃ k : Nat, rd n.kids (i : Int) = (k : Int) := ⟨(rd n.kids (i : Int)).toNat, by have := HQ.out.1; omega⟩
              have hkn : k < own.length := by have := HQ.out.2; omega
              rw [hk] at z0 HTk
              obtain ⟨ao, rfl, z1⟩ := at_nat (Kd.C_below HO2.out HI.out.below) k hkn
              have HX := Aside0.mk (HOB.out _ (rd_mem hkn))
              have HLp2 := Aside0.mk (wNums_len (l := (n.kids.take i).map (rd own)) (fun x hx => by
                obtain ⟨q, hq, rfl⟩ := List.mem_map.1 hx
                have h1 := HK.out q (List.mem_of_mem_take hq)
                obtain ⟨p, rfl⟩ : ∃ p : Nat, q = (p : Int) := ⟨q.toNat, by omega⟩
                exact HOB.out _ (rd_mem (by omega))))
              have HTk2 := Aside0.mk (show wNums ((n.kids.take (i + 1)).map (rd own)) = wNums ((n.kids.take i).map (rd own)) ++ 32 :: Lib.itoa (rd own (k : Int)) from by rw [HTk.out]; simp [wNums])
              clear hk HTk HQ
              generalize rd own (k : Int) = x at z1 HX HTk2
              have HLx := Aside0.mk (itoa_len HX.out)
              have hlx := HLx.out
              go_wp2_with fail
              refine (itoa_any T x _ HX.out (HT2.out.below HI.out.below)).mono ?_
              rintro e w6 ⟨rfl, hB6⟩
              have HW6 := Aside0.mk (HI.out.later hB6)
              clear hB6 z0 z1
              go_wp2_with fail
              refine (wstr_any _ _ _ _ _ HW6.out.is (by
                rw [Lib.byteCells_length, List.length_append, List.length_append, List.length_append, List.length_cons, List.length_cons]
                have h1 := HLi.out
                have h2 := HLp.out
                have h2' := HLt.out
                have h2'' := HLp2.out
                have h5 : n.ints.length ≤ 1000000 := HS.out.1
                have h6 : n.texts.length ≤ 1000000 := HS.out.2.1
                have h3 : ((n.kids.take i).map (rd own)).length ≤ 1000000 := by rw [List.length_map, List.length_take]; omega
                have h4 : (⟨#[32]⟩ ++ ⟨(Lib.itoa x).toArray⟩ : ByteArray).size = 1 + (Lib.itoa x).length := by rw [ByteArray.size_append]; rfl
                rw [h4]; omega) HW6.out.ge).mono ?_
              rintro e w7 ⟨rfl, hw7, hB7⟩
              have HW7 := Aside0.mk (HW6.out.wrote (m := 32 :: Lib.itoa x) (by simp) hw7 hB7)
              clear HW6 hw7 hB7
              rw [show ∀ a b c d e : List UInt8, a ++ (b ++ (c ++ 32 :: 47 :: d)) ++ e = a ++ (b ++ (c ++ 32 :: 47 :: (d ++ e))) from fun a b c d e => by simp, ← HTk2.out] at HW7
              go_wp2
              go_roundw
              case rel => exact ⟨i + 1, by omega, by go_num, HW7⟩
              case measure => simp [intOf]; omega
            · obtain rfl : i = n.kids.length := by omega
              rw [List.take_length] at HI
              clear hlt hi
              go_wp2_with fail
              refine (Tryd.Builder_String_any _ _ _ _ HI.out.is HI.out.ge).mono ?_
              rintro e w9 ⟨rfl, hB9⟩
              have HB9 := Aside0.mk (HB2.out.trans ((HI.out.below.trans hB9).mono HB2.out.size))
              clear hB9 HI
              go_wp2
              go_ret
              exact ⟨rfl, HB9.out⟩
end Go.Proofs.YtggldnbhmebcpaaDoor.L
end
section
namespace Go.Proofs.YtggldnbhmebcpaaDoor.L
open Go.RowKit Go.ChangeShapes Go.WideShapes Go.Proofs.YtggldnbhmebcpaaDoorW.PrintWords Go.Proofs.YtggldnbhmebcpaaDoorW.PrintLast Go.Proofs.YtggldnbhmebcpaaDoorW.PrintMore
attribute [local go_sem] max2_int min2_int max_two min_two max_three min_three max_four min_four
theorem all_snoc (T : Lib.PrintTabs) (l : List Scene) (s : Scene) : allS T (l ++ [s]) = ((ownS T (allS T l).1 s.nodes).1, (allS T l).2 ++ [(ownS T (allS T l).1 s.nodes).2]) := by
  unfold allS
  rw [List.foldl_append]; rfl
structure AllSpec (T : Lib.PrintTabs) (l : List Scene) (r : List (List UInt8) × List (List Int)) : Prop where
  len : r.2.length = l.length
  numd : ∀ i : Nat, i < l.length → Numd T r.1 (l.getD i ⟨[], 0⟩).nodes (r.2.getD i [])
  from_ : ∀ x ∈ r.1, ∃ i j : Nat, i < l.length ∧ j < (l.getD i ⟨[], 0⟩).nodes.length ∧ x = nodeW T (nd (l.getD i ⟨[], 0⟩).nodes j) (r.2.getD i [])
  nodup : r.1.Nodup
theorem getD_snoc_lt {α : Type} {l : List α} {x d : α} {i : Nat} (h : i < l.length) : (l ++ [x]).getD i d = l.getD i d := by
  rw [List.getD_eq_getElem?_getD, List.getD_eq_getElem?_getD, List.getElem?_append_left h]
theorem getD_snoc_eq {α : Type} {l : List α} {x d : α} : (l ++ [x]).getD l.length d = x := by
  rw [List.getD_eq_getElem?_getD, List.getElem?_append_right (Nat.le_refl _)]
  simp
theorem all_specN (T : Lib.PrintTabs) : ∀ (n : Nat) {l : List Scene}, l.length = n → (∀ s ∈ l, AheadN s.nodes) → AllSpec T l (allS T l)
  | 0, l, hn, _ => by
    obtain rfl := List.eq_nil_of_length_eq_zero hn
    exact ⟨rfl, fun i hi => absurd hi (Nat.not_lt_zero _), fun x hx => by simp [allS] at hx, by simp [allS]⟩
  | n + 1, l, hn, hA => by
    rcases snoc_cases l with rfl | ⟨l, s, rfl⟩
    · simp at hn
    · have ih := all_specN T n (l := l) (by simpa using hn) (fun s hs => hA s (by simp [hs]))
      have hs := own_spec T (allS T l).1 (hA s (by simp))
      rw [all_snoc]
      generalize allS T l = st at ih hs ⊢
      obtain ⟨vs, outs⟩ := st
      have hlen : outs.length = l.length := ih.len
      generalize ownS T vs s.nodes = r at hs ⊢
      obtain ⟨us, own⟩ := r
      have hs : OwnSpec T vs s.nodes (us, own) := hs
      refine ⟨by show (outs ++ [own]).length = _; simp [hlen], fun i hi => ?_, fun x hx => ?_, hs.nodup ih.nodup⟩
      · show Numd T us ((l ++ [s]).getD i ⟨[], 0⟩).nodes ((outs ++ [own]).getD i [])
        by_cases h : i < l.length
        · rw [getD_snoc_lt h, getD_snoc_lt (by omega)]
          exact (ih.numd i h).pre hs.pre
        · have : i = l.length := by simp at hi; omega
          subst this
          rw [getD_snoc_eq]
          conv => arg 4; rw [← hlen]
          rw [getD_snoc_eq]
          exact hs.numd
      · rcases hs.from_ x hx with hx | ⟨j, hj, rfl⟩
        · obtain ⟨i, j, hi, hj, e⟩ := ih.from_ x hx
          refine ⟨i, j, by simp; omega, by rw [getD_snoc_lt hi]; exact hj, ?_⟩
          show x = nodeW T (nd ((l ++ [s]).getD i ⟨[], 0⟩).nodes j) ((outs ++ [own]).getD i [])
          rw [getD_snoc_lt hi, getD_snoc_lt (by omega)]
          exact e
        · refine ⟨l.length, j, by simp, by rw [getD_snoc_eq]; exact hj, ?_⟩
          show _ = nodeW T (nd ((l ++ [s]).getD l.length ⟨[], 0⟩).nodes j) ((outs ++ [own]).getD l.length [])
          rw [getD_snoc_eq]
          conv => rhs; arg 3; rw [← hlen]
          rw [getD_snoc_eq]
theorem all_spec (T : Lib.PrintTabs) {l : List Scene} (hA : ∀ s ∈ l, AheadN s.nodes) : AllSpec T l (allS T l) := all_specN T l.length rfl hA
end Go.Proofs.YtggldnbhmebcpaaDoor.L
end
section
namespace Go.Proofs.YtggldnbhmebcpaaDoor.L
open Go.RowKit Go.ChangeShapes Go.WideShapes Go.Proofs.YtggldnbhmebcpaaDoorW.PrintWords Go.Proofs.YtggldnbhmebcpaaDoorW.PrintLast Go.Proofs.YtggldnbhmebcpaaDoorW.PrintMore
attribute [local go_sem] max2_int min2_int max_two min_two max_three min_three max_four min_four
def mapTake (f : Int → Int) (l : List Int) (j : Nat) : List Int := (l.take j).map f ++ l.drop j
theorem mapTake_len (f : Int → Int) (l : List Int) (j : Nat) : (mapTake f l j).length = l.length := by unfold mapTake; rw [List.length_append, List.length_map, List.length_take, List.length_drop]; omega
theorem mapTake_zero (f : Int → Int) (l : List Int) : mapTake f l 0 = l := by unfold mapTake; simp
theorem mapTake_all (f : Int → Int) (l : List Int) : mapTake f l l.length = l.map f := by unfold mapTake; simp
theorem mapTake_rd (f : Int → Int) (l : List Int) (j : Nat) (h : j < l.length) : rd (mapTake f l j) (j : Int) = rd l (j : Int) := by
  rw [rd_eq (by rw [mapTake_len]; exact h), rd_eq h]
  unfold mapTake
  rw [List.getElem_append_right (by simp; omega)]
  simp [List.length_take, Nat.min_eq_left (Nat.le_of_lt h)]
theorem mapTake_set (f : Int → Int) (l : List Int) (j : Nat) (h : j < l.length) : (mapTake f l j).set j (f (rd l (j : Int))) = mapTake f l (j + 1) := by
  unfold mapTake
  rw [List.set_append_right _ _ (by simp; omega)]
  rw [List.length_map, List.length_take, Nat.min_eq_left (Nat.le_of_lt h), Nat.sub_self, drop_rd h]
  rw [take_succ_rd h, List.map_append]
  simp
structure KidRel (f : Int → Int) (n : Node) (v1 v2 v3 : Value) (j : Nat) (W0 W : World) : Prop where
  below : Below W0.heap.size W0 W
  box : W.heap[W0.heap.size]? = some (.cells #[.int .i64 n.kind, v1, v2, v3] 46 (0, 0))
  r1 : (Kd.int .i64).R 2 W W0.heap.size (fun _ => True) v1 n.ints
  r2 : Kd.string.R 9 W W0.heap.size (fun _ => True) v2 n.texts
  r3 : (Kd.int .i64).R 3 W W0.heap.size (fun _ => True) v3 (mapTake f n.kids j)
theorem KidRel.drew {f : Int → Int} {n : Node} {v1 v2 v3 : Value} {j : Nat} {W0 W : World} (h : KidRel f n v1 v2 v3 j W0 W) : KidRel f n v1 v2 v3 j W0 W.drew :=
  ⟨pw_below_drewN h.below 1, h.box, Kd.R_drew h.r1, Kd.R_drew h.r2, Kd.R_drew h.r3⟩
theorem KidRel.start {f : Int → Int} {n : Node} {W0 W1 : World} {u0 u1 u2 u3 : Value} {v1 v2 v3 : Value} (hb : W1.heap[W0.heap.size]? = some (.cells #[u0, u1, u2, u3] 46 (0, 0))) (hB : Below W0.heap.size W0 W1) {B : Nat} (hBB : W0.heap.size < B)
    (hM : kNode.M W1 B (fun _ => True) n [.int .i64 n.kind, v1, v2, v3]) :
    KidRel f n v1 v2 v3 0 W0 ((((W1.setCell ⟨W0.heap.size, 0, none⟩ (.int .i64 n.kind)).setCell ⟨W0.heap.size, 1, none⟩ v1).setCell ⟨W0.heap.size, 2, none⟩ v2).setCell ⟨W0.heap.size, 3, none⟩ v3) := by
  obtain ⟨x1, x2, x3, e, h1, h2, h3⟩ := kNode_openM hM
  injection e with _ e
  injection e with e1 e
  injection e with e2 e
  injection e with e3 _
  subst e1 e2 e3
  refine ⟨below_set4 hB (Nat.le_refl _), box4 hb _ _ _ _, Kd.R_lower (R_old4 h1 hBB _ _ _ _) (Nat.le_of_lt hBB), Kd.R_lower (R_old4 h2 hBB _ _ _ _) (Nat.le_of_lt hBB), ?_⟩
  rw [mapTake_zero]
  exact Kd.R_lower (R_old4 h3 hBB _ _ _ _) (Nat.le_of_lt hBB)
theorem KidRel.set {f : Int → Int} {n : Node} {v1 v2 : Value} {g c m : Nat} {j : Nat} {W0 W : World} (h : KidRel f n v1 v2 (.slice (some ⟨g, 0, none⟩) m c) j W0 W) (hj : j < n.kids.length) :
    W.cell? ⟨g, j, none⟩ = some (.int .i64 (rd n.kids (j : Int))) ∧ W.frozen? ⟨g, j, none⟩ = false ∧ KidRel f n v1 v2 (.slice (some ⟨g, 0, none⟩) m c) (j + 1) W0 (W.setCell ⟨g, j, none⟩ (.int .i64 (f (rd n.kids (j : Int))))) := by
  have hm := (Kd.R_reads' h.r3).1
  rw [mapTake_len] at hm
  obtain ⟨c1, c2⟩ := ints_cell h.r3 j (by omega)
  obtain ⟨s1, s2, s3⟩ := ints_store h.r3 j (by omega) (f (rd n.kids (j : Int)))
  rw [mapTake_rd f _ _ hj] at c1
  rw [mapTake_set f _ _ hj] at s1
  obtain ⟨cells, hc⟩ := Kd.R_typed h.r3 g rfl
  refine ⟨c1, c2, below_set h.below s3, blk_grown h.box s2 (fun e => ?_), Kd.R_grown1 h.r1 rfl s2 (Kd.R_ne h.r1 hc (by decide)), Kd.R_grown1 h.r2 rfl s2 (Kd.R_ne h.r2 hc (by decide)), s1⟩
  injection e with e
  rw [← e, h.box] at hc
  cases hc
end Go.Proofs.YtggldnbhmebcpaaDoor.L
end
section
namespace Go.Proofs.YtggldnbhmebcpaaDoor.L
open Go.RowKit Go.ChangeShapes Go.WideShapes Go.Proofs.YtggldnbhmebcpaaDoorW.PrintWords Go.Proofs.YtggldnbhmebcpaaDoorW.PrintLast Go.Proofs.YtggldnbhmebcpaaDoorW.PrintMore
attribute [local go_sem] max2_int min2_int max_two min_two max_three min_three max_four min_four
structure Iso (ns ms : List Node) (f : Int → Int) : Prop where
  len : ns.length = ms.length
  pl : ∀ x, Pl ms x → Pl ns (f x)
  inj : ∀ x y, Pl ms x → Pl ms y → f x = f y → x = y
  nd : ∀ x, Pl ms x → nd ns (f x).toNat = ⟨(nd ms x.toNat).kind, (nd ms x.toNat).ints, (nd ms x.toNat).texts, (kids ms x).map f⟩
theorem Iso.kids {ns ms : List Node} {f : Int → Int} (h : Iso ns ms f) {x : Int} (hx : Pl ms x) : L.kids ns (f x) = (L.kids ms x).map f := by
  show (L.nd ns (f x).toNat).kids = _
  rw [h.nd x hx]
theorem Iso.mem {ns ms : List Node} {f : Int → Int} (h : Iso ns ms f) {x : Int} (hx : Pl ms x) {l : List Int} (hl : ∀ y ∈ l, Pl ms y) : f x ∈ l.map f ↔ x ∈ l := by
  refine ⟨fun hm => ?_, fun hm => List.mem_map_of_mem hm⟩
  obtain ⟨y, hy, e⟩ := List.mem_map.1 hm
  rw [h.inj x y hx (hl y hy) e.symm]; exact hy
theorem kids_pl {ms : List Node} (hP : Places ms) {x : Int} (hx : Pl ms x) : ∀ k ∈ kids ms x, Pl ms k := fun k hk => hP x.toNat (by have := hx.1; have := hx.2; omega) k hk
theorem Iso.meet {ns ms : List Node} {f : Int → Int} (h : Iso ns ms f) (hP : Places ms) : ∀ (m : Nat) (a : Int) (met : List Int), Pl ms a → (∀ x ∈ met, Pl ms x) →
    L.meet ns m (f a) (met.map f) = (L.meet ms m a met).map f ∧ ∀ x ∈ L.meet ms m a met, Pl ms x
  | 0, a, met, _, hm => ⟨rfl, hm⟩
  | m + 1, a, met, ha, hm => by
    unfold L.meet
    by_cases hin : a ∈ met
    · rw [if_pos hin, if_pos ((h.mem ha hm).2 hin)]
      exact ⟨rfl, hm⟩
    · rw [if_neg hin, if_neg (fun e => hin ((h.mem ha hm).1 e)), h.kids ha, List.foldl_map]
      have key : ∀ (l met : List Int), (∀ k ∈ l, Pl ms k) → (∀ x ∈ met, Pl ms x) →
          l.foldl (fun v k => L.meet ns m (f k) v) (met.map f) = (l.foldl (fun v k => L.meet ms m k v) met).map f ∧ ∀ x ∈ l.foldl (fun v k => L.meet ms m k v) met, Pl ms x := by
        intro l
        induction l with
        | nil => intro met _ hm; exact ⟨rfl, hm⟩
        | cons k l ih =>
          intro met hl hm
          obtain ⟨e1, e2⟩ := Iso.meet h hP m k met (hl k (by simp)) hm
          rw [List.foldl_cons, List.foldl_cons, e1]
          exact ih _ (fun y hy => hl y (by simp [hy])) e2
      obtain ⟨e1, e2⟩ := key (L.kids ms a) met (kids_pl hP ha) hm
      refine ⟨?_, fun x hx => ?_⟩
      · rw [List.map_append, ← e1]; rfl
      · rcases List.mem_append.1 hx with hx | hx
        · exact e2 x hx
        · rw [List.mem_singleton.1 hx]; exact ha
theorem Iso.rch {ns ms : List Node} {f : Int → Int} (h : Iso ns ms f) (hP : Places ms) {l : List Int} (hl : ∀ k ∈ l, Pl ms k) {x : Int} (hr : Rch ms l x) : Rch ns (l.map f) (f x) ∧ Pl ms x := by
  induction hr with
  | base hk => exact ⟨.base (List.mem_map_of_mem hk), hl _ hk⟩
  | step _ hk ih => exact ⟨.step ih.1 (by rw [h.kids ih.2]; exact List.mem_map_of_mem hk), kids_pl hP ih.2 _ hk⟩
theorem Iso.dag {ns ms : List Node} {f : Int → Int} (h : Iso ns ms f) (hP : Places ms) (hc : ∀ p : Nat, p < ns.length → ¬ Cyc ns p) : Dag ms := by
  refine ⟨hP, fun p hp hcy => ?_⟩
  have hx : Pl ms (p : Int) := ⟨by omega, by omega⟩
  have h1 := (h.rch hP (kids_pl hP hx) hcy).1
  rw [← h.kids hx] at h1
  have hpl := h.pl _ hx
  obtain ⟨q, hq⟩ : ∃ q : Nat, f (p : Int) = (q : Int) := ⟨(f p).toNat, by have := hpl.1; omega⟩
  rw [hq] at h1 hpl
  exact hc q (by have := hpl.2; omega) h1
theorem idxOf_map {f : Int → Int} {P : Int → Prop} (hf : ∀ x y, P x → P y → f x = f y → x = y) {k : Int} (hk : P k) : ∀ l : List Int, (∀ y ∈ l, P y) → (l.map f).idxOf (f k) = l.idxOf k
  | [], _ => rfl
  | y :: l, h => by
    rw [List.map_cons, List.idxOf_cons, List.idxOf_cons, idxOf_map hf hk l (fun z hz => h z (by simp [hz]))]
    by_cases e : y = k
    · rw [e]; simp
    · have : ¬ f y = f k := fun e' => e (hf y k (h y (by simp)) hk e')
      rw [beq_eq_false_iff_ne.2 e, beq_eq_false_iff_ne.2 this]
theorem Iso.ord {s t : Scene} {f : Int → Int} (h : Iso s.nodes t.nodes f) (hP : Places t.nodes) (hr : Pl t.nodes t.root) (he : s.root = f t.root) : L.ord s = (L.ord t).map f ∧ ∀ x ∈ L.ord t, Pl t.nodes x := by
  unfold L.ord M
  rw [he, h.len]
  exact h.meet hP _ _ [] hr (fun x hx => by simp at hx)
theorem Iso.canonL {s t : Scene} {f : Int → Int} (h : Iso s.nodes t.nodes f) (hP : Places t.nodes) (hr : Pl t.nodes t.root) (he : s.root = f t.root) : L.canonL s = L.canonL t := by
  obtain ⟨ho, hop⟩ := h.ord hP hr he
  unfold L.canonL
  rw [ho, List.map_map]
  refine List.map_congr_left (fun a ha => ?_)
  have hap := hop a ha
  show relab s (L.nd s.nodes (f a).toNat) = relab t (L.nd t.nodes a.toNat)
  unfold relab
  rw [h.nd a hap]
  show Node.mk _ _ _ _ = Node.mk _ _ _ _
  congr 1
  rw [List.map_map]
  refine List.map_congr_left (fun k hk => ?_)
  show ((idx s (f k) : Nat) : Int) = (idx t k : Int)
  unfold idx
  rw [ho, idxOf_map (P := Pl t.nodes) h.inj (kids_pl hP hap k hk) _ hop]
theorem Shut.len {ns : List Node} {m : List Int} (h : Shut ns m) : m.length ≤ ns.length := nodup_len h.nd h.pl
theorem shut_next {ns : List Node} {met : List Int} (hs : Shut ns met) (a : Int) : ∀ x ∈ met, ¬ Rch ns (kids ns x) a ∨ a ∈ met := fun x hx => by
  by_cases hr : Rch ns (kids ns x) a
  · right
    have : ∀ y, Rch ns (kids ns x) y → y ∈ met := fun y hy => by
      induction hy with
      | base hb => exact hs.kids x hx _ hb
      | step _ hb ih => exact hs.kids _ ih _ hb
    exact this a hr
  · exact .inl hr
theorem ord_met' {s : Scene} (hd : Dag s.nodes) (hr : Pl s.nodes s.root) : Met s.nodes s.root [] (ord s) := M_met hd _ _ _ (Nat.lt_succ_self _) hr (Shut.nil _) (fun x hx => by simp at hx)
end Go.Proofs.YtggldnbhmebcpaaDoor.L
end
section
namespace Go.Proofs.YtggldnbhmebcpaaDoor.L
open Go.RowKit Go.ChangeShapes Go.WideShapes Go.Proofs.YtggldnbhmebcpaaDoorW.PrintWords Go.Proofs.YtggldnbhmebcpaaDoorW.PrintLast Go.Proofs.YtggldnbhmebcpaaDoorW.PrintMore
attribute [local go_sem] max2_int min2_int max_two min_two max_three min_three max_four min_four
theorem canon_iso {s : Scene} (h : Right s) : Iso (canonL s) s.nodes (fun x => (idx s x : Int)) := by
  have hlen : (canonL s).length = s.nodes.length := by
    have := ord_len h
    simp [canonL, this]
  refine ⟨hlen, fun x hx => ?_, fun x y hx hy he => ?_, fun x hx => ?_⟩
  · obtain ⟨q, rfl⟩ : ∃ q : Nat, x = (q : Int) := ⟨x.toNat, by have := hx.1; omega⟩
    have := (at_idx h (p := q) (by have := hx.2; omega)).1
    exact ⟨by omega, by omega⟩
  · obtain ⟨q, rfl⟩ : ∃ q : Nat, x = (q : Int) := ⟨x.toNat, by have := hx.1; omega⟩
    obtain ⟨r, rfl⟩ : ∃ r : Nat, y = (r : Int) := ⟨y.toNat, by have := hy.1; omega⟩
    have := idx_inj h (p := q) (q := r) (by have := hx.2; omega) (by have := hy.2; omega) (by
      have he' : (idx s (q : Int) : Int) = (idx s (r : Int) : Int) := he
      omega)
    rw [this]
  · obtain ⟨q, rfl⟩ : ∃ q : Nat, x = (q : Int) := ⟨x.toNat, by have := hx.1; omega⟩
    obtain ⟨h1, h2⟩ := at_idx h (p := q) (by have := hx.2; omega)
    show nd (canonL s) ((idx s (q : Int) : Int)).toNat = _
    rw [Int.toNat_natCast]
    have hl : idx s (q : Int) < (ord s).length := by rw [ord_len h]; exact h1
    unfold canonL
    unfold nd
    rw [List.getD_eq_getElem?_getD, List.getElem?_map, List.getElem?_eq_getElem hl]
    have h3 : (ord s)[idx s (q : Int)] = (q : Int) := (rd_eq hl).symm.trans h2
    rw [h3]
    rfl
theorem canon_root {s : Scene} (h : Right s) : (s.nodes.length : Int) - 1 = (idx s s.root : Int) := by
  have hpl : Pl s.nodes s.root := ⟨h.r0, h.r1⟩
  have ho : ord s = ML s.nodes (kids s.nodes s.root) [] ++ [s.root] := by
    show M s.nodes s.root [] = _
    exact M_out h.dag hpl (by simp)
  have hl := ord_len h
  have hnd := ord_nodup h
  rw [ho] at hl hnd
  rw [List.length_append, List.length_singleton] at hl
  have hni : ¬ s.root ∈ ML s.nodes (kids s.nodes s.root) [] := fun hm => by
    exact (List.nodup_append.1 hnd).2.2 s.root hm s.root (by simp) rfl
  unfold idx
  rw [ho, List.idxOf_append, if_neg hni]
  simp
  omega
theorem canon_right {s : Scene} (h : Right s) : Right ⟨canonL s, (s.nodes.length : Int) - 1⟩ := by
  have hi := canon_iso h
  have hlen : (canonL s).length = s.nodes.length := hi.len
  have hn : 0 < s.nodes.length := by have := h.r0; have := h.r1; omega
  have hsur : ∀ m : Nat, m < (canonL s).length → ∃ q : Nat, q < s.nodes.length ∧ (m : Int) = (idx s (q : Int) : Int) := fun m hm => by
    obtain ⟨q, hq, hqn⟩ := ord_at h (m := m) (by omega)
    refine ⟨q, hqn, ?_⟩
    have := idx_at h (m := m) (by omega)
    rw [hq] at this
    rw [this]
  refine ⟨by show 0 ≤ (s.nodes.length : Int) - 1; omega, by show (s.nodes.length : Int) - 1 < ((canonL s).length : Int); omega, fun m hm k hk => ?_, fun m hm hc => ?_, fun m hm => ?_⟩
  · obtain ⟨q, hq, e⟩ := hsur m hm
    have hkk : k ∈ kids (canonL s) (idx s (q : Int) : Int) := by rw [← e]; unfold kids; rw [Int.toNat_natCast]; exact hk
    rw [hi.kids ⟨by omega, by omega⟩] at hkk
    obtain ⟨x, hx, rfl⟩ := List.mem_map.1 hkk
    exact hi.pl x (kids_pl h.pl ⟨by omega, by omega⟩ x hx)
  · obtain ⟨q, hq, e⟩ := hsur m hm
    have hqp : Pl s.nodes (q : Int) := ⟨by omega, by omega⟩
    have back : ∀ (l : List Int), (∀ k ∈ l, Pl s.nodes k) → ∀ y, Rch (canonL s) (l.map (fun x => (idx s x : Int))) y → ∃ x, Pl s.nodes x ∧ y = (idx s x : Int) ∧ Rch s.nodes l x := fun l hl y hy => by
      induction hy with
      | base hk =>
        obtain ⟨x, hx, rfl⟩ := List.mem_map.1 hk
        exact ⟨x, hl x hx, rfl, .base hx⟩
      | step _ hk ih =>
        obtain ⟨x, hx, rfl, hrx⟩ := ih
        rw [hi.kids hx] at hk
        obtain ⟨z, hz, rfl⟩ := List.mem_map.1 hk
        exact ⟨z, kids_pl h.pl hx z hz, rfl, .step hrx hz⟩
    have hc' : Rch (canonL s) (kids (canonL s) (m : Int)) (m : Int) := hc
    rw [e, hi.kids hqp] at hc'
    obtain ⟨x, hx, ex, hrx⟩ := back _ (kids_pl h.pl hqp) _ hc'
    have := hi.inj _ _ hqp hx ex
    rw [← this] at hrx
    exact h.cyc q hq hrx
  · obtain ⟨q, hq, e⟩ := hsur m hm
    rw [e]
    have h1 := (hi.rch h.pl (l := [s.root]) (fun k hk => by rw [List.mem_singleton.1 hk]; exact ⟨h.r0, h.r1⟩) (h.all q hq)).1
    show Rch (canonL s) [(s.nodes.length : Int) - 1] _
    rw [canon_root h]
    exact h1
end Go.Proofs.YtggldnbhmebcpaaDoor.L
end
section
namespace Go.Proofs.YtggldnbhmebcpaaDoor.L
open Go.RowKit Go.ChangeShapes Go.WideShapes Go.Proofs.YtggldnbhmebcpaaDoorW.PrintWords Go.Proofs.YtggldnbhmebcpaaDoorW.PrintLast Go.Proofs.YtggldnbhmebcpaaDoorW.PrintMore
attribute [local go_sem] max2_int min2_int max_two min_two max_three min_three max_four min_four
theorem isC_right {s : Scene} (h : isC s = true) : Right s := by
  have h1 := (of_decide_eq_true h).2
  refine gcheck_right.1 (Classical.byContradiction fun hn => ?_)
  unfold nums at h1
  rw [if_neg hn] at h1
  simp at h1
theorem ord_iota {s : Scene} (h : Right s) : (ord s).map (fun x => (idx s x : Int)) = iota s.nodes.length := by
  have hl := ord_len h
  refine List.ext_getElem (by rw [List.length_map, hl, iota_len]) (fun m h1 h2 => ?_)
  rw [List.length_map] at h1
  rw [List.getElem_map]
  have h3 := idx_at h (m := m) (by omega)
  rw [rd_eq h1] at h3
  rw [h3]
  have h4 := iota_rd s.nodes.length m (by omega)
  rw [rd_eq h2] at h4
  exact h4.symm
theorem canon_ord {s : Scene} (h : Right s) : ord ⟨canonL s, (s.nodes.length : Int) - 1⟩ = iota s.nodes.length := by
  have hi := canon_iso h
  have := (hi.ord (s := ⟨canonL s, (s.nodes.length : Int) - 1⟩) h.pl ⟨h.r0, h.r1⟩ (canon_root h)).1
  rw [this]
  exact ord_iota h
theorem idxOf_iota (n p : Nat) (h : p < n) : (iota n).idxOf (p : Int) = p := by
  have hp : p < (iota n).length := by rw [iota_len]; exact h
  have hnd : (iota n).Nodup := by
    unfold iota
    refine List.pairwise_map.2 (List.Pairwise.imp ?_ List.nodup_range)
    intro a b hab e
    exact hab (by omega)
  have e : (iota n)[p] = (p : Int) := by have := iota_rd n p h; rwa [rd_eq hp] at this
  have := hnd.idxOf_getElem p hp
  rwa [e] at this
theorem canon_isC {s : Scene} (h : Right s) : isC ⟨canonL s, (s.nodes.length : Int) - 1⟩ = true := by
  have hr := canon_right h
  have hlen : (canonL s).length = s.nodes.length := (canon_iso h).len
  have hn : 0 < s.nodes.length := by have := h.r0; have := h.r1; omega
  have hnum : nums ⟨canonL s, (s.nodes.length : Int) - 1⟩ = iota s.nodes.length := by
    unfold nums
    rw [if_pos (gcheck_right.2 hr)]
    unfold numsL
    show (List.range (canonL s).length).map _ = _
    rw [hlen]
    unfold iota
    refine List.map_congr_left (fun p hp => ?_)
    unfold idx
    rw [canon_ord h, idxOf_iota _ _ (List.mem_range.1 hp)]
  refine decide_eq_true ?_
  rw [hnum, iota_len]
  exact ⟨rfl, hn⟩
theorem isC_idx {s : Scene} (h : Right s) (hc : isC s = true) {p : Nat} (hp : p < s.nodes.length) : idx s (p : Int) = p := by
  have h1 := (of_decide_eq_true hc).1
  have h2 : nums s = numsL s := by unfold nums; rw [if_pos (gcheck_right.2 h)]
  rw [h2, numsL_len] at h1
  have h3 := numsL_rd s p hp
  rw [h1, iota_rd _ _ hp] at h3
  omega
theorem isC_eq {s : Scene} (h : Right s) (hc : isC s = true) : s = ⟨canonL s, (s.nodes.length : Int) - 1⟩ := by
  have hlen : (canonL s).length = s.nodes.length := (canon_iso h).len
  have hroot : s.root = (s.nodes.length : Int) - 1 := by
    have h1 := canon_root h
    obtain ⟨r, hr⟩ : ∃ r : Nat, s.root = (r : Int) := ⟨s.root.toNat, by have := h.r0; omega⟩
    rw [hr] at h1
    rw [isC_idx h hc (p := r) (by have := h.r1; omega)] at h1
    omega
  have hnodes : s.nodes = canonL s := by
    refine List.ext_getElem hlen.symm (fun p h1 h2 => ?_)
    have h3 := (canon_iso h).nd (p : Int) ⟨by omega, by omega⟩
    rw [isC_idx h hc h1, Int.toNat_natCast] at h3
    unfold nd kids nd at h3
    rw [Int.toNat_natCast, getD_eq _ h2, getD_eq _ h1] at h3
    rw [h3]
    generalize hx : s.nodes[p] = x
    have hk : ∀ k ∈ x.kids, Pl s.nodes k := fun k hk => h.pl p h1 k (by unfold nd; rw [getD_eq _ h1, hx]; exact hk)
    have e : x.kids.map (fun x => (idx s x : Int)) = x.kids := by
      conv => rhs; rw [← List.map_id x.kids]
      refine List.map_congr_left (fun k hkk => ?_)
      have hkp := hk k hkk
      obtain ⟨q, rfl⟩ : ∃ q : Nat, k = (q : Int) := ⟨k.toNat, by have := hkp.1; omega⟩
      show ((idx s (q : Int) : Nat) : Int) = _
      rw [isC_idx h hc (by have := hkp.2; omega)]
      rfl
    cases x
    simp only at e ⊢
    rw [e]
  cases s
  simp only at hnodes hroot ⊢
  congr 1
theorem isC_iff {s : Scene} (h : Right s) : isC s = true ↔ (⟨canonL s, (s.nodes.length : Int) - 1⟩ : Scene) = s :=
  ⟨fun hc => (isC_eq h hc).symm, fun e => by have := canon_isC h; rwa [e] at this⟩
end Go.Proofs.YtggldnbhmebcpaaDoor.L
end
section
namespace Go.Proofs.YtggldnbhmebcpaaDoor.L
open Go.RowKit Go.ChangeShapes Go.WideShapes Go.Proofs.YtggldnbhmebcpaaDoorW.PrintWords Go.Proofs.YtggldnbhmebcpaaDoorW.PrintLast Go.Proofs.YtggldnbhmebcpaaDoorW.PrintMore
attribute [local go_sem] max2_int min2_int max_two min_two max_three min_three max_four min_four
def PO (ns : List Node) (m : List Int) : Prop := ∀ (a : List Int) (x : Int) (b : List Int), m = a ++ x :: b → ∀ k ∈ kids ns x, k ∈ a
theorem PO.nil (ns : List Node) : PO ns [] := fun a x b e => by
  have := congrArg List.length e
  simp at this
theorem PO.snoc {ns : List Node} {m : List Int} {x : Int} (h : PO ns m) (hk : ∀ k ∈ kids ns x, k ∈ m) : PO ns (m ++ [x]) := fun a y b e => by
  rcases snoc_cases b with rfl | ⟨b', z, rfl⟩
  · have e1 : m ++ [x] = a ++ [y] := e
    obtain ⟨rfl, e2⟩ := List.append_inj' e1 rfl
    injection e2 with e2
    subst e2
    exact hk
  · have e1 : m ++ [x] = (a ++ y :: b') ++ [z] := by rw [e]; simp
    obtain ⟨e2, _⟩ := List.append_inj' e1 rfl
    exact h a y b' e2
theorem M_po {ns : List Node} (h : Dag ns) : ∀ (N : Nat) (a : Int) (met : List Int), reachN ns a < N → Pl ns a → Shut ns met → PO ns met → PO ns (M ns a met)
  | 0, _, _, hN, _, _, _ => by omega
  | N + 1, a, met, hN, ha, hs, hp => by
    by_cases hm : a ∈ met
    · rw [M_in h ha hm]; exact hp
    · rw [M_out h ha hm]
      have key : ∀ (l met : List Int), (∀ k ∈ l, k ∈ kids ns a) → Shut ns met → PO ns met → (PO ns (ML ns l met) ∧ (∀ x ∈ met, x ∈ ML ns l met) ∧ ∀ k ∈ l, k ∈ ML ns l met) := by
        intro l
        induction l with
        | nil => intro met _ hs hp; exact ⟨hp, fun x hx => hx, fun k hk => by simp at hk⟩
        | cons k l ih =>
          intro met hl hs hp
          have hk := hl k (by simp)
          have hN' : reachN ns k < N := by have := h.lower ha hk; omega
          have m1 := M_met h N k met hN' (h.kid ha hk) hs (shut_next hs k)
          have p1 := M_po h N k met hN' (h.kid ha hk) hs hp
          obtain ⟨r1, e1, _⟩ := m1.ext
          obtain ⟨p2, i2, k2⟩ := ih (M ns k met) (fun y hy => hl y (by simp [hy])) m1.shut p1
          rw [ML_cons]
          refine ⟨p2, fun x hx => i2 x (by rw [e1]; exact List.mem_append_left _ hx), fun y hy => ?_⟩
          rcases List.mem_cons.1 hy with rfl | hy
          · exact i2 _ m1.here
          · exact k2 y hy
      obtain ⟨p2, _, k2⟩ := key (kids ns a) met (fun _ hk => hk) hs hp
      exact p2.snoc k2
theorem ord_po {s : Scene} (h : Right s) : PO s.nodes (ord s) := M_po h.dag _ _ _ (Nat.lt_succ_self _) ⟨h.r0, h.r1⟩ (Shut.nil _) (PO.nil _)
theorem idx_kid {s : Scene} (h : Right s) {p : Nat} (hp : p < s.nodes.length) {k : Int} (hk : k ∈ (nd s.nodes p).kids) : idx s k < idx s (p : Int) := by
  obtain ⟨a, b, e⟩ := List.append_of_mem (ord_all h p hp)
  have hka : k ∈ a := ord_po h a (p : Int) b e k (by rw [kids_nat]; exact hk)
  have hnd := ord_nodup h
  have hpa : ¬ (p : Int) ∈ a := fun hm => by
    rw [e] at hnd
    exact (List.nodup_append.1 hnd).2.2 _ hm _ (by simp) rfl
  unfold idx
  rw [e, List.idxOf_append, if_pos hka, List.idxOf_append, if_neg hpa]
  have := List.idxOf_lt_length_of_mem hka
  omega
theorem isC_ahead {s : Scene} (h : Right s) (hc : isC s = true) {p : Nat} (hp : p < s.nodes.length) {k : Int} (hk : k ∈ (nd s.nodes p).kids) : 0 ≤ k ∧ k < (p : Int) := by
  have hpl := h.pl p hp k hk
  obtain ⟨q, rfl⟩ : ∃ q : Nat, k = (q : Int) := ⟨k.toNat, by omega⟩
  have h1 := idx_kid h hp hk
  rw [isC_idx h hc (by omega), isC_idx h hc hp] at h1
  omega
end Go.Proofs.YtggldnbhmebcpaaDoor.L
end
section
namespace Go.Proofs.YtggldnbhmebcpaaDoor.L
open Go.RowKit Go.ChangeShapes Go.WideShapes Go.Proofs.YtggldnbhmebcpaaDoorW.PrintWords Go.Proofs.YtggldnbhmebcpaaDoorW.PrintLast Go.Proofs.YtggldnbhmebcpaaDoorW.PrintMore
attribute [local go_sem] max2_int min2_int max_two min_two max_three min_three max_four min_four
section
open Go.Maps
variable {P : Program} {k : TypeId} {w w1 : World} {b n : Nat} {f : Lit → Option Value}
def MapN (P : Program) (k : TypeId) (w : World) (b n : Nat) (f : Lit → Option Value) : Prop :=
  ∃ D : DataW Value, w.ownsMap P k heldE b n D ∧ Maps.size D = n ∧ ∀ q, Maps.has D q = (f q).isSome ∧ ∀ v z, f q = some v → D.atKey q z = .held v
theorem MapN.toF (h : MapN P k w b n f) : MapF P k w b n f := by
  obtain ⟨D, h1, _, h2⟩ := h
  exact ⟨D, h1, h2⟩
theorem MapN.made (P : Program) (k : TypeId) (w : World) : MapN P k (w.alloc (.map #[] 0)) w.heap.size 0 (fun _ => none) :=
  ⟨.map [], World.ownsMap_made w P k heldE, rfl, fun q => ⟨rfl, fun v z h => by cases h⟩⟩
theorem MapN.kept {row : Option Nat} (h : MapN P k w b n f) (hg : w.grownBy w1 row) (hne : some b ≠ row) : MapN P k w1 b n f := by
  obtain ⟨D, h, hs, hf⟩ := h
  exact ⟨D, h.kept hg hne, hs, hf⟩
theorem MapN.below (h : MapN P k w b n f) (hb : Below w.heap.size w w1) : MapN P k w1 b n f := h.kept (row := none) ⟨hb.os, hb.tape, hb.output, hb.size, fun i hi _ => hb.block i hi⟩ (by simp)
theorem MapN.lt (h : MapN P k w b n f) : b < w.heap.size := h.toF.lt
end
section
open Go.Maps
variable {P : Program} (w : World) {ops : Array Oper} {rest : List Oper} {o : Oper} {a : Act} {Q : Exit → Act → World → Prop}
theorem wpList_update_N (hg : o.guard = none) (m x v : Operand) (t : TypeId) (hop : o.op = Op.mapUpdate t m x v)
    (k e : TypeId) (K : Keyed P k) (ht : P.underlying t = some (.map k e)) (b n : Nat) (f : Lit → Option Value)
    (hm : a.eval m = .map (some b)) (hown : MapN P k w b n f) (hn : n < maxLen) (key val : Value) (kl : Lit) (hx : a.eval x = key) (hv : a.eval v = val) (hkey : keyOf P k key = some kl) (hnew : f kl = none)
    (hK : ∀ w', MapN P k w' b (n + 1) (putF f kl val) → w.grownBy w' (some b) → wpList P ops Q rest (a.put o.dst undef) w') :
    wpList P ops Q (o :: rest) a w := by
  obtain ⟨D, hown, hs, hf⟩ := hown
  have hm' := hown.isMap
  have htd := hown.tidy K
  have hkl : WideAt.IsKeyLit kl := K.key hkey
  refine wpList_mapUpdate_own w hg m x v t hop k e K ht heldE b n D hm hown hn key val kl hx hv hkey (.held val) [] rfl ?_
  intro w' h1 h2
  refine hK w' ⟨_, h1, ?_, fun q => ?_⟩ h2
  · rw [Maps.size_put htd]
    have h3 := (hf kl).1
    rw [hnew] at h3
    rw [h3, hs]; rfl
  by_cases hq : q = kl
  · subst hq
    rw [Maps.has_put_same hm' hkl, putF_same]
    refine ⟨rfl, fun u z hu => ?_⟩
    cases hu
    exact Maps.atKey_put_same hm' hkl _ _
  · rw [Maps.has_put_other hq, putF_other f val hq]
    refine ⟨(hf q).1, fun u z hu => ?_⟩
    rw [Maps.atKey_put_other hq]
    exact (hf q).2 u z hu
theorem wpList_len_N (hg : o.guard = none) (m : Operand) (t : TypeId) (hop : o.op = Op.call { callee := Callee.builtin Builtin.len, args := #[m], argTypes := #[t] })
    (k e : TypeId) (ht : P.underlying t = some (.map k e)) (b n : Nat) (f : Lit → Option Value) (hm : a.eval m = .map (some b)) (hown : MapN P k w b n f)
    (hK : wpList P ops Q rest (a.put o.dst (.int .i64 (n : Int))) w) :
    wpList P ops Q (o :: rest) a w := by
  obtain ⟨D, hown, hs, hf⟩ := hown
  refine wpList_len_own w hg m t hop k e ht heldE b n D hm hown ?_
  rw [hs]; exact hK
end
theorem keyW : Maps.Keyed Tryd.prog 9 := Maps.string_keyed Tryd.underlying9
theorem keyW_of {s : List UInt8} (h : s.length ≤ maxLen) : keyOf Tryd.prog 9 (.string ⟨s.toArray⟩) = some (.string s) := by
  have h1 := Go.WideMaps.keyOf_string_mk (P := Tryd.prog) (k := 9) (s := ⟨s.toArray⟩) Tryd.underlying9 (by show s.toArray.size ≤ _; simpa using h)
  simpa using h1
theorem zeroIW (w : World) : (zeroValue 3).run Tryd.prog w = .ok (.int .i64 0) w := by kernel_rfl
def numF (vs : List (List UInt8)) : Lit → Option Value
  | .string x => if x ∈ vs then some (.int .i64 (vs.idxOf x : Int)) else none
  | _ => none
theorem numF_nil : numF [] = fun _ => none := by
  funext q
  cases q <;> rfl
theorem numF_in {vs : List (List UInt8)} {x : List UInt8} (h : x ∈ vs) (z : Value) : (numF vs (.string x)).getD z = .int .i64 (vs.idxOf x : Int) ∧ (numF vs (.string x)).isSome = true := by
  unfold numF
  dsimp only
  rw [if_pos h]; exact ⟨rfl, rfl⟩
theorem numF_out {vs : List (List UInt8)} {x : List UInt8} (h : ¬ x ∈ vs) (z : Value) : (numF vs (.string x)).getD z = z ∧ (numF vs (.string x)).isSome = false ∧ numF vs (.string x) = none := by
  unfold numF
  dsimp only
  rw [if_neg h]; exact ⟨rfl, rfl, rfl⟩
theorem numF_put {vs : List (List UInt8)} {x : List UInt8} (h : ¬ x ∈ vs) : putF (numF vs) (.string x) (.int .i64 (vs.length : Int)) = numF (vs ++ [x]) := by
  funext q
  by_cases hq : q = .string x
  · subst hq
    rw [putF_same]
    unfold numF
    dsimp only
    rw [if_pos (by simp), List.idxOf_append, if_neg h]
    simp
  · rw [putF_other _ _ hq]
    cases q with
    | string y =>
      have hy : y ≠ x := fun e => hq (by rw [e])
      unfold numF
      dsimp only
      by_cases hm : y ∈ vs
      · rw [if_pos hm, if_pos (by simp [hm]), List.idxOf_append, if_pos hm]
      · rw [if_neg hm, if_neg (by simp [hm, hy])]
    | _ => rfl
def kInts : Kd (List Int) := Kd.slice 3 (Kd.int .i64)
structure ClsIn (w Wg : World) (mb : Nat) (vs : List (List UInt8)) (own : List Int) (v : Value) (W : World) : Prop where
  map : MapN Tryd.prog 9 W mb vs.length (numF vs)
  own : (Kd.int .i64).R 3 W w.heap.size (fun q => Wg.heap.size ≤ q) v own
  grown : Wg.grownBy W (some mb)
  below : Below w.heap.size w W
theorem grown_below {Wg W W1 : World} {row : Option Nat} (h : Wg.grownBy W row) (hb : Below W.heap.size W W1) : Wg.grownBy W1 row :=
  ⟨hb.os.trans h.os, hb.tape.trans h.tape, hb.output.trans h.output, Nat.le_trans h.size hb.size, fun i hi hr => (hb.block i (Nat.lt_of_lt_of_le hi h.size)).trans (h.block i hi hr)⟩
theorem ClsIn.later {w Wg : World} {mb : Nat} {vs : List (List UInt8)} {own : List Int} {v : Value} {W W1 : World} (h : ClsIn w Wg mb vs own v W) (hb : Below W.heap.size W W1) : ClsIn w Wg mb vs own v W1 :=
  ⟨h.map.below hb, Kd.R_grown (row := none) h.own ⟨hb.os, hb.tape, hb.output, hb.size, fun i hi _ => hb.block i hi⟩ (fun _ _ => by simp), grown_below h.grown hb, below_step h.below hb⟩
structure ClsOut (w : World) (mb : Nat) (vs : List (List UInt8)) (outs : List (List Int)) (v : Value) (W : World) : Prop where
  map : MapN Tryd.prog 9 W mb vs.length (numF vs)
  out : kInts.R 27 W w.heap.size (fun _ => True) v outs
  below : Below w.heap.size w W
  ge : w.heap.size ≤ mb
theorem ClsOut.later {w : World} {mb : Nat} {vs : List (List UInt8)} {outs : List (List Int)} {v : Value} {W W1 : World} (h : ClsOut w mb vs outs v W) (hb : Below W.heap.size W W1) : ClsOut w mb vs outs v W1 :=
  ⟨h.map.below hb, Kd.R_grown (row := none) h.out ⟨hb.os, hb.tape, hb.output, hb.size, fun i hi _ => hb.block i hi⟩ (fun _ _ => by simp), below_step h.below hb, h.ge⟩
theorem own_vs_len (T : Lib.PrintTabs) (vs : List (List UInt8)) : ∀ (n : Nat) (ns : List Node), ns.length = n → (ownS T vs ns).1.length ≤ vs.length + n
  | n, ns, hn => by
    rcases snoc_cases ns with rfl | ⟨l, x, rfl⟩
    · show vs.length ≤ _; omega
    · rw [own_snoc]
      match n, hn with
      | 0, hn => simp at hn
      | n + 1, hn =>
        have := own_vs_len T vs n l (by simpa using hn)
        show (addW (ownS T vs l).1 _).length ≤ _
        unfold addW
        split
        · omega
        · simp; omega
theorem all_vs_len (T : Lib.PrintTabs) : ∀ (n : Nat) (l : List Scene), l.length = n → (∀ s ∈ l, s.nodes.length ≤ 400000) → (allS T l).1.length ≤ n * 400000
  | n, l, hn, hs => by
    rcases snoc_cases l with rfl | ⟨l, x, rfl⟩
    · show 0 ≤ _; omega
    · rw [all_snoc]
      match n, hn with
      | 0, hn => simp at hn
      | n + 1, hn =>
        have h1 := all_vs_len T n l (by simpa using hn) (fun s h => hs s (by simp [h]))
        have h2 := own_vs_len T (allS T l).1 x.nodes.length x.nodes rfl
        have h3 := hs x (by simp)
        show (ownS T (allS T l).1 x.nodes).1.length ≤ _
        rw [Nat.succ_mul]
        omega
theorem own_vals (T : Lib.PrintTabs) (vs : List (List UInt8)) (ns : List Node) : ∀ x ∈ (ownS T vs ns).2, 0 ≤ x ∧ x ≤ ((ownS T vs ns).1.length : Int) := by
  intro x hx
  obtain ⟨i, hi, rfl⟩ := List.getElem_of_mem hx
  obtain ⟨h1, h2⟩ := own_riseN T vs ns.length (ns := ns) rfl
  rw [own_len T vs ns.length ns rfl] at hi
  have h3 := h1 i hi
  have h4 := cnt_mono (ownS T vs ns).2 vs.length (i := i) (j := ns.length) (by omega)
  rw [rd_eq (by rw [own_len T vs ns.length ns rfl]; exact hi)] at h3
  omega
theorem nodeW_len (T : Lib.PrintTabs) {n : Node} {own : List Int} (hs : Small n) (hts : ∀ x ∈ n.texts, x.size ≤ 1000000) (hn : NBd n) (hk : ∀ k ∈ n.kids, 0 ≤ k ∧ k < (own.length : Int)) (hoB : ∀ x ∈ own, I64 x) : (nodeW T n own).length ≤ maxLen := by
  have h1 := itoa_len hn.kind
  have h2 := wNums_len hn.ints
  have h3 := wTexts_len T hts
  have h4 := wNums_len (l := n.kids.map (rd own)) (fun x hx => by
    obtain ⟨q, hq, rfl⟩ := List.mem_map.1 hx
    have h1 := hk q hq
    obtain ⟨p, rfl⟩ : ∃ p : Nat, q = (p : Int) := ⟨q.toNat, by omega⟩
    exact hoB _ (rd_mem (by omega)))
  rw [List.length_map] at h4
  have e : (nodeW T n own).length = (Lib.itoa n.kind).length + ((wNums n.ints).length + ((wTexts T n.texts).length + (2 + (wNums (n.kids.map (rd own))).length))) := by
    unfold nodeW wordL
    simp only [List.length_append, List.length_cons]
    omega
  have h5 := hs.1
  have h6 := hs.2.1
  have h7 := hs.2.2
  unfold maxLen
  omega
end Go.Proofs.YtggldnbhmebcpaaDoor.L
end
section
namespace Go.Proofs.YtggldnbhmebcpaaDoor.L
open Go.RowKit Go.ChangeShapes Go.WideShapes Go.Proofs.YtggldnbhmebcpaaDoorW.PrintWords Go.Proofs.YtggldnbhmebcpaaDoorW.PrintLast Go.Proofs.YtggldnbhmebcpaaDoorW.PrintMore
attribute [local go_sem] max2_int min2_int max_two min_two max_three min_three max_four min_four
theorem zeroSl (w : World) : (zeroValue 27).run Tryd.prog w = .ok (.slice none 0 0) w := by kernel_rfl
def KeepT (T : TypeId) (W W' : World) : Prop := ∀ (g : Nat) (cs : Array Value) (t : TypeId), T ≠ t → W.heap[g]? = some (.cells cs t (0, 0)) → W'.heap[g]? = some (.cells cs t (0, 0))
theorem heap_lt {W : World} {g : Nat} {o : Obj} (h : W.heap[g]? = some o) : g < W.heap.size := by
  rcases Nat.lt_or_ge g W.heap.size with h1 | h1
  · exact h1
  · rw [Array.getElem?_eq_none (by omega)] at h; cases h
set_option maxRecDepth 100000 in
set_option maxHeartbeats 4000000 in
theorem fadd_any {w0 W : World} {mb n : Nat} {f : Lit → Option Value} {tg : Nat → List UInt8} {rows : List UInt8 → List Int} (h : RowsM w0 W mb n f tg rows) (q : List UInt8) (x : Int) (hq : q.length ≤ maxLen) (hn : n < maxLen) (hl : (rows q).length ≤ 1000000) :
    Calls Tryd.prog 23 #[.map (some mb), .string ⟨q.toArray⟩, .int .i64 x] W (fun e W' => e = .returned (.tuple #[]) ∧ ∃ f' tg', RowsM w0 W' mb (n + 1) f' tg' (updR rows q x) ∧ KeepT 3 W W') := by
  have HR := Aside0.mk h
  have HQ := Aside0.mk (keyW_of hq)
  have hL := h.lend q
  obtain ⟨A, c, hv⟩ := Kd.R_slice hL
  rw [hv] at hL
  have HL := Aside0.mk hL
  have HV := Aside0.mk hv
  clear h hL hv hq
  go_enter Tryd.func23, Tryd.ntmps23
  go_wp2_with (first
    | (at_lookup; refine wpList_lookup_F _ rfl (.tmp 8) (.tmp 9) 54 rfl 9 27 keyW Tryd.underlying54 (zeroSl _) mb n f rfl HR.out.map (.string ⟨q.toArray⟩) (.string q) rfl HQ.out (.slice A (rows q).length c) HV.out ?_)
    | (at_builtin; refine Kd.R_append (Kd.int .i64) (w0 := w0) w0.heap.size rfl (.tmp 10) (.tmp 12) 27 3 (.int .i64 0) 8 rfl Tryd.underlying27 info_int rfl (by decide) (by omega) (.slice A (rows q).length c) (rows q) x [.int .i64 x] (fun k => tgN tg W.heap.size q k = q) (fun _ => False) rfl (by go_simp) rfl (fun _ h => h.elim) (RowsM.fresh q) HL.out HR.out.below HR.out.below.size (by omega) ?_; intro v7 w7 hR7 hB7 hg7 _; have HG7 := Aside0.mk hg7; have HP := Aside0.mk (HR.out.push (q := q) (x := x) hR7 hB7 (by rw [HV.out]; exact hg7)); clear hR7 hB7 hg7)
    | (at_mapUpdate; refine wpList_update_F _ rfl (.tmp 6) (.tmp 7) (.tmp 13) 54 rfl 9 27 keyW Tryd.underlying54 mb n f rfl HP.out.1 hn (.string ⟨q.toArray⟩) v7 (.string q) rfl rfl HQ.out ?_; intro w3 hM3 hg3; have HG3 := Aside0.mk hg3; have HX := Aside0.mk (HP.out.2 w3 hM3 hg3); clear hM3 hg3))
  refine bodyPost_end (results_none rfl _ _ _) rfl ?_
  refine ⟨rfl, ⟨_, _, HX.out⟩, fun g cs t ht hg => ?_⟩
  have h1 : some g ≠ (Value.slice A (rows q).length c).ownBlock := Kd.R_ne HL.out hg ht
  have h2 := (HG7.out.block g (heap_lt hg) h1).trans hg
  have h3 : some g ≠ some mb := fun e => by
    injection e with e
    subst e
    exact HP.out.1.not_cells h2
  exact (HG3.out.block g (heap_lt h2) h3).trans h2
theorem visF_at {tk : List Int} {k : Int} : (visF tk (.int .i64 k)).getD (.bool false) = .bool (decide (k ∈ tk)) := by
  by_cases h : k ∈ tk
  · rw [visF_in h, decide_eq_true h]
  · rw [visF_out h, decide_eq_false h]
theorem row_cell {W : World} {base c d : Nat} {ok : Nat → Prop} {A A' : Option Addr} {c' : Nat} {r : List Int} (hR : (Kd.int .i64).R 3 W base ok (.slice A r.length c) r) (hA : d < r.length → A' = A.map (fun a => a.add d) ∧ c' = c - d) (hd : d < r.length) :
    ∃ g, A' = some ⟨g, d, none⟩ ∧ A = some ⟨g, 0, none⟩ ∧ c' = c - d ∧ r.length ≤ c ∧ (∃ cells, W.heap[g]? = some (.cells cells 3 (0, 0))) ∧ W.cell? ⟨g, d, none⟩ = some (.int .i64 (rd r (d : Int))) := by
  obtain ⟨g, cap, e, hb, hlt, hcells⟩ := Kd.R_form hR (by omega)
  injection e with e1 e2 e3
  subst e1 e3
  obtain ⟨h1, h2⟩ := hA hd
  refine ⟨g, ?_, rfl, h2, (Kd.R_reads' hR).2.1, hcells, (ints_cell hR d hd).1⟩
  rw [h1]
  simp [Addr.add]
  omega
def TakePost (w0 : World) (N mb tb n m : Nat) (full : List UInt8 → List Int) (tk : List Int) (q : List UInt8) (W : World) (e : Ending) (W' : World) : Prop :=
  e = .returned (.int .i64 (firstL (full q) tk)) ∧ ∃ n' m' f' cut', n' ≤ n + 1 ∧ m' ≤ m + 1 ∧ FreeM w0 W' N mb n' f' full cut' ∧
    MapF Tryd.prog 3 W' tb m' (visF (if 0 ≤ firstL (full q) tk then firstL (full q) tk :: tk else tk)) ∧
    (∀ p, ∀ x ∈ (full p).take (cut' p), x ∈ (if 0 ≤ firstL (full q) tk then firstL (full q) tk :: tk else tk)) ∧
    (∀ {α : Type} (d : Kd α) (t base : Nat) (ok : Nat → Prop) (v : Value) (xs : List α), d.R t W base ok v xs → d.R t W' base ok v xs) ∧
    ∀ (g : Nat) (cs : Array Value) (t : TypeId) (fr : Nat × Nat), W.heap[g]? = some (.cells cs t fr) → W'.heap[g]? = some (.cells cs t fr)
set_option maxRecDepth 100000 in
set_option maxHeartbeats 4000000 in
theorem ftake_any {w0 W : World} {N mb tb n m : Nat} {f : Lit → Option Value} {full : List UInt8 → List Int} {cut : List UInt8 → Nat} {tk : List Int} (hF : FreeM w0 W N mb n f full cut) (hT : MapF Tryd.prog 3 W tb m (visF tk)) (hne : mb ≠ tb) (hge : w0.heap.size ≤ tb)
    (hcut : ∀ p, ∀ x ∈ (full p).take (cut p), x ∈ tk) (q : List UInt8) (hin : ∀ x ∈ full q, 0 ≤ x ∧ x ≤ 1000000) (hl : (full q).length ≤ 1000000) (hq : q.length ≤ maxLen) (hn : n < maxLen) (hm : m < maxLen) :
    Calls Tryd.prog 26 #[.map (some mb), .string ⟨q.toArray⟩, .map (some tb)] W (TakePost w0 N mb tb n m full tk q W) := by
  have HF := Aside0.mk hF
  have HT := Aside0.mk hT
  have HCut := Aside0.mk hcut
  have HIn := Aside0.mk hin
  have HNe := Aside0.mk hne
  have HGe := Aside0.mk hge
  have HQ := Aside0.mk (keyW_of hq)
  obtain ⟨hc0, A, c, hR, A0, c0, hv, hA⟩ := hF.row q
  have HR := Aside0.mk hR
  have HV := Aside0.mk hv
  obtain ⟨r, hr⟩ : ∃ r, r = full q := ⟨_, rfl⟩
  have HE := Aside0.mk hr
  have HC0 := Aside0.mk (hcut q)
  rw [← hr] at hc0 hl hA HR HV HIn HC0
  have HL0 := Aside0.mk (And.intro hc0 hA)
  clear hF hT hcut hin hne hge hq hR hv hr hc0 hA
  go_enter Tryd.func26, Tryd.ntmps26
  go_wp2_with (first
    | (at_lookup; refine wpList_lookup_F _ rfl (.tmp 8) (.tmp 9) 54 rfl 9 27 keyW Tryd.underlying54 (zeroSl _) mb n f rfl HF.out.map (.string ⟨q.toArray⟩) (.string q) rfl HQ.out (.slice A0 (r.length - cut q) c0) HV.out ?_))
  go_loopw [7] (fun v7 Wr => Wr = W ∧ ∃ (d : Nat) (A' : Option Addr) (c' : Nat), d ≤ r.length ∧ v7 = .slice A' (r.length - d) c' ∧ Aside0 ((d < r.length → A' = A.map (fun a => a.add d) ∧ c' = c - d) ∧ ∀ x ∈ r.take d, x ∈ tk)) (fun v7 _ => match v7 with | .slice _ n _ => n | _ => 0)
  case atStart => exact ⟨rfl, cut q, A0, c0, HL0.out.1, rfl, ⟨HL0.out.2, HC0.out⟩⟩
  case round =>
    obtain ⟨rfl, d, A', c', hd, rfl, HD⟩ := hrel
    by_cases hlt : d < r.length
    · obtain ⟨g, rfl, hAg, hcc, hrc, hblk, hcell⟩ := row_cell HR.out HD.out.1 hlt
      obtain ⟨k, hk⟩ : ∃ k, r.length - d = k + 1 := ⟨r.length - d - 1, by omega⟩
      rw [hk]
      have hx := HIn.out (rd r (d : Int)) (by rw [rd_eq hlt]; exact List.getElem_mem hlt)
      have HK := Aside0.mk (keyI_of (x := rd r (d : Int)) (by omega) (by omega))
      by_cases hmem : rd r (d : Int) ∈ tk
      · have HVis := Aside0.mk (show (visF tk (.int .i64 (rd r (d : Int)))).getD (.bool false) = .bool true from by rw [visF_at, decide_eq_true hmem])
        have HMore := Aside0.mk (take_more hlt HD.out.2 hmem)
        go_wp2_with (at_lookup; refine wpList_lookup_F _ rfl (.tmp 16) (.tmp 19) 37 rfl 3 4 keyI Tryd.underlying37 (zeroB _) tb m (visF tk) rfl HT.out (.int .i64 (rd r (d : Int))) (.int .i64 (rd r (d : Int))) rfl HK.out (.bool true) HVis.out ?_)
        go_roundw
        case rel =>
          refine ⟨trivial, d + 1, (if c - d = 1 then some ⟨g, d, none⟩ else some ⟨g, d + 1, none⟩), c - d - 1, by omega, by rw [show r.length - (d + 1) = k from by omega], ⟨fun hd2 => ⟨?_, by omega⟩, HMore.out⟩⟩
          rw [if_neg (by omega), hAg]
          simp [Addr.add]
        case measure => show k < k + 1; omega
      · have HVis := Aside0.mk (show (visF tk (.int .i64 (rd r (d : Int)))).getD (.bool false) = .bool false from by rw [visF_at, decide_eq_false hmem])
        have HAt := Aside0.mk (firstL_at hlt HD.out.2 hmem)
        have HPut := Aside0.mk (take_put hlt HD.out.2)
        have HRc := Aside0.mk hrc
        have HKl := Aside0.mk (And.intro hk hcc)
        have HL := Aside0.mk (And.intro hlt hx.1)
        subst hAg
        by_cases hc1 : c - d = 1
        all_goals
          have HC1 := Aside0.mk hc1
          go_wp2_with (first
            | (at_lookup; refine wpList_lookup_F _ rfl (.tmp 16) (.tmp 19) 37 rfl 3 4 keyI Tryd.underlying37 (zeroB _) tb m (visF tk) rfl HT.out (.int .i64 (rd r (d : Int))) (.int .i64 (rd r (d : Int))) rfl HK.out (.bool false) HVis.out ?_)
            | (at_mapUpdate; refine wpList_update_F _ rfl (.tmp 22) (.tmp 25) _ 37 rfl 3 4 keyI Tryd.underlying37 tb m (visF tk) rfl HT.out hm (.int .i64 (rd r (d : Int))) (.bool true) (.int .i64 (rd r (d : Int))) rfl rfl HK.out ?_; intro w3 hM3 hg3; have HM3 := Aside0.mk hM3; have HF3 := Aside0.mk (HF.out.past HT.out hg3 HNe.out HGe.out); have HR3 := Aside0.mk (R_past_map HR.out HT.out hg3); have c3 := (ints_cell HR3.out d hlt).1; have HG3 := Aside0.mk hg3; clear hM3 hg3)
            | (at_mapUpdate; refine wpList_update_F _ rfl (.tmp 26) (.tmp 27) (.tmp 29) 54 rfl 9 27 keyW Tryd.underlying54 mb n f rfl HF3.out.map hn (.string ⟨q.toArray⟩) _ (.string q) rfl rfl HQ.out ?_; intro w4 hM4 hg4; have HM4 := Aside0.mk hM4; have HR4 := Aside0.mk (R_past_map HR3.out HF3.out.map hg4); have c4 := (ints_cell HR4.out d hlt).1; have HG4 := Aside0.mk hg4; clear hM4 hg4))
          go_ret
          have hx0 := HL.out.2
          have hc1 := HC1.out
          obtain rfl := HE.out
          have hk := HKl.out.1
          have hrc := HRc.out
          have hM4 : ∃ (A' : Option Addr) (c2 : Nat), (d + 1 < (full q).length → A' = some (⟨g, d + 1, none⟩ : Addr) ∧ c2 = c - (d + 1)) ∧ MapF Tryd.prog 9 w4 mb (n + 1) (putF f (.string q) (.slice A' ((full q).length - (d + 1)) c2)) := by
            rw [show (full q).length - (d + 1) = k from by omega]
            exact ⟨_, _, fun hd2 => (by first | exact ⟨rfl, by omega⟩ | (exfalso; omega)), HM4.out⟩
          obtain ⟨A', c2, hA', hM4⟩ := hM4
          have hF4 := HF3.out.cutTo (d := d + 1) (by omega) HR3.out (fun hd2 => ⟨by rw [(hA' hd2).1]; simp [Addr.add], (hA' hd2).2⟩) hM4 HG4.out
          refine ⟨by rw [HAt.out]; rfl, n + 1, m + 1, _, _, Nat.le_refl _, Nat.le_refl _, hF4, ?_, fun p x hx => ?_, fun {α} d t base ok v xs h => R_past_map (R_past_map h HT.out HG3.out) HF3.out.map HG4.out, fun g cs t fr hg => ?_⟩
          · rw [HAt.out, if_pos hx0, ← visF_put]
            exact HM3.out.kept HG4.out (fun e => HNe.out (by injection e with e; exact e.symm))
          · rw [HAt.out, if_pos hx0]
            by_cases hp : p = q
            · subst hp
              rw [if_pos rfl] at hx
              exact HPut.out x hx
            · rw [if_neg hp] at hx
              exact List.mem_cons_of_mem _ (HCut.out p x hx)
          · have h1 := (HG3.out.block g (heap_lt hg) (fun e => by injection e with e; subst e; exact HT.out.not_cells hg)).trans hg
            exact (HG4.out.block g (heap_lt h1) (fun e => by injection e with e; subst e; exact HF3.out.map.not_cells h1)).trans h1
    · obtain rfl : d = r.length := by omega
      have HEnd := Aside0.mk (firstL_end (r := r) (tk := tk) (fun x hx => HD.out.2 x (by rw [List.take_length]; exact hx)))
      rw [Nat.sub_self]
      go_wp2
      go_ret
      obtain rfl := HE.out
      refine ⟨by rw [HEnd.out]; rfl, n, m, f, cut, Nat.le_succ _, Nat.le_succ _, HF.out, ?_, ?_, fun {α} d t base ok v xs h => h, fun g cs t fr hg => hg⟩
      · rw [HEnd.out, if_neg (by omega)]; exact HT.out
      · rw [HEnd.out, if_neg (by omega)]; exact HCut.out
end Go.Proofs.YtggldnbhmebcpaaDoor.L
end
section
namespace Go.Proofs.YtggldnbhmebcpaaDoor.L
open Go.RowKit Go.ChangeShapes Go.WideShapes Go.Proofs.YtggldnbhmebcpaaDoorW.PrintWords Go.Proofs.YtggldnbhmebcpaaDoorW.PrintLast Go.Proofs.YtggldnbhmebcpaaDoorW.PrintMore
attribute [local go_sem] max2_int min2_int max_two min_two max_three min_three max_four min_four
theorem bytes_app (a b : List UInt8) : (⟨a.toArray⟩ : ByteArray) ++ ⟨b.toArray⟩ = ⟨(a ++ b).toArray⟩ := by
  apply ByteArray.ext
  simp [ByteArray.append_eq, ByteArray.append]
theorem kindW_eq (n : Node) : ((((((⟨#[107, 105, 110, 100, 32]⟩ : ByteArray) ++ ⟨(Lib.itoa n.kind).toArray⟩) ++ ⟨#[32]⟩) ++ ⟨(Lib.itoa (n.ints.length : Int)).toArray⟩) ++ ⟨#[32]⟩) ++ ⟨(Lib.itoa (n.texts.length : Int)).toArray⟩) = ⟨(kindW n).toArray⟩ := by
  rw [show (⟨#[107, 105, 110, 100, 32]⟩ : ByteArray) = ⟨[107, 105, 110, 100, 32].toArray⟩ from rfl, show (⟨#[32]⟩ : ByteArray) = ⟨[32].toArray⟩ from rfl]
  simp only [bytes_app]
  unfold kindW wNums
  simp
theorem kindW_len {n : Node} (hs : Small n) (hk : I64 n.kind) : (kindW n).length ≤ maxLen := by
  have h1 := itoa_len hk
  have h2 := itoa_len (x := (n.ints.length : Int)) ⟨by omega, by have := hs.1; omega⟩
  have h3 := itoa_len (x := (n.texts.length : Int)) ⟨by omega, by have := hs.2.1; omega⟩
  unfold kindW wNums maxLen
  simp
  omega
set_option maxRecDepth 100000 in
set_option maxHeartbeats 8000000 in
theorem mkind_any (T : Lib.PrintTabs) (n : Node) (A1 : Option Addr) (c1 : Nat) (A2 : Option Addr) (c2 : Nat) (A3 : Option Addr) (c3 : Nat) (w : World) (hs : Small n) (hk : I64 n.kind) (hT : QTabs T w) :
    Calls Tryd.prog 25 #[.agg #[.int .i64 n.kind, .slice A1 n.ints.length c1, .slice A2 n.texts.length c2, .slice A3 n.kids.length c3]] w fun e w' => e = .returned (.string ⟨(kindW n).toArray⟩) ∧ Below w.heap.size w w' := by
  have hi1 : I64 (n.ints.length : Int) := ⟨by omega, by have := hs.1; omega⟩
  have hi2 : I64 (n.texts.length : Int) := ⟨by omega, by have := hs.2.1; omega⟩
  have hl0 := itoa_len hk
  have hl1 := itoa_len hi1
  have hl2 := itoa_len hi2
  have HA := Aside0.mk (below_alloc (Below.refl w.heap.size w) (.cells #[.int .i64 n.kind, .slice A1 n.ints.length c1, .slice A2 n.texts.length c2, .slice A3 n.kids.length c3] 46))
  have x0 := box_cell w _ rfl #[.int .i64 n.kind, .slice A1 n.ints.length c1, .slice A2 n.texts.length c2, .slice A3 n.kids.length c3] 46 0 (.int .i64 n.kind) rfl
  have x1 := box_cell w _ rfl #[.int .i64 n.kind, .slice A1 n.ints.length c1, .slice A2 n.texts.length c2, .slice A3 n.kids.length c3] 46 1 (.slice A1 n.ints.length c1) rfl
  have x2 := box_cell w _ rfl #[.int .i64 n.kind, .slice A1 n.ints.length c1, .slice A2 n.texts.length c2, .slice A3 n.kids.length c3] 46 2 (.slice A2 n.texts.length c2) rfl
  have HT1 := Aside0.mk (hT.below HA.out)
  have hun := Tryd.underlying46
  have HE := Aside0.mk (kindW_eq n)
  obtain ⟨X0, hX0⟩ : ∃ X : ByteArray, X = ⟨(Lib.itoa n.kind).toArray⟩ := ⟨_, rfl⟩
  obtain ⟨X1, hX1⟩ : ∃ X : ByteArray, X = ⟨(Lib.itoa (n.ints.length : Int)).toArray⟩ := ⟨_, rfl⟩
  obtain ⟨X2, hX2⟩ : ∃ X : ByteArray, X = ⟨(Lib.itoa (n.texts.length : Int)).toArray⟩ := ⟨_, rfl⟩
  have HC0 := Aside0.mk (fun (W : World) (hW : Below (w.alloc (.cells #[.int .i64 n.kind, .slice A1 n.ints.length c1, .slice A2 n.texts.length c2, .slice A3 n.kids.length c3] 46)).heap.size (w.alloc (.cells #[.int .i64 n.kind, .slice A1 n.ints.length c1, .slice A2 n.texts.length c2, .slice A3 n.kids.length c3] 46)) W) => itoa_any T n.kind W hk (HT1.out.below hW))
  have HC1 := Aside0.mk (fun (W : World) (hW : Below (w.alloc (.cells #[.int .i64 n.kind, .slice A1 n.ints.length c1, .slice A2 n.texts.length c2, .slice A3 n.kids.length c3] 46)).heap.size (w.alloc (.cells #[.int .i64 n.kind, .slice A1 n.ints.length c1, .slice A2 n.texts.length c2, .slice A3 n.kids.length c3] 46)) W) => itoa_any T (n.ints.length : Int) W hi1 (HT1.out.below hW))
  have HC2 := Aside0.mk (fun (W : World) (hW : Below (w.alloc (.cells #[.int .i64 n.kind, .slice A1 n.ints.length c1, .slice A2 n.texts.length c2, .slice A3 n.kids.length c3] 46)).heap.size (w.alloc (.cells #[.int .i64 n.kind, .slice A1 n.ints.length c1, .slice A2 n.texts.length c2, .slice A3 n.kids.length c3] 46)) W) => itoa_any T (n.texts.length : Int) W hi2 (HT1.out.below hW))
  have z0 : X0.size ≤ 100 := by rw [hX0]; show (Lib.itoa n.kind).toArray.size ≤ _; simp; omega
  have z1 : X1.size ≤ 100 := by rw [hX1]; show (Lib.itoa (n.ints.length : Int)).toArray.size ≤ _; simp; omega
  have z2 : X2.size ≤ 100 := by rw [hX2]; show (Lib.itoa (n.texts.length : Int)).toArray.size ≤ _; simp; omega
  rw [← hX0] at HC0
  rw [← hX1] at HC1
  rw [← hX2] at HC2
  rw [← hX0, ← hX1, ← hX2] at HE
  clear hX0 hX1 hX2 hl0 hl1 hl2
  obtain ⟨S1, hS1⟩ : ∃ S : ByteArray, S = (⟨#[107, 105, 110, 100, 32]⟩ : ByteArray) ++ X0 := ⟨_, rfl⟩
  obtain ⟨S2, hS2⟩ : ∃ S : ByteArray, S = S1 ++ ⟨#[32]⟩ := ⟨_, rfl⟩
  obtain ⟨S3, hS3⟩ : ∃ S : ByteArray, S = S2 ++ X1 := ⟨_, rfl⟩
  obtain ⟨S4, hS4⟩ : ∃ S : ByteArray, S = S3 ++ ⟨#[32]⟩ := ⟨_, rfl⟩
  obtain ⟨S5, hS5⟩ : ∃ S : ByteArray, S = S4 ++ X2 := ⟨_, rfl⟩
  have g0 : (⟨#[107, 105, 110, 100, 32]⟩ : ByteArray).size = 5 := rfl
  have g1 : (⟨#[32]⟩ : ByteArray).size = 1 := rfl
  have y1 : S1.size = 5 + X0.size := by rw [hS1, ByteArray.size_append, g0]
  have y2 : S2.size = S1.size + 1 := by rw [hS2, ByteArray.size_append, g1]
  have y3 : S3.size = S2.size + X1.size := by rw [hS3, ByteArray.size_append]
  have y4 : S4.size = S3.size + 1 := by rw [hS4, ByteArray.size_append, g1]
  have r1 : ∀ W : World, (Op.stringOp .add (⟨#[107, 105, 110, 100, 32]⟩ : ByteArray) X0).run Tryd.prog W = .ok (.string S1) W := fun W => by rw [hS1]; exact run_string_add_sum W _ _ (by omega)
  have r2 : ∀ W : World, (Op.stringOp .add S1 (⟨#[32]⟩ : ByteArray)).run Tryd.prog W = .ok (.string S2) W := fun W => by rw [hS2]; exact run_string_add_sum W _ _ (by omega)
  have r3 : ∀ W : World, (Op.stringOp .add S2 X1).run Tryd.prog W = .ok (.string S3) W := fun W => by rw [hS3]; exact run_string_add_sum W _ _ (by omega)
  have r4 : ∀ W : World, (Op.stringOp .add S3 (⟨#[32]⟩ : ByteArray)).run Tryd.prog W = .ok (.string S4) W := fun W => by rw [hS4]; exact run_string_add_sum W _ _ (by omega)
  have r5 : ∀ W : World, (Op.stringOp .add S4 X2).run Tryd.prog W = .ok (.string S5) W := fun W => by rw [hS5]; exact run_string_add_sum W _ _ (by omega)
  have HE5 : Aside0 (S5 = ⟨(kindW n).toArray⟩) := ⟨by rw [hS5, hS4, hS3, hS2, hS1]; exact HE.out⟩
  clear hT hs hS1 hS2 hS3 hS4 hS5 z0 z1 z2 g0 g1 y1 y2 y3 y4 HE hk hi1 hi2 HT1
  go_enter Tryd.func25, Tryd.ntmps25
  go_wp2
  generalize w.alloc (.cells #[.int .i64 n.kind, .slice A1 n.ints.length c1, .slice A2 n.texts.length c2, .slice A3 n.kids.length c3] 46) = w1 at HA x0 x1 x2 HC0 HC1 HC2 ⊢
  have N0 : ∀ W, Below w1.heap.size w1 W → W.cell? ⟨w.heap.size, 0, none⟩ = some (.int .i64 n.kind) := fun W h => pw_cell_below h x0
  have N1 : ∀ W, Below w1.heap.size w1 W → W.cell? ⟨w.heap.size, 1, none⟩ = some (.slice A1 n.ints.length c1) := fun W h => pw_cell_below h x1
  have N2 : ∀ W, Below w1.heap.size w1 W → W.cell? ⟨w.heap.size, 2, none⟩ = some (.slice A2 n.texts.length c2) := fun W h => pw_cell_below h x2
  clear x0 x1 x2
  go_region_held3 (fun W => Below w1.heap.size w1 W)
    (repeat' (first
      | with_reducible assumption
      | with_reducible exact Below.refl _ _
      | with_reducible refine below_drew ?_))
    (first
      | (go_at_call 24; (first | refine (HC0.out _ (by first | assumption | exact below_drew (Below.refl _ _) | exact Below.refl _ _)).mono ?_ | refine (HC1.out _ (by first | assumption | exact below_drew (Below.refl _ _) | exact Below.refl _ _)).mono ?_ | refine (HC2.out _ (by first | assumption | exact below_drew (Below.refl _ _) | exact Below.refl _ _)).mono ?_); rintro e w6 ⟨rfl, hB⟩; have hS := below_step (by first | assumption | exact below_drew (Below.refl _ _) | exact Below.refl _ _) hB; clear hB))
  all_goals
    go_wp2
    go_ret
    exact ⟨by rw [HE5.out]; rfl, below_step HA.out hS⟩
end Go.Proofs.YtggldnbhmebcpaaDoor.L
end
section
namespace Go.Proofs.YtggldnbhmebcpaaDoor.L
open Go.RowKit Go.ChangeShapes Go.WideShapes Go.Proofs.YtggldnbhmebcpaaDoorW.PrintWords Go.Proofs.YtggldnbhmebcpaaDoorW.PrintLast Go.Proofs.YtggldnbhmebcpaaDoorW.PrintMore
attribute [local go_sem] max2_int min2_int max_two min_two max_three min_three max_four min_four
def kScene : Kd Scene := Kd.iso (Kd.pair (Kd.slice 46 kNode) (Kd.int .i64)) (fun x : Scene => (x.nodes, x.root))
theorem kScene_open {w : World} {x : Scene} {cs : List Value} (h : kScene.K w x cs) : ∃ A c, cs = [.slice A x.nodes.length c, .int .i64 x.root] ∧ x.nodes.length ≤ c ∧ kNode.C w A x.nodes.length x.nodes := by
  obtain ⟨_, _, rfl, ⟨A, c, rfl, l, h⟩, rfl⟩ := h
  exact ⟨A, c, rfl, l, h⟩
def sc (xs : List Scene) (i : Nat) : Scene := xs.getD i ⟨[], 0⟩
theorem at_scene {w : World} {A : Option Addr} {n : Nat} {xs : List Scene} (h : kScene.C w A n xs) (i : Nat) (h1 : i < n) :
    ∃ ad B d, A = some ad ∧ w.cell? (ad.add (i * 2)) = some (.slice B (sc xs i).nodes.length d) ∧ w.cell? ⟨(ad.add (i * 2)).block, (ad.add (i * 2)).off + 1, none⟩ = some (.int .i64 (sc xs i).root) ∧ (sc xs i).nodes.length ≤ d ∧ kNode.C w B (sc xs i).nodes.length (sc xs i).nodes := by
  obtain ⟨ad, c, e, _, hK, hc0⟩ := Kd.C_get h ⟨[], 0⟩ (i : Int) (by omega) (by omega)
  have hc : ∀ j u, c[j]? = some u → w.cell? (ad.add (i * 2 + j)) = some u := fun j u h => by simpa [show kScene.sz = 2 from rfl] using hc0 j u h
  have hK' : kScene.K w (sc xs i) c := by simpa [sc] using hK
  obtain ⟨B, d, rfl, hl, hN⟩ := kScene_open hK'
  refine ⟨ad, B, d, e, hc 0 _ rfl, ?_, hl, hN⟩
  rw [← add_field _ _ 1 (by omega)]; exact hc 1 _ rfl
end Go.Proofs.YtggldnbhmebcpaaDoor.L
end
section
namespace Go.Proofs.YtggldnbhmebcpaaDoor.L
open Go.RowKit Go.ChangeShapes Go.WideShapes Go.Proofs.YtggldnbhmebcpaaDoorW.PrintWords Go.Proofs.YtggldnbhmebcpaaDoorW.PrintLast Go.Proofs.YtggldnbhmebcpaaDoorW.PrintMore
attribute [local go_sem] max2_int min2_int max_two min_two max_three min_three max_four min_four
def ScBd (s : Scene) : Prop := (∀ i : Nat, i < s.nodes.length → Small (nd s.nodes i) ∧ (∀ x ∈ (nd s.nodes i).texts, x.size ≤ 1000000) ∧ NBd (nd s.nodes i)) ∧ rows s.nodes ≤ 400000
def NumsPost (T : Lib.PrintTabs) (l : List Scene) (w : World) (e : Ending) (w' : World) : Prop :=
  Below w.heap.size w w' ∧ (((∀ i : Nat, i < l.length → isC (sc l i) = true) ∧ ∃ v, e = .returned (.tuple #[v, .int .i64 0]) ∧ kInts.R 27 w' w.heap.size (fun _ => True) v (allS T l).2) ∨
    ((∃ i : Nat, i < l.length ∧ isC (sc l i) = false) ∧ e = .returned (.tuple #[.slice none 0 0, .int .i64 16])))
theorem take_sc {l : List Scene} {i : Nat} (h : i < l.length) : l.take (i + 1) = l.take i ++ [sc l i] := by rw [take_succ_getD ⟨[], 0⟩ h]; rfl
theorem take_nd' {l : List Node} {i : Nat} (h : i < l.length) : l.take (i + 1) = l.take i ++ [nd l i] := by rw [take_succ_getD nodez h]; rfl
theorem grown_trans {Wg W W1 : World} {mb : Nat} {row : Option Nat} (h : Wg.grownBy W (some mb)) (hg : W.grownBy W1 row) (hr : ∀ k, row = some k → k = mb ∨ Wg.heap.size ≤ k) : Wg.grownBy W1 (some mb) :=
  ⟨hg.os.trans h.os, hg.tape.trans h.tape, hg.output.trans h.output, Nat.le_trans h.size hg.size, fun i hi hn => (hg.block i (Nat.lt_of_lt_of_le hi h.size) (fun e => by
    rcases hr i e.symm with h1 | h1
    · exact hn (by rw [h1])
    · omega)).trans (h.block i hi hn)⟩
theorem ClsIn.pushed {w Wg W W2 : World} {mb : Nat} {us : List (List UInt8)} {own : List Int} {x : Int} {v v2 : Value} (h : ClsIn w Wg mb us own v W) (hR : (Kd.int .i64).R 3 W2 w.heap.size (fun q => Wg.heap.size ≤ q) v2 (own ++ [x])) (hB : Below w.heap.size w W2) (hg : W.grownBy W2 v.ownBlock) : ClsIn w Wg mb us (own ++ [x]) v2 W2 :=
  ⟨h.map.kept hg (h.map.toF.ne_row h.own), hR, grown_trans h.grown hg (fun k hk => .inr (h.own.1 k hk)), hB⟩
theorem ClsIn.put {w Wg W W2 : World} {mb : Nat} {us : List (List UInt8)} {own : List Int} {x : List UInt8} {v : Value} (h : ClsIn w Wg mb us own v W) (hx : ¬ x ∈ us) (hM : MapN Tryd.prog 9 W2 mb (us.length + 1) (putF (numF us) (.string x) (.int .i64 (us.length : Int)))) (hg : W.grownBy W2 (some mb)) (hmb : w.heap.size ≤ mb) : ClsIn w Wg mb (us ++ [x]) own v W2 := by
  rw [numF_put hx] at hM
  exact ⟨by rw [List.length_append]; exact hM, R_past_map h.own h.map.toF hg, grown_trans h.grown hg (fun k hk => .inl (by injection hk with hk; exact hk.symm)), below_map h.below h.below.size hg hmb⟩
theorem ClsIn.whole {w Wg W : World} {mb : Nat} {vs us : List (List UInt8)} {outs : List (List Int)} {own : List Int} {vo v : Value} (ho : ClsOut w mb vs outs vo Wg) (h : ClsIn w Wg mb us own v W) : kInts.R 27 W w.heap.size (fun q => q < Wg.heap.size) vo outs :=
  Kd.R_mono (Kd.R_grown (Kd.R_bound ho.out) h.grown (fun q hq he => by
    obtain ⟨_, _, _, e', _, cells, hc⟩ := hq
    injection he with he
    subst he
    exact ho.map.toF.not_cells hc)) (fun q hq => hq.2.2.1)
theorem infoInts : (Tryd.prog.info? 27).map (fun i => (i.zero, i.size, i.bytes)) = some (some (.slice none 0 0), 1, 24) := by kernel_rfl
theorem ClsOut.pushed {w Wg W W2 : World} {mb : Nat} {us : List (List UInt8)} {outs : List (List Int)} {own : List Int} {vo v v2 : Value} (h : ClsIn w Wg mb us own v W) (ho : kInts.R 27 W w.heap.size (fun q => q < Wg.heap.size) vo outs) (hR : kInts.R 27 W2 w.heap.size (fun _ => True) v2 (outs ++ [own])) (hB : Below w.heap.size w W2) (hg : W.grownBy W2 vo.ownBlock) (hm : w.heap.size ≤ mb) : ClsOut w mb us (outs ++ [own]) v2 W2 :=
  ⟨h.map.kept hg (h.map.toF.ne_row ho), hR, hB, hm⟩
set_option maxRecDepth 100000 in
set_option maxHeartbeats 8000000 in
theorem numbers_any (T : Lib.PrintTabs) (A : Option Addr) (c : Nat) (l : List Scene) (w : World) (h : kScene.C w A l.length l) (hB : ∀ i : Nat, i < l.length → ScBd (sc l i)) (hn : l.length ≤ 1000000) (hT : QTabs T w) :
    Calls Tryd.prog 22 #[.slice A l.length c] w (NumsPost T l w) := by
  have HR := Aside0.mk h
  have HBd := Aside0.mk hB
  have HT := Aside0.mk hT
  have hus := Tryd.underlying24
  have hun := Tryd.underlying46
  have hmm := @run_makeMap Tryd.prog
  have HO0 : Aside0 (ClsOut w w.heap.size [] [] (.slice none 0 0) (w.alloc (.map #[] 0))) :=
    ⟨by rw [numF_nil]; exact MapN.made Tryd.prog 9 w, Kd.R_nil _ _ _ _ _, below_alloc (Below.refl _ _) _, Nat.le_refl _⟩
  clear h hB hT
  go_enter Tryd.func22, Tryd.ntmps22
  go_wp2
  clear hmm
  generalize w.alloc (.map #[] 0) = w0 at HO0 ⊢
  generalize hmb : w.heap.size = mb at HO0
  go_loopw [17, 5] (fun v17 v5 W => ∃ (i : Nat) (vo : Value), i ≤ l.length ∧ v17 = .int .i64 i ∧ vo = v5 ∧ Aside0 (∀ k : Nat, k < i → isC (sc l k) = true) ∧ Aside0 (ClsOut w mb (allS T (l.take i)).1 (allS T (l.take i)).2 vo W)) (fun v17 _ _ => l.length - (intOf v17).toNat)
  case atStart => exact ⟨0, _, by omega, rfl, rfl, ⟨fun k h => by omega⟩, ⟨by rw [List.take_zero]; exact HO0.out⟩⟩
  case round =>
    clear HO0
    obtain ⟨i, vo, hi, rfl, rfl, HC, HO⟩ := hrel
    by_cases hlt : i < l.length
    · obtain ⟨ad, B, d, rfl, x0, x1, hd, hS⟩ := at_scene HR.out i hlt
      replace x0 := pw_cell_below HO.out.below x0
      replace x1 := pw_cell_below HO.out.below x1
      have HSb := Aside0.mk (HBd.out i hlt)
      have HS := Aside0.mk hS
      have HTk := Aside0.mk (take_sc hlt)
      have HId := Aside0.mk (show l.length ≤ 1000000 ∧ i < l.length ∧ isC (sc l i) = isC (sc l i) from ⟨hn, hlt, rfl⟩)
      have HVs := Aside0.mk (all_vs_len T i (l.take i) (by rw [List.length_take]; omega) (fun s hs => by
        obtain ⟨k, hk, rfl⟩ := List.getElem_of_mem hs
        have hk' : k < l.length := by rw [List.length_take] at hk; omega
        have h1 := (HBd.out k hk').2
        have e : sc l k = (l.take i)[k] := by rw [List.getElem_take]; unfold sc; rw [getD_eq _ hk']
        rw [← e]
        exact Nat.le_trans (len_rows _) h1))
      have HAll := Aside0.mk (show allS T (l.take (i + 1)) = ((ownS T (allS T (l.take i)).1 (sc l i).nodes).1, (allS T (l.take i)).2 ++ [(ownS T (allS T (l.take i)).1 (sc l i).nodes).2]) from by rw [take_sc hlt, all_snoc])
      have HOl := Aside0.mk (show (allS T (l.take i)).2.length ≤ 1000000 from by
        have : ∀ m : List Scene, (allS T m).2.length = m.length := fun m => by
          have key : ∀ (n : Nat) (m : List Scene), m.length = n → (allS T m).2.length = n := fun n => by
            induction n with
            | zero => intro m hm; obtain rfl := List.eq_nil_of_length_eq_zero hm; rfl
            | succ n ih =>
              intro m hm
              rcases snoc_cases m with rfl | ⟨m, x, rfl⟩
              · simp at hm
              · rw [all_snoc]
                show ((allS T m).2 ++ [_]).length = n + 1
                rw [List.length_append, ih m (by simpa using hm)]; rfl
          exact key m.length m rfl
        rw [this, List.length_take]; omega)
      clear hS hd
      obtain ⟨s, hs⟩ : ∃ s, s = sc l i := ⟨_, rfl⟩
      rw [← hs] at x0 x1 HSb HS HAll
      have HEq := Aside0.mk hs
      clear hs
      generalize allS T (l.take i) = st at HO HVs HAll HOl
      obtain ⟨vs, outs⟩ := st
      have HO : Aside0 (ClsOut w mb vs outs vo wr) := HO
      have HVs : Aside0 (vs.length ≤ i * 400000) := HVs
      have HOl : Aside0 (outs.length ≤ 1000000) := HOl
      have HAll : Aside0 (allS T (l.take (i + 1)) = ((ownS T vs s.nodes).1, outs ++ [(ownS T vs s.nodes).2])) := HAll
      have hA := below_alloc (Below.refl wr.heap.size wr) (.cells #[.slice B s.nodes.length d, .int .i64 s.root] 24)
      have q0 := box_cell wr _ rfl #[.slice B s.nodes.length d, .int .i64 s.root] 24 0 (.slice B s.nodes.length d) rfl
      have q1 := box_cell wr _ rfl #[.slice B s.nodes.length d, .int .i64 s.root] 24 1 (.int .i64 s.root) rfl
      have HO1 := Aside0.mk (HO.out.later hA)
      clear hA HO
      go_wp2_with fail
      refine (is_any B d s _ (Kd.C_below HS.out HO1.out.below) HSb.out.2).mono ?_
      rintro e wg ⟨rfl, hB1⟩
      replace q0 := pw_cell_below hB1 q0
      have HO2 := Aside0.mk (HO1.out.later hB1)
      clear hB1 HO1 x0 x1 q1
      cases hic : isC s with
      | false =>
        have HBad := Aside0.mk (show ∃ i : Nat, i < l.length ∧ isC (sc l i) = false from ⟨i, hlt, by rw [← HEq.out]; exact hic⟩)
        clear hic q0
        go_wp2
        go_ret2
        exact ⟨HO2.out.below, .inr ⟨HBad.out, rfl⟩⟩
      | true =>
        have HAh := Aside0.mk (show AheadN s.nodes from fun p hp k hk => isC_ahead (isC_right hic) hic hp hk)
        have HCi := Aside0.mk (ext_lt HC.out (show isC (sc l i) = true by rw [← HEq.out]; exact hic))
        have hnl : s.nodes.length ≤ 400000 := Nat.le_trans (len_rows _) HSb.out.2
        have HI0 : Aside0 (ClsIn w wg mb vs [] (.slice none 0 0) wg) := ⟨HO2.out.map, Kd.R_nil _ _ _ _ _, ⟨rfl, rfl, rfl, Nat.le_refl _, fun _ _ _ => rfl⟩, HO2.out.below⟩
        clear hic HC
        go_wp2
        clear q0
        go_loopw [27, 8] (fun v27 v8 W => ∃ (j : Nat) (vw : Value), j ≤ s.nodes.length ∧ v27 = .int .i64 j ∧ vw = v8 ∧ Aside0 (ClsIn w wg mb (ownS T vs (s.nodes.take j)).1 (ownS T vs (s.nodes.take j)).2 vw W)) (fun v27 _ _ => s.nodes.length - (intOf v27).toNat)
        case atStart => exact ⟨0, _, by omega, rfl, rfl, ⟨by rw [List.take_zero]; exact HI0.out⟩⟩
        case round =>
          clear HI0
          obtain ⟨j, vw, hj, rfl, rfl, HI⟩ := hrel
          by_cases hjl : j < s.nodes.length
          · obtain ⟨an, A1, c1, A2, c2, A3, c3, rfl, y0, y1, y2, y3, hN⟩ := at_node HS.out j hjl
            replace y0 := pw_cell_below HI.out.below y0
            replace y1 := pw_cell_below HI.out.below y1
            replace y2 := pw_cell_below HI.out.below y2
            replace y3 := pw_cell_below HI.out.below y3
            have HN := Aside0.mk hN
            have HNb := Aside0.mk (HSb.out.1 j hjl)
            have HTk2 := Aside0.mk (show ownS T vs (s.nodes.take (j + 1)) = numStep T (ownS T vs (s.nodes.take j)) (nd s.nodes j) from by rw [take_nd' hjl, own_snoc])
            have HLn := Aside0.mk (show (ownS T vs (s.nodes.take j)).2.length = j from own_len T vs j (s.nodes.take j) (by rw [List.length_take]; omega))
            have HVl := Aside0.mk (show (ownS T vs (s.nodes.take j)).1.length ≤ vs.length + j from own_vs_len T vs j (s.nodes.take j) (by rw [List.length_take]; omega))
            have HVv := Aside0.mk (own_vals T vs (s.nodes.take j))
            have HKd := Aside0.mk (HAh.out j hjl)
            have HIb := Aside0.mk (show i < 1000000 ∧ j < s.nodes.length from ⟨by omega, hjl⟩)
            generalize ownS T vs (s.nodes.take j) = st at HI HTk2 HLn HVl HVv
            obtain ⟨us, own⟩ := st
            have HI : Aside0 (ClsIn w wg mb us own vw wr) := HI
            have HLn : Aside0 (own.length = j) := HLn
            have HVl : Aside0 (us.length ≤ vs.length + j) := HVl
            have HVv : Aside0 (∀ x ∈ own, 0 ≤ x ∧ x ≤ (us.length : Int)) := HVv
            have HUb := Aside0.mk (show us.length ≤ 1000000000000 from by
              have h1 := HVl.out
              have h2 := HVs.out
              have h3 := HIb.out
              have h4 : i * 400000 ≤ 1000000 * 400000 := Nat.mul_le_mul_right _ (by omega)
              omega)
            have HVi := Aside0.mk (show ∀ x ∈ own, I64 x from fun x hx => by
              have h1 := HVv.out x hx
              have h2 := HUb.out
              exact ⟨by omega, by omega⟩)
            have HKk := Aside0.mk (show ∀ k ∈ (nd s.nodes j).kids, 0 ≤ k ∧ k < (own.length : Int) from fun k hk => by
              have := HKd.out k hk
              have := HLn.out
              omega)
            obtain ⟨Ao, co, hv8⟩ := Kd.R_slice HI.out.own
            subst hv8
            have HTk3 := Aside0.mk (show numStep T (us, own) (nd s.nodes j) = (addW us (nodeW T (nd s.nodes j) own), own ++ [((addW us (nodeW T (nd s.nodes j) own)).idxOf (nodeW T (nd s.nodes j) own) : Int)]) from rfl)
            generalize hnn : nd s.nodes j = n at y0 y1 y2 y3 HN HNb HTk2 HKk HTk3
            clear hnn hN
            have hA := below_alloc (Below.refl wr.heap.size wr) (.cells #[.int .i64 n.kind, .slice A1 n.ints.length c1, .slice A2 n.texts.length c2, .slice A3 n.kids.length c3] 46)
            have HJ := Aside0.mk (HI.out.later hA)
            clear hA HI
            have HLo := Aside0.mk (Kd.R_reads' HJ.out.own)
            go_wp2_with fail
            refine (word_any T n A1 c1 A2 c2 A3 c3 Ao co own _ (HN.out.below HJ.out.below) HNb.out.1 HNb.out.2.1 HNb.out.2.2 HLo.out.2.2 HKk.out HVi.out (HT.out.below HJ.out.below)).mono ?_
            rintro e w5 ⟨rfl, hB5⟩
            have HK := Aside0.mk (HJ.out.later hB5)
            clear hB5 HJ y0 y1 y2 y3 HLo
            have HWl := Aside0.mk (keyW_of (nodeW_len T HNb.out.1 HNb.out.2.1 HNb.out.2.2 HKk.out HVi.out))
            clear HN
            generalize nodeW T n own = x at HTk3 HWl ⊢
            by_cases hin : x ∈ us
            · have HV := Aside0.mk (numF_in hin (.int .i64 0))
              have ha : addW us x = us := by unfold addW; rw [if_pos hin]
              rw [ha] at HTk3
              have hjn := hnl
              generalize us.idxOf x = ix at HTk3 HV
              go_wp2_with (first
                | (at_lookup; refine wpList_lookup_F_ok _ rfl (.tmp 35) (.tmp 36) 69 rfl 9 3 keyW Tryd.underlying69 (zeroIW _) mb us.length (numF us) rfl HK.out.map.toF (.string ⟨x.toArray⟩) (.string x) rfl HWl.out (.int .i64 (ix : Int)) HV.out.1 true HV.out.2 ?_)
                | (at_lookup; refine wpList_lookup_F _ rfl (.tmp 47) (.tmp 48) 69 rfl 9 3 keyW Tryd.underlying69 (zeroIW _) mb us.length (numF us) rfl HK.out.map.toF (.string ⟨x.toArray⟩) (.string x) rfl HWl.out (.int .i64 (ix : Int)) HV.out.1 ?_)
                | (at_builtin; refine Kd.R_append (Kd.int .i64) (w0 := w) w.heap.size rfl (.tmp 46) (.tmp 50) 27 3 (.int .i64 0) 8 rfl Tryd.underlying27 info_int rfl (by decide) (by omega) (.slice Ao own.length co) own (ix : Int) [.int .i64 (ix : Int)] (fun q => wg.heap.size ≤ q) (fun _ => False) rfl (by go_simp) rfl (fun _ h => h.elim) (fun k hk => Nat.le_trans HK.out.grown.size hk) HK.out.own HK.out.below HK.out.below.size (by have := HLn.out; omega) ?_; intro v7 w7 hR7 hB7 hg7 _; have HL := Aside0.mk (HK.out.pushed hR7 hB7 hg7); clear hR7 hB7 hg7))
              go_roundw
              case rel =>
                refine ⟨j + 1, _, by omega, by go_num, rfl, ?_⟩
                rw [HTk2.out, HTk3.out]
                exact HL
              case measure => simp [intOf]; omega
            · have HV := Aside0.mk (numF_out hin (.int .i64 0))
              have HIn := Aside0.mk hin
              have ha : addW us x = us ++ [x] := by unfold addW; rw [if_neg hin]
              have HV2 := Aside0.mk (numF_in (vs := us ++ [x]) (x := x) (by simp) (.int .i64 0))
              rw [ha] at HTk3
              have hjn := hnl
              have hul : us.length < maxLen := by have := HUb.out; unfold maxLen; omega
              have HMb := Aside0.mk HO2.out.ge
              clear hin ha
              generalize hix : (us ++ [x]).idxOf x = ix at HTk3 HV2
              clear hix
              go_wp2_with (first
                | (at_lookup; refine wpList_lookup_F_ok _ rfl (.tmp 35) (.tmp 36) 69 rfl 9 3 keyW Tryd.underlying69 (zeroIW _) mb us.length (numF us) rfl HK.out.map.toF (.string ⟨x.toArray⟩) (.string x) rfl HWl.out (.int .i64 0) HV.out.1 false HV.out.2.1 ?_)
                | (at_len; refine wpList_len_N _ rfl (.tmp 44) 69 rfl 9 3 Tryd.underlying69 mb us.length (numF us) rfl HK.out.map ?_)
                | (at_mapUpdate; refine wpList_update_N _ rfl (.tmp 42) (.tmp 43) _ 69 rfl 9 3 keyW Tryd.underlying69 mb us.length (numF us) rfl HK.out.map hul (.string ⟨x.toArray⟩) (.int .i64 (us.length : Int)) (.string x) rfl rfl HWl.out HV.out.2.2 ?_; intro w6 hM6 hg6; have HP := Aside0.mk (HK.out.put HIn.out hM6 hg6 HMb.out); clear hM6 hg6)
                | (at_lookup; refine wpList_lookup_F _ rfl (.tmp 47) (.tmp 48) 69 rfl 9 3 keyW Tryd.underlying69 (zeroIW _) mb (us ++ [x]).length (numF (us ++ [x])) rfl HP.out.map.toF (.string ⟨x.toArray⟩) (.string x) rfl HWl.out (.int .i64 (ix : Int)) HV2.out.1 ?_)
                | (at_builtin; refine Kd.R_append (Kd.int .i64) (w0 := w) w.heap.size rfl (.tmp 46) (.tmp 50) 27 3 (.int .i64 0) 8 rfl Tryd.underlying27 info_int rfl (by decide) (by omega) (.slice Ao own.length co) own (ix : Int) [.int .i64 (ix : Int)] (fun q => wg.heap.size ≤ q) (fun _ => False) rfl (by go_simp) rfl (fun _ h => h.elim) (fun k hk => Nat.le_trans HP.out.grown.size hk) HP.out.own HP.out.below HP.out.below.size (by have := HLn.out; omega) ?_; intro v7 w7 hR7 hB7 hg7 _; have HL := Aside0.mk (HP.out.pushed hR7 hB7 hg7); clear hR7 hB7 hg7))
              go_roundw
              case rel =>
                refine ⟨j + 1, _, by omega, by go_num, rfl, ?_⟩
                rw [HTk2.out, HTk3.out]
                exact HL
              case measure => simp [intOf]; omega
          · obtain rfl : j = s.nodes.length := by omega
            rw [List.take_length] at HI
            have HOut := Aside0.mk (HI.out.whole HO2.out)
            have HMb := Aside0.mk HO2.out.ge
            have hol := HOl.out
            obtain ⟨Ao, co, hv8⟩ := Kd.R_slice HI.out.own
            subst hv8
            generalize ownS T vs s.nodes = st at HI HAll
            obtain ⟨us, own⟩ := st
            have HI : Aside0 (ClsIn w wg mb us own (.slice Ao own.length co) wr) := HI
            have HAll : Aside0 (allS T (l.take (i + 1)) = (us, outs ++ [own])) := HAll
            clear hjl hj HO2
            go_wp2_with (at_builtin; refine Kd.R_append kInts (w0 := w) w.heap.size rfl (.tmp 53) (.tmp 55) 50 27 (.slice none 0 0) 24 rfl Tryd.underlying50 infoInts rfl (by decide) (by omega) vo outs own [.slice Ao own.length co] (fun _ => True) (fun q => wg.heap.size ≤ q) rfl (by go_simp) ⟨_, rfl, HI.out.own⟩ (fun k hk => ⟨trivial, fun e => by have := HOut.out.1 k e.symm; omega⟩) (fun _ _ => trivial) (Kd.R_mono HOut.out (fun _ _ => trivial)) HI.out.below HI.out.below.size (by omega) ?_; intro v7 w7 hR7 hB7 hg7 _; have HL := Aside0.mk (ClsOut.pushed HI.out HOut.out hR7 hB7 hg7 HMb.out); clear hR7 hB7 hg7)
            go_roundw
            case rel =>
              refine ⟨i + 1, _, by omega, by go_num, rfl, HCi, ?_⟩
              rw [HAll.out]
              exact HL
            case measure => simp [intOf]; omega
    · obtain rfl : i = l.length := by omega
      rw [List.take_length] at HO
      go_wp2
      go_ret2
      exact ⟨HO.out.below, .inl ⟨HC.out, _, rfl, HO.out.out⟩⟩
end Go.Proofs.YtggldnbhmebcpaaDoor.L
end
section
namespace Go.Proofs.YtggldnbhmebcpaaDoor.L
open Go.RowKit Go.ChangeShapes Go.WideShapes Go.Proofs.YtggldnbhmebcpaaDoorW.PrintWords Go.Proofs.YtggldnbhmebcpaaDoorW.PrintLast Go.Proofs.YtggldnbhmebcpaaDoorW.PrintMore
attribute [local go_sem] max2_int min2_int max_two min_two max_three min_three max_four min_four
theorem all_numd {T : Lib.PrintTabs} {l : List Scene} (hA : ∀ s ∈ l, AheadN s.nodes) {i : Nat} (hi : i < l.length) : Numd T (allS T l).1 (sc l i).nodes ((allS T l).2.getD i []) := (all_spec T hA).numd i hi
end Go.Proofs.YtggldnbhmebcpaaDoor.L
end
section
namespace Go.Proofs.YtggldnbhmebcpaaDoor.L
open Go.RowKit Go.ChangeShapes Go.WideShapes Go.Proofs.YtggldnbhmebcpaaDoorW.PrintWords Go.Proofs.YtggldnbhmebcpaaDoorW.PrintLast Go.Proofs.YtggldnbhmebcpaaDoorW.PrintMore
attribute [local go_sem] max2_int min2_int max_two min_two max_three min_three max_four min_four
def greatN (n : Node) : Bool := decide (100 < n.ints.length ∨ 100 < n.texts.length ∨ 300 < n.kids.length ∨ ∃ j, j < n.texts.length ∧ 500 < (str n.texts j).size)
set_option maxRecDepth 100000 in
set_option maxHeartbeats 2000000 in
theorem great_any (n : Node) (A1 : Option Addr) (c1 : Nat) (A2 : Option Addr) (c2 : Nat) (A3 : Option Addr) (c3 : Nat) (w : World) (h : NodeC w n A1 c1 A2 c2 A3 c3) :
    Calls Tryd.prog 35 #[.agg #[.int .i64 n.kind, .slice A1 n.ints.length c1, .slice A2 n.texts.length c2, .slice A3 n.kids.length c3]] w fun e w' => e = .returned (.bool (greatN n)) ∧ Below w.heap.size w w' := by
  have HN := Aside0.mk h
  have b2 := h.t.2.1
  have hB := below_alloc (Below.refl w.heap.size w) (.cells #[.int .i64 n.kind, .slice A1 n.ints.length c1, .slice A2 n.texts.length c2, .slice A3 n.kids.length c3] 46)
  have HB := Aside0.mk hB
  have HX := Aside0.mk (show (w.alloc (.cells #[.int .i64 n.kind, .slice A1 n.ints.length c1, .slice A2 n.texts.length c2, .slice A3 n.kids.length c3] 46)).heap[w.heap.size]? = some (.cells #[.int .i64 n.kind, .slice A1 n.ints.length c1, .slice A2 n.texts.length c2, .slice A3 n.kids.length c3] 46 (0, 0)) from by simpa using heap_alloc_new w _)
  have k1 := (blk_cell HX.out 1).trans rfl
  have k2 := (blk_cell HX.out 2).trans rfl
  have k3 := (blk_cell HX.out 3).trans rfl
  have hun := Tryd.underlying46
  clear h hB
  by_cases h1 : 100 < n.ints.length
  · have HE : Aside0 (greatN n = true) := ⟨decide_eq_true (.inl h1)⟩
    have d1 : decide (100 < (n.ints.length : Int)) = true := decide_eq_true (by omega)
    clear h1
    go_enter Tryd.func35, Tryd.ntmps35
    go_wp2
    go_ret
    exact ⟨ret_bool HE.out.symm, HB.out⟩
  have d1 : decide (100 < (n.ints.length : Int)) = false := decide_eq_false (by omega)
  by_cases h2 : 100 < n.texts.length
  · have HE : Aside0 (greatN n = true) := ⟨decide_eq_true (.inr (.inl h2))⟩
    have d2 : decide (100 < (n.texts.length : Int)) = true := decide_eq_true (by omega)
    clear h1 h2
    go_enter Tryd.func35, Tryd.ntmps35
    go_wp2
    go_ret
    exact ⟨ret_bool HE.out.symm, HB.out⟩
  have d2 : decide (100 < (n.texts.length : Int)) = false := decide_eq_false (by omega)
  by_cases h3 : 300 < n.kids.length
  · have HE : Aside0 (greatN n = true) := ⟨decide_eq_true (.inr (.inr (.inl h3)))⟩
    have d3 : decide (300 < (n.kids.length : Int)) = true := decide_eq_true (by omega)
    clear h1 h2 h3
    go_enter Tryd.func35, Tryd.ntmps35
    go_wp2
    go_ret
    exact ⟨ret_bool HE.out.symm, HB.out⟩
  have d3 : decide (300 < (n.kids.length : Int)) = false := decide_eq_false (by omega)
  have H123 : Aside0 (¬ 100 < n.ints.length ∧ ¬ 100 < n.texts.length ∧ ¬ 300 < n.kids.length) := ⟨h1, h2, h3⟩
  clear h1 h2 h3
  go_enter Tryd.func35, Tryd.ntmps35
  go_wp2
  clear d1 d2 d3
  go_loopw [3] (fun v3 W => ∃ i : Nat, i ≤ n.texts.length ∧ v3 = .int .i64 i ∧ W = w.alloc (.cells #[.int .i64 n.kind, .slice A1 n.ints.length c1, .slice A2 n.texts.length c2, .slice A3 n.kids.length c3] 46) ∧ Aside0 (∀ j, j < i → ¬ 500 < (str n.texts j).size)) (fun v3 _ => n.texts.length - (intOf v3).toNat)
  case atStart => exact ⟨0, by omega, rfl, by first | rfl | trivial, ⟨fun j h => by omega⟩⟩
  case round =>
    obtain ⟨i, hi, rfl, rfl, HA⟩ := hrel
    by_cases hlt : i < n.texts.length
    · obtain ⟨ad, rfl, x⟩ := at_str (Kd.C_below HN.out.t HB.out) i hlt
      by_cases hg : 500 < (str n.texts i).size
      · have HE : Aside0 (greatN n = true) := ⟨decide_eq_true (.inr (.inr (.inr ⟨i, hlt, hg⟩)))⟩
        have d5 : decide (500 < ((str n.texts i).size : Int)) = true := decide_eq_true (by omega)
        clear hg
        go_wp2
        go_ret
        exact ⟨ret_bool HE.out.symm, HB.out⟩
      · have HA2 := Aside0.mk (ext_lt HA.out hg)
        have d5 : decide (500 < ((str n.texts i).size : Int)) = false := decide_eq_false (by omega)
        clear hg
        go_wp2
        go_roundw
        case rel => exact ⟨i + 1, by omega, by go_num, by first | rfl | trivial, HA2⟩
        case measure => simp [intOf]; omega
    · obtain rfl : i = n.texts.length := by omega
      have HE : Aside0 (greatN n = false) := ⟨decide_eq_false (fun h => by
        rcases h with h | h | h | ⟨j, hj, h⟩
        · exact H123.out.1 h
        · exact H123.out.2.1 h
        · exact H123.out.2.2 h
        · exact HA.out j hj h)⟩
      go_wp2
      go_ret
      exact ⟨ret_bool HE.out.symm, HB.out⟩
end Go.Proofs.YtggldnbhmebcpaaDoor.L
end
section
namespace Go.Proofs.YtggldnbhmebcpaaDoor.L
open Go.RowKit Go.ChangeShapes Go.WideShapes Go.Proofs.YtggldnbhmebcpaaDoorW.PrintWords Go.Proofs.YtggldnbhmebcpaaDoorW.PrintLast Go.Proofs.YtggldnbhmebcpaaDoorW.PrintMore
attribute [local go_sem] max2_int min2_int max_two min_two max_three min_three max_four min_four
structure SetV where
  text : Bool
  field : Int
  n : Int
  s : ByteArray
def kSet : Kd SetV := Kd.iso (Kd.pair Kd.bool (Kd.pair (Kd.int .i64) (Kd.pair (Kd.int .i64) Kd.string))) (fun x : SetV => (x.text, x.field, x.n, x.s))
theorem kSet_mk (w : World) (base : Nat) (ok : Nat → Prop) (x : SetV) : kSet.M w base ok x [.bool x.text, .int .i64 x.field, .int .i64 x.n, .string x.s] := ⟨[_], [_, _, _], rfl, rfl, ⟨[_], [_, _], rfl, rfl, ⟨[_], [_], rfl, rfl, rfl⟩⟩⟩
theorem info_set : (Tryd.prog.info? 63).map (fun i => (i.zero, i.size, i.bytes)) = some (some (.agg #[.bool false, .int .i64 0, .int .i64 0, .string ByteArray.empty]), 4, 40) := by kernel_rfl
def diffI (a b : List Int) (i : Nat) : List SetV := ((List.range i).filter (fun p : Nat => decide (¬ rd a (p : Int) = rd b (p : Int)))).map (fun p : Nat => ⟨false, (p : Int), rd b (p : Int), ByteArray.empty⟩)
def diffT (a b : List ByteArray) (i : Nat) : List SetV := ((List.range i).filter (fun p : Nat => decide (¬ str a p = str b p))).map (fun p : Nat => ⟨true, (p : Int), 0, str b p⟩)
theorem diffI_yes {a b : List Int} {i : Nat} (h : ¬ rd a (i : Int) = rd b (i : Int)) : diffI a b (i + 1) = diffI a b i ++ [⟨false, (i : Int), rd b (i : Int), ByteArray.empty⟩] := by
  unfold diffI
  rw [List.range_succ, List.filter_append, List.map_append, List.filter_cons, if_pos (decide_eq_true h)]
  rfl
theorem diffI_no {a b : List Int} {i : Nat} (h : rd a (i : Int) = rd b (i : Int)) : diffI a b (i + 1) = diffI a b i := by
  unfold diffI
  rw [List.range_succ, List.filter_append, List.map_append, List.filter_cons, if_neg (by simp [h])]
  simp
theorem diffT_yes {a b : List ByteArray} {i : Nat} (h : ¬ str a i = str b i) : diffT a b (i + 1) = diffT a b i ++ [⟨true, (i : Int), 0, str b i⟩] := by
  unfold diffT
  rw [List.range_succ, List.filter_append, List.map_append, List.filter_cons, if_pos (decide_eq_true h)]
  rfl
theorem diffT_no {a b : List ByteArray} {i : Nat} (h : str a i = str b i) : diffT a b (i + 1) = diffT a b i := by
  unfold diffT
  rw [List.range_succ, List.filter_append, List.map_append, List.filter_cons, if_neg (by simp [h])]
  simp
theorem diffI_len (a b : List Int) (i : Nat) : (diffI a b i).length ≤ i := by
  unfold diffI
  rw [List.length_map]
  exact Nat.le_trans (List.length_filter_le _ _) (by simp)
theorem diffT_len (a b : List ByteArray) (i : Nat) : (diffT a b i).length ≤ i := by
  unfold diffT
  rw [List.length_map]
  exact Nat.le_trans (List.length_filter_le _ _) (by simp)
def alike (a b : Node) : Bool := decide (a.kind = b.kind ∧ a.ints.length = b.ints.length ∧ a.texts.length = b.texts.length)
def diffL (a b : Node) : List SetV := if alike a b = true then diffI a.ints b.ints a.ints.length ++ diffT a.texts b.texts a.texts.length else []
theorem diffL_nil {a b : Node} (h : alike a b = true) : (diffL a b = [] ↔ a.ints = b.ints ∧ a.texts = b.texts) := by
  unfold diffL
  rw [if_pos h, List.append_eq_nil_iff]
  obtain ⟨_, h1, h2⟩ := of_decide_eq_true h
  unfold diffI diffT
  rw [List.map_eq_nil_iff, List.map_eq_nil_iff, List.filter_eq_nil_iff, List.filter_eq_nil_iff]
  constructor
  · rintro ⟨k1, k2⟩
    refine ⟨List.ext_getElem h1 (fun i i1 i2 => ?_), List.ext_getElem h2 (fun i i1 i2 => ?_)⟩
    · have := k1 i (List.mem_range.2 i1)
      rw [← rd_eq i1, ← rd_eq i2]
      simpa using this
    · have := k2 i (List.mem_range.2 i1)
      have e : str a.texts i = str b.texts i := by simpa using this
      unfold str at e
      rw [getD_eq _ i1, getD_eq _ i2] at e
      exact e
  · rintro ⟨k1, k2⟩
    exact ⟨fun i _ => by rw [k1]; simp, fun i _ => by rw [k2]; simp⟩
end Go.Proofs.YtggldnbhmebcpaaDoor.L
end
section
namespace Go.Proofs.YtggldnbhmebcpaaDoor.L
open Go.RowKit Go.ChangeShapes Go.WideShapes Go.Proofs.YtggldnbhmebcpaaDoorW.PrintWords Go.Proofs.YtggldnbhmebcpaaDoorW.PrintLast Go.Proofs.YtggldnbhmebcpaaDoorW.PrintMore
attribute [local go_sem] max2_int min2_int max_two min_two max_three min_three max_four min_four
theorem str_ne {x y : ByteArray} (h : ¬ x = y) : (!(x.toList == y.toList)) = true := by
  have : ¬ x.toList = y.toList := fun e => h (by
    rw [ByteArray.toList_eq, ByteArray.toList_eq] at e
    exact ByteArray.ext (Array.toList_inj.mp e))
  simp [this]
structure DRel (a b : Node) (A1 : Option Addr) (c1 : Nat) (A2 : Option Addr) (c2 : Nat) (A3 : Option Addr) (c3 : Nat) (B1 : Option Addr) (d1 : Nat) (B2 : Option Addr) (d2 : Nat) (B3 : Option Addr) (d3 : Nat) (w : World) (L : List SetV) (v : Value) (W : World) : Prop where
  row : kSet.R 63 W w.heap.size (fun _ => True) v L
  below : Below w.heap.size w W
  ba : W.heap[w.heap.size]? = some (.cells #[.int .i64 a.kind, .slice A1 a.ints.length c1, .slice A2 a.texts.length c2, .slice A3 a.kids.length c3] 46 (0, 0))
  bb : W.heap[w.heap.size + 1]? = some (.cells #[.int .i64 b.kind, .slice B1 a.ints.length d1, .slice B2 a.texts.length d2, .slice B3 b.kids.length d3] 46 (0, 0))
theorem DRel.drew {a b : Node} {A1 : Option Addr} {c1 : Nat} {A2 : Option Addr} {c2 : Nat} {A3 : Option Addr} {c3 : Nat} {B1 : Option Addr} {d1 : Nat} {B2 : Option Addr} {d2 : Nat} {B3 : Option Addr} {d3 : Nat} {w : World} {L : List SetV} {v : Value} {W : World} (h : DRel a b A1 c1 A2 c2 A3 c3 B1 d1 B2 d2 B3 d3 w L v W) : DRel a b A1 c1 A2 c2 A3 c3 B1 d1 B2 d2 B3 d3 w L v W.drew :=
  ⟨Kd.R_drew h.row, pw_below_drewN h.below 1, h.ba, h.bb⟩
def DiffPost (a b : Node) (w : World) (e : Ending) (w' : World) : Prop :=
  ∃ A c, e = .returned (.tuple #[.slice A (diffL a b).length c, .bool (alike a b)]) ∧ kSet.R 63 w' w.heap.size (fun _ => True) (.slice A (diffL a b).length c) (diffL a b) ∧ Below w.heap.size w w'
set_option maxRecDepth 100000 in
set_option maxHeartbeats 4000000 in
theorem diff_any (a b : Node) (A1 : Option Addr) (c1 : Nat) (A2 : Option Addr) (c2 : Nat) (A3 : Option Addr) (c3 : Nat) (B1 : Option Addr) (d1 : Nat) (B2 : Option Addr) (d2 : Nat) (B3 : Option Addr) (d3 : Nat) (w : World) (h : NodeC w a A1 c1 A2 c2 A3 c3) (h' : NodeC w b B1 d1 B2 d2 B3 d3) (hs : Small a) :
    Calls Tryd.prog 17 #[.agg #[.int .i64 a.kind, .slice A1 a.ints.length c1, .slice A2 a.texts.length c2, .slice A3 a.kids.length c3], .agg #[.int .i64 b.kind, .slice B1 b.ints.length d1, .slice B2 b.texts.length d2, .slice B3 b.kids.length d3]] w (DiffPost a b w) := by
  have HA := Aside0.mk h
  have HBn := Aside0.mk h'
  have hs1 := hs.1
  have hs2 := hs.2.1
  have hun := Tryd.underlying46
  have hset := Tryd.underlying63
  have HB := Aside0.mk (below_alloc (below_alloc (Below.refl w.heap.size w) (.cells #[.int .i64 a.kind, .slice A1 a.ints.length c1, .slice A2 a.texts.length c2, .slice A3 a.kids.length c3] 46)) (.cells #[.int .i64 b.kind, .slice B1 b.ints.length d1, .slice B2 b.texts.length d2, .slice B3 b.kids.length d3] 46))
  have HXa := Aside0.mk (show ((w.alloc (.cells #[.int .i64 a.kind, .slice A1 a.ints.length c1, .slice A2 a.texts.length c2, .slice A3 a.kids.length c3] 46)).alloc (.cells #[.int .i64 b.kind, .slice B1 b.ints.length d1, .slice B2 b.texts.length d2, .slice B3 b.kids.length d3] 46)).heap[w.heap.size]? = some (.cells #[.int .i64 a.kind, .slice A1 a.ints.length c1, .slice A2 a.texts.length c2, .slice A3 a.kids.length c3] 46 (0, 0)) from by
    have : (w.alloc (.cells #[.int .i64 a.kind, .slice A1 a.ints.length c1, .slice A2 a.texts.length c2, .slice A3 a.kids.length c3] 46)).heap[w.heap.size]? = some (.cells #[.int .i64 a.kind, .slice A1 a.ints.length c1, .slice A2 a.texts.length c2, .slice A3 a.kids.length c3] 46 (0, 0)) := by simpa using heap_alloc_new w _
    exact (Below.block (below_alloc (Below.refl _ _) _) _ (by simp)).trans this)
  have HXb := Aside0.mk (show ((w.alloc (.cells #[.int .i64 a.kind, .slice A1 a.ints.length c1, .slice A2 a.texts.length c2, .slice A3 a.kids.length c3] 46)).alloc (.cells #[.int .i64 b.kind, .slice B1 b.ints.length d1, .slice B2 b.texts.length d2, .slice B3 b.kids.length d3] 46)).heap[w.heap.size + 1]? = some (.cells #[.int .i64 b.kind, .slice B1 b.ints.length d1, .slice B2 b.texts.length d2, .slice B3 b.kids.length d3] 46 (0, 0)) from by
    have := heap_alloc_new (w.alloc (.cells #[.int .i64 a.kind, .slice A1 a.ints.length c1, .slice A2 a.texts.length c2, .slice A3 a.kids.length c3] 46)) (.cells #[.int .i64 b.kind, .slice B1 b.ints.length d1, .slice B2 b.texts.length d2, .slice B3 b.kids.length d3] 46)
    simpa using this)
  have a0 := (blk_cell HXa.out 0).trans rfl
  have a1 := (blk_cell HXa.out 1).trans rfl
  have a2 := (blk_cell HXa.out 2).trans rfl
  have q0 := (blk_cell HXb.out 0).trans rfl
  have q1 := (blk_cell HXb.out 1).trans rfl
  have q2 := (blk_cell HXb.out 2).trans rfl
  clear h h' hs
  have fin : ∀ W, alike a b = false → Below w.heap.size w W → DiffPost a b w (.returned (.tuple #[.slice none 0 0, .bool false])) W := fun W hf hB => by
    have hd : diffL a b = [] := by unfold diffL; rw [hf, if_neg (by simp)]
    exact ⟨none, 0, by rw [hd, hf]; rfl, by rw [hd]; exact Kd.R_nil _ _ _ _ _, hB⟩
  have FIN := Aside0.mk fin
  clear fin
  by_cases h1 : a.kind = b.kind
  · by_cases h2 : a.ints.length = b.ints.length
    · by_cases h3 : a.texts.length = b.texts.length
      · have HAl : Aside0 (alike a b = true) := ⟨decide_eq_true ⟨h1, h2, h3⟩⟩
        have dk : (a.kind != b.kind) = false := by simp [h1]
        have H23 := Aside0.mk (And.intro h2 h3)
        rw [← h2] at q1 HB HXa HXb a0 a1 a2 q0 q2 ⊢
        rw [← h3] at q1 HB HXa HXb a0 a1 a2 q0 q2 ⊢
        clear h1 h2 h3
        go_enter Tryd.func17, Tryd.ntmps17
        go_wp2
        have H0 := Aside0.mk (show DRel a b A1 c1 A2 c2 A3 c3 B1 d1 B2 d2 B3 d3 w (diffI a.ints b.ints 0) (.slice (some ⟨w.heap.size + 1 + 1, 0, none⟩) 0 0) (((w.alloc (.cells #[.int .i64 a.kind, .slice A1 a.ints.length c1, .slice A2 a.texts.length c2, .slice A3 a.kids.length c3] 46)).alloc (.cells #[.int .i64 b.kind, .slice B1 a.ints.length d1, .slice B2 a.texts.length d2, .slice B3 b.kids.length d3] 46)).alloc (.cells #[] 63)) from
          ⟨by have h := R_empty kSet 63 ((w.alloc (.cells #[.int .i64 a.kind, .slice A1 a.ints.length c1, .slice A2 a.texts.length c2, .slice A3 a.kids.length c3] 46)).alloc (.cells #[.int .i64 b.kind, .slice B1 a.ints.length d1, .slice B2 a.texts.length d2, .slice B3 b.kids.length d3] 46)) w.heap.size HB.out.size; rw [show (((w.alloc (.cells #[.int .i64 a.kind, .slice A1 a.ints.length c1, .slice A2 a.texts.length c2, .slice A3 a.kids.length c3] 46)).alloc (.cells #[.int .i64 b.kind, .slice B1 a.ints.length d1, .slice B2 a.texts.length d2, .slice B3 b.kids.length d3] 46)).heap.size) = w.heap.size + 1 + 1 from by simp] at h; exact h, below_step HB.out (below_alloc (Below.refl _ _) _), ((below_alloc (Below.refl _ _) _).block _ (blk_lt HXa.out)).trans HXa.out, ((below_alloc (Below.refl _ _) _).block _ (blk_lt HXb.out)).trans HXb.out⟩)
        clear a0 a1 a2 q0 q1 q2 dk
        go_loopw [7, 6] (fun v7 v6 W => ∃ i : Nat, i ≤ a.ints.length ∧ v7 = .int .i64 i ∧ Aside0 (DRel a b A1 c1 A2 c2 A3 c3 B1 d1 B2 d2 B3 d3 w (diffI a.ints b.ints i) v6 W)) (fun v7 _ _ => a.ints.length - (intOf v7).toNat)
        case atStart => exact ⟨0, by omega, rfl, H0⟩
        case round =>
          clear H0
          obtain ⟨i, hi, rfl, H0⟩ := hrel
          have a1 := (blk_cell H0.out.ba 1).trans rfl
          have q1 := (blk_cell H0.out.bb 1).trans rfl
          by_cases hlt : i < a.ints.length
          · obtain ⟨ad, rfl, x1⟩ := at_nat (Kd.C_below HA.out.i H0.out.below) i hlt
            obtain ⟨bd, rfl, x2⟩ := at_nat (Kd.C_below HBn.out.i H0.out.below) i (by rw [← H23.out.1]; exact hlt)
            by_cases he : rd a.ints (i : Int) = rd b.ints (i : Int)
            · have de : (rd a.ints (i : Int) != rd b.ints (i : Int)) = false := by simp [he]
              have H1 := Aside0.mk (show DRel a b (some ad) c1 A2 c2 A3 c3 (some bd) d1 B2 d2 B3 d3 w (diffI a.ints b.ints (i + 1)) _ wr.drew from by rw [diffI_no he]; exact H0.out.drew)
              clear he
              go_wp2
              go_region
              clear x1 x2 a1 q1
              go_wp2
              go_roundw
              case rel => exact ⟨i + 1, by omega, by go_num, H1⟩
              case measure => simp [intOf]; omega
            · have de : (rd a.ints (i : Int) != rd b.ints (i : Int)) = true := by simp [he]
              have HY := Aside0.mk (diffI_yes he)
              have hdl := diffI_len a.ints b.ints i
              clear he
              obtain ⟨Av, cv, hv⟩ := Kd.R_slice H0.out.row
              subst hv
              go_wp2
              go_region
              clear x1 a1 q1 x2
              have H1 := Aside0.mk H0.out.drew
              clear H0
              generalize wr.drew = W2 at H1 ⊢
              have q1 := (blk_cell H1.out.bb 1).trans rfl
              obtain ⟨bd', he', x2⟩ := at_nat (Kd.C_below HBn.out.i H1.out.below) i (by rw [← H23.out.1]; exact hlt)
              injection he' with he'
              subst he'
              go_wp2_with (at_builtin; refine Kd.R_append kSet (w0 := w) w.heap.size rfl (.tmp 51) (.tmp 59) 40 63 (.agg #[.bool false, .int .i64 0, .int .i64 0, .string ByteArray.empty]) 40 rfl Tryd.underlying40 info_set rfl (by decide) (by omega) (.slice Av (diffI a.ints b.ints i).length cv) (diffI a.ints b.ints i) ⟨false, (i : Int), rd b.ints (i : Int), ByteArray.empty⟩ [.bool false, .int .i64 (i : Int), .int .i64 (rd b.ints (i : Int)), .string ByteArray.empty] (fun _ => True) (fun _ => False) rfl (by go_simp) (kSet_mk _ _ _ _) (fun _ h => h.elim) (fun _ _ => trivial) H1.out.row H1.out.below H1.out.below.size (by omega) ?_; intro v2 w3 hR2 hB2 hg2 hat2; have H3 := Aside0.mk (show DRel a b (some ad) c1 A2 c2 A3 c3 (some bd) d1 B2 d2 B3 d3 w (diffI a.ints b.ints (i + 1)) v2 w3 from ⟨by rw [HY.out]; exact hR2, hB2, blk_grown H1.out.ba hg2 (Kd.R_ne H1.out.row H1.out.ba (by decide)), blk_grown H1.out.bb hg2 (Kd.R_ne H1.out.row H1.out.bb (by decide))⟩); clear hR2 hB2 hg2 hat2)
              go_roundw
              case rel => exact ⟨i + 1, by omega, by go_num, H3⟩
              case measure => simp [intOf]; omega
          · obtain rfl : i = a.ints.length := by omega
            have H2 := Aside0.mk (show DRel a b A1 c1 A2 c2 A3 c3 B1 d1 B2 d2 B3 d3 w (diffI a.ints b.ints a.ints.length ++ diffT a.texts b.texts 0) u6 wr from by
              have e : diffI a.ints b.ints a.ints.length ++ diffT a.texts b.texts 0 = diffI a.ints b.ints a.ints.length := List.append_nil _
              rw [e]; exact H0.out)
            have hdi := diffI_len a.ints b.ints a.ints.length
            clear H0
            go_wp2
            clear a1 q1
            go_loopw [8, 6] (fun v8 v6 W => ∃ i : Nat, i ≤ a.texts.length ∧ v8 = .int .i64 i ∧ Aside0 (DRel a b A1 c1 A2 c2 A3 c3 B1 d1 B2 d2 B3 d3 w (diffI a.ints b.ints a.ints.length ++ diffT a.texts b.texts i) v6 W)) (fun v8 _ _ => a.texts.length - (intOf v8).toNat)
            case atStart => exact ⟨0, by omega, rfl, H2⟩
            case round =>
              clear H2
              obtain ⟨i, hi, rfl, H0⟩ := hrel
              have a2 := (blk_cell H0.out.ba 2).trans rfl
              have q2 := (blk_cell H0.out.bb 2).trans rfl
              by_cases hlt : i < a.texts.length
              · obtain ⟨ad, rfl, x1⟩ := at_str (Kd.C_below HA.out.t H0.out.below) i hlt
                obtain ⟨bd, rfl, x2⟩ := at_str (Kd.C_below HBn.out.t H0.out.below) i (by rw [← H23.out.2]; exact hlt)
                by_cases he : str a.texts i = str b.texts i
                · have de : (!((str a.texts i).toList == (str b.texts i).toList)) = false := by rw [he]; simp
                  have H1 := Aside0.mk (show DRel a b A1 c1 (some ad) c2 A3 c3 B1 d1 (some bd) d2 B3 d3 w (diffI a.ints b.ints a.ints.length ++ diffT a.texts b.texts (i + 1)) _ wr.drew from by rw [diffT_no he]; exact H0.out.drew)
                  clear he
                  go_wp2
                  go_region
                  clear x1 x2 a2 q2
                  go_wp2
                  go_roundw
                  case rel => exact ⟨i + 1, by omega, by go_num, H1⟩
                  case measure => simp [intOf]; omega
                · have de : (!((str a.texts i).toList == (str b.texts i).toList)) = true := str_ne he
                  have HY := Aside0.mk (diffT_yes he)
                  have hdt := diffT_len a.texts b.texts i
                  clear he
                  obtain ⟨Av, cv, hv⟩ := Kd.R_slice H0.out.row
                  obtain ⟨L0, hL0⟩ : ∃ L, L = diffI a.ints b.ints a.ints.length ++ diffT a.texts b.texts i := ⟨_, rfl⟩
                  have hL0l : L0.length ≤ 3000000 := by rw [hL0, List.length_append]; omega
                  have HL0 := Aside0.mk hL0
                  rw [← hL0] at hv H0
                  subst hv
                  clear hL0 hdt
                  go_wp2
                  go_region
                  clear x1 a2 q2 x2
                  have H1 := Aside0.mk H0.out.drew
                  clear H0
                  generalize wr.drew = W2 at H1 ⊢
                  have q2 := (blk_cell H1.out.bb 2).trans rfl
                  obtain ⟨bd', he', x2⟩ := at_str (Kd.C_below HBn.out.t H1.out.below) i (by rw [← H23.out.2]; exact hlt)
                  injection he' with he'
                  subst he'
                  go_wp2_with (at_builtin; refine Kd.R_append kSet (w0 := w) w.heap.size rfl (.tmp 79) (.tmp 87) 40 63 (.agg #[.bool false, .int .i64 0, .int .i64 0, .string ByteArray.empty]) 40 rfl Tryd.underlying40 info_set rfl (by decide) (by omega) (.slice Av L0.length cv) L0 ⟨true, (i : Int), 0, str b.texts i⟩ [.bool true, .int .i64 (i : Int), .int .i64 0, .string (str b.texts i)] (fun _ => True) (fun _ => False) rfl (by go_simp) (kSet_mk _ _ _ _) (fun _ h => h.elim) (fun _ _ => trivial) H1.out.row H1.out.below H1.out.below.size (by omega) ?_; intro v2 w3 hR2 hB2 hg2 hat2; have H3 := Aside0.mk (show DRel a b A1 c1 (some ad) c2 A3 c3 B1 d1 (some bd) d2 B3 d3 w (diffI a.ints b.ints a.ints.length ++ diffT a.texts b.texts (i + 1)) v2 w3 from ⟨by rw [HY.out, ← List.append_assoc, ← HL0.out]; exact hR2, hB2, blk_grown H1.out.ba hg2 (Kd.R_ne H1.out.row H1.out.ba (by decide)), blk_grown H1.out.bb hg2 (Kd.R_ne H1.out.row H1.out.bb (by decide))⟩); clear hR2 hB2 hg2 hat2)
                  go_roundw
                  case rel => exact ⟨i + 1, by omega, by go_num, H3⟩
                  case measure => simp [intOf]; omega
              · obtain rfl : i = a.texts.length := by omega
                have HD : Aside0 (diffL a b = diffI a.ints b.ints a.ints.length ++ diffT a.texts b.texts a.texts.length) := ⟨by unfold diffL; rw [if_pos HAl.out]⟩
                go_wp2
                go_ret2
                obtain ⟨Av, cv, hv⟩ := Kd.R_slice H0.out.row
                exact ⟨Av, cv, by rw [HAl.out, HD.out, ← hv]; rfl, by rw [HD.out, ← hv]; exact H0.out.row, H0.out.below⟩
      · have hf : alike a b = false := decide_eq_false (fun h => h3 h.2.2)
        have HF := Aside0.mk hf
        have dk : (a.kind != b.kind) = false := by simp [h1]
        have dl : (a.texts.length != b.texts.length) = true := by simp [h3]
        have dl' : ((a.texts.length : Int) != (b.texts.length : Int)) = true := by simp; omega
        rw [← h2] at q1 HB HXa HXb a0 a1 a2 q0 q2 ⊢
        clear h1 h2 h3 hf
        go_enter Tryd.func17, Tryd.ntmps17
        go_wp2
        go_ret2
        exact FIN.out _ HF.out HB.out
    · have hf : alike a b = false := decide_eq_false (fun h => h2 h.2.1)
      have HF := Aside0.mk hf
      have dk : (a.kind != b.kind) = false := by simp [h1]
      have dl : (a.ints.length != b.ints.length) = true := by simp [h2]
      have dl' : ((a.ints.length : Int) != (b.ints.length : Int)) = true := by simp; omega
      clear h1 h2 hf
      go_enter Tryd.func17, Tryd.ntmps17
      go_wp2
      go_ret2
      exact FIN.out _ HF.out HB.out
  · have hf : alike a b = false := decide_eq_false (fun h => h1 h.1)
    have HF := Aside0.mk hf
    have dk : (a.kind != b.kind) = true := by simp [h1]
    clear h1 hf
    go_enter Tryd.func17, Tryd.ntmps17
    go_wp2
    go_ret2
    exact FIN.out _ HF.out HB.out
end Go.Proofs.YtggldnbhmebcpaaDoor.L
end
section
namespace Go.Proofs.YtggldnbhmebcpaaDoor.L
open Go.RowKit Go.ChangeShapes Go.WideShapes Go.Proofs.YtggldnbhmebcpaaDoorW.PrintWords Go.Proofs.YtggldnbhmebcpaaDoorW.PrintLast Go.Proofs.YtggldnbhmebcpaaDoorW.PrintMore
attribute [local go_sem] max2_int min2_int max_two min_two max_three min_three max_four min_four
def ownN (a b : Node) : Bool := decide (a.kind = b.kind ∧ a.ints = b.ints ∧ a.texts = b.texts)
theorem ownN_eq (a b : Node) : ownN a b = (alike a b && decide ((diffL a b).length = 0)) := by
  cases h : alike a b with
  | false =>
    refine decide_eq_false (fun hh => ?_)
    have : alike a b = true := decide_eq_true ⟨hh.1, by rw [hh.2.1], by rw [hh.2.2]⟩
    rw [h] at this; cases this
  | true =>
    have hk := (of_decide_eq_true h).1
    rw [Bool.true_and]
    unfold ownN
    refine decide_eq_decide.2 ⟨fun hh => ?_, fun hh => ?_⟩
    · rw [(diffL_nil h).2 hh.2]; rfl
    · exact ⟨hk, (diffL_nil h).1 (List.eq_nil_of_length_eq_zero hh)⟩
set_option maxRecDepth 100000 in
set_option maxHeartbeats 2000000 in
theorem own_any (a b : Node) (A1 : Option Addr) (c1 : Nat) (A2 : Option Addr) (c2 : Nat) (A3 : Option Addr) (c3 : Nat) (B1 : Option Addr) (d1 : Nat) (B2 : Option Addr) (d2 : Nat) (B3 : Option Addr) (d3 : Nat) (w : World) (h : NodeC w a A1 c1 A2 c2 A3 c3) (h' : NodeC w b B1 d1 B2 d2 B3 d3) (hs : Small a) :
    Calls Tryd.prog 32 #[.agg #[.int .i64 a.kind, .slice A1 a.ints.length c1, .slice A2 a.texts.length c2, .slice A3 a.kids.length c3], .agg #[.int .i64 b.kind, .slice B1 b.ints.length d1, .slice B2 b.texts.length d2, .slice B3 b.kids.length d3]] w fun e w' => e = .returned (.bool (ownN a b)) ∧ Below w.heap.size w w' := by
  have HA := Aside0.mk h
  have HBn := Aside0.mk h'
  have HSm := Aside0.mk hs
  have hun := Tryd.underlying46
  have HB := Aside0.mk (below_alloc (below_alloc (Below.refl w.heap.size w) (.cells #[.int .i64 a.kind, .slice A1 a.ints.length c1, .slice A2 a.texts.length c2, .slice A3 a.kids.length c3] 46)) (.cells #[.int .i64 b.kind, .slice B1 b.ints.length d1, .slice B2 b.texts.length d2, .slice B3 b.kids.length d3] 46))
  have HXa := Aside0.mk (show ((w.alloc (.cells #[.int .i64 a.kind, .slice A1 a.ints.length c1, .slice A2 a.texts.length c2, .slice A3 a.kids.length c3] 46)).alloc (.cells #[.int .i64 b.kind, .slice B1 b.ints.length d1, .slice B2 b.texts.length d2, .slice B3 b.kids.length d3] 46)).heap[w.heap.size]? = some (.cells #[.int .i64 a.kind, .slice A1 a.ints.length c1, .slice A2 a.texts.length c2, .slice A3 a.kids.length c3] 46 (0, 0)) from by
    have : (w.alloc (.cells #[.int .i64 a.kind, .slice A1 a.ints.length c1, .slice A2 a.texts.length c2, .slice A3 a.kids.length c3] 46)).heap[w.heap.size]? = some (.cells #[.int .i64 a.kind, .slice A1 a.ints.length c1, .slice A2 a.texts.length c2, .slice A3 a.kids.length c3] 46 (0, 0)) := by simpa using heap_alloc_new w _
    exact (Below.block (below_alloc (Below.refl _ _) _) _ (by simp)).trans this)
  have HXb := Aside0.mk (show ((w.alloc (.cells #[.int .i64 a.kind, .slice A1 a.ints.length c1, .slice A2 a.texts.length c2, .slice A3 a.kids.length c3] 46)).alloc (.cells #[.int .i64 b.kind, .slice B1 b.ints.length d1, .slice B2 b.texts.length d2, .slice B3 b.kids.length d3] 46)).heap[w.heap.size + 1]? = some (.cells #[.int .i64 b.kind, .slice B1 b.ints.length d1, .slice B2 b.texts.length d2, .slice B3 b.kids.length d3] 46 (0, 0)) from by
    have := heap_alloc_new (w.alloc (.cells #[.int .i64 a.kind, .slice A1 a.ints.length c1, .slice A2 a.texts.length c2, .slice A3 a.kids.length c3] 46)) (.cells #[.int .i64 b.kind, .slice B1 b.ints.length d1, .slice B2 b.texts.length d2, .slice B3 b.kids.length d3] 46)
    simpa using this)
  have a0 := (blk_cell HXa.out 0).trans rfl
  have a1 := (blk_cell HXa.out 1).trans rfl
  have a2 := (blk_cell HXa.out 2).trans rfl
  have q0 := (blk_cell HXb.out 0).trans rfl
  have q1 := (blk_cell HXb.out 1).trans rfl
  have q2 := (blk_cell HXb.out 2).trans rfl
  have a3 := (blk_cell HXa.out 3).trans rfl
  have q3 := (blk_cell HXb.out 3).trans rfl
  clear h h' hs
  go_enter Tryd.func32, Tryd.ntmps32
  go_wp2_with fail
  refine (diff_any a b A1 c1 A2 c2 A3 c3 B1 d1 B2 d2 B3 d3 _ (HA.out.below HB.out) (HBn.out.below HB.out) HSm.out).mono ?_
  rintro e w1 ⟨A, c, rfl, hR, hB⟩
  have HB1 := Aside0.mk (below_step HB.out hB)
  have hE := ownN_eq a b
  clear hR hB a0 a1 a2 a3 q0 q1 q2 q3
  cases hal : alike a b with
  | false =>
    have HE : Aside0 (ownN a b = false) := ⟨by rw [hE, hal]; rfl⟩
    clear hE hal
    go_wp2
    go_ret
    exact ⟨ret_bool HE.out.symm, HB1.out⟩
  | true =>
    by_cases hz : (diffL a b).length = 0
    · have HE : Aside0 (ownN a b = true) := ⟨by rw [hE, hal, decide_eq_true hz]; rfl⟩
      clear hE hal
      rw [hz]
      go_wp2
      go_ret
      exact ⟨ret_bool HE.out.symm, HB1.out⟩
    · have HE : Aside0 (ownN a b = false) := ⟨by rw [hE, hal, decide_eq_false hz]; rfl⟩
      obtain ⟨m, hm⟩ : ∃ m, (diffL a b).length = m + 1 := ⟨(diffL a b).length - 1, by omega⟩
      have d0 : ((m : Int) + 1 == 0) = false := by simp; omega
      clear hE hal hz
      rw [hm]
      go_wp2
      go_ret
      exact ⟨ret_bool HE.out.symm, HB1.out⟩
end Go.Proofs.YtggldnbhmebcpaaDoor.L
end
section
namespace Go.Proofs.YtggldnbhmebcpaaDoor.L
open Go.RowKit Go.ChangeShapes Go.WideShapes Go.Proofs.YtggldnbhmebcpaaDoorW.PrintWords Go.Proofs.YtggldnbhmebcpaaDoorW.PrintLast Go.Proofs.YtggldnbhmebcpaaDoorW.PrintMore
attribute [local go_sem] max2_int min2_int max_two min_two max_three min_three max_four min_four
def sameN (a b : Node) : Bool := decide (a.kind = b.kind ∧ a.ints = b.ints ∧ a.texts = b.texts ∧ a.kids = b.kids)
theorem sameN_iff {a b : Node} : sameN a b = true ↔ a = b := by
  unfold sameN
  constructor
  · intro h
    have h := of_decide_eq_true h
    cases a; cases b
    simp only at h
    obtain ⟨rfl, rfl, rfl, rfl⟩ := h
    rfl
  · rintro rfl; exact decide_eq_true ⟨rfl, rfl, rfl, rfl⟩
set_option maxRecDepth 100000 in
set_option maxHeartbeats 2000000 in
theorem same_any (a b : Node) (A1 : Option Addr) (c1 : Nat) (A2 : Option Addr) (c2 : Nat) (A3 : Option Addr) (c3 : Nat) (B1 : Option Addr) (d1 : Nat) (B2 : Option Addr) (d2 : Nat) (B3 : Option Addr) (d3 : Nat) (w : World) (h : NodeC w a A1 c1 A2 c2 A3 c3) (h' : NodeC w b B1 d1 B2 d2 B3 d3) (hs : Small a) :
    Calls Tryd.prog 40 #[.agg #[.int .i64 a.kind, .slice A1 a.ints.length c1, .slice A2 a.texts.length c2, .slice A3 a.kids.length c3], .agg #[.int .i64 b.kind, .slice B1 b.ints.length d1, .slice B2 b.texts.length d2, .slice B3 b.kids.length d3]] w fun e w' => e = .returned (.bool (sameN a b)) ∧ Below w.heap.size w w' := by
  have HA := Aside0.mk h
  have HBn := Aside0.mk h'
  have HSm := Aside0.mk hs
  have hs3 := hs.2.2
  have hun := Tryd.underlying46
  have HB := Aside0.mk (below_alloc (below_alloc (Below.refl w.heap.size w) (.cells #[.int .i64 a.kind, .slice A1 a.ints.length c1, .slice A2 a.texts.length c2, .slice A3 a.kids.length c3] 46)) (.cells #[.int .i64 b.kind, .slice B1 b.ints.length d1, .slice B2 b.texts.length d2, .slice B3 b.kids.length d3] 46))
  have HXa := Aside0.mk (show ((w.alloc (.cells #[.int .i64 a.kind, .slice A1 a.ints.length c1, .slice A2 a.texts.length c2, .slice A3 a.kids.length c3] 46)).alloc (.cells #[.int .i64 b.kind, .slice B1 b.ints.length d1, .slice B2 b.texts.length d2, .slice B3 b.kids.length d3] 46)).heap[w.heap.size]? = some (.cells #[.int .i64 a.kind, .slice A1 a.ints.length c1, .slice A2 a.texts.length c2, .slice A3 a.kids.length c3] 46 (0, 0)) from by
    have : (w.alloc (.cells #[.int .i64 a.kind, .slice A1 a.ints.length c1, .slice A2 a.texts.length c2, .slice A3 a.kids.length c3] 46)).heap[w.heap.size]? = some (.cells #[.int .i64 a.kind, .slice A1 a.ints.length c1, .slice A2 a.texts.length c2, .slice A3 a.kids.length c3] 46 (0, 0)) := by simpa using heap_alloc_new w _
    exact (Below.block (below_alloc (Below.refl _ _) _) _ (by simp)).trans this)
  have HXb := Aside0.mk (show ((w.alloc (.cells #[.int .i64 a.kind, .slice A1 a.ints.length c1, .slice A2 a.texts.length c2, .slice A3 a.kids.length c3] 46)).alloc (.cells #[.int .i64 b.kind, .slice B1 b.ints.length d1, .slice B2 b.texts.length d2, .slice B3 b.kids.length d3] 46)).heap[w.heap.size + 1]? = some (.cells #[.int .i64 b.kind, .slice B1 b.ints.length d1, .slice B2 b.texts.length d2, .slice B3 b.kids.length d3] 46 (0, 0)) from by
    have := heap_alloc_new (w.alloc (.cells #[.int .i64 a.kind, .slice A1 a.ints.length c1, .slice A2 a.texts.length c2, .slice A3 a.kids.length c3] 46)) (.cells #[.int .i64 b.kind, .slice B1 b.ints.length d1, .slice B2 b.texts.length d2, .slice B3 b.kids.length d3] 46)
    simpa using this)
  have a0 := (blk_cell HXa.out 0).trans rfl
  have a1 := (blk_cell HXa.out 1).trans rfl
  have a2 := (blk_cell HXa.out 2).trans rfl
  have q0 := (blk_cell HXb.out 0).trans rfl
  have q1 := (blk_cell HXb.out 1).trans rfl
  have q2 := (blk_cell HXb.out 2).trans rfl
  have a3 := (blk_cell HXa.out 3).trans rfl
  have q3 := (blk_cell HXb.out 3).trans rfl
  clear h h' hs
  go_enter Tryd.func40, Tryd.ntmps40
  go_wp2_with fail
  refine (own_any a b A1 c1 A2 c2 A3 c3 B1 d1 B2 d2 B3 d3 _ (HA.out.below HB.out) (HBn.out.below HB.out) HSm.out).mono ?_
  rintro e w1 ⟨rfl, hB⟩
  have HB1 := Aside0.mk (below_step HB.out hB)
  replace HXa := Aside0.mk ((hB.block _ (blk_lt HXa.out)).trans HXa.out)
  replace HXb := Aside0.mk ((hB.block _ (blk_lt HXb.out)).trans HXb.out)
  replace a3 := (blk_cell HXa.out 3).trans rfl
  replace q3 := (blk_cell HXb.out 3).trans rfl
  clear hB a0 a1 a2 q0 q1 q2
  cases how : ownN a b with
  | false =>
    have HE : Aside0 (sameN a b = false) := ⟨decide_eq_false (fun hh => by
      have : ownN a b = true := decide_eq_true ⟨hh.1, hh.2.1, hh.2.2.1⟩
      rw [how] at this; cases this)⟩
    clear how
    go_wp2
    go_ret
    exact ⟨ret_bool HE.out.symm, HB1.out⟩
  | true =>
    have HO := Aside0.mk (of_decide_eq_true how)
    clear how
    by_cases hl : a.kids.length = b.kids.length
    · have HLn := Aside0.mk hl
      rw [← hl] at q3 HXb
      clear hl
      go_wp2
      go_loopw [5] (fun v5 W => ∃ i : Nat, i ≤ a.kids.length ∧ v5 = .int .i64 i ∧ Aside0 (∀ j : Nat, j < i → rd a.kids (j : Int) = rd b.kids (j : Int)) ∧ Aside0 (Below w1.heap.size w1 W)) (fun v5 _ => a.kids.length - (intOf v5).toNat)
      case atStart => exact ⟨0, by omega, rfl, ⟨fun j h => by omega⟩, ⟨Below.refl _ _⟩⟩
      case round =>
        obtain ⟨i, hi, rfl, HJ, HW⟩ := hrel
        replace a3 := pw_cell_below HW.out a3
        replace q3 := pw_cell_below HW.out q3
        by_cases hlt : i < a.kids.length
        · obtain ⟨ad, rfl, x1⟩ := at_nat (Kd.C_below HA.out.k (below_step HB1.out HW.out)) i hlt
          obtain ⟨bd, rfl, x2⟩ := at_nat (Kd.C_below HBn.out.k (below_step HB1.out HW.out)) i (by rw [← HLn.out]; exact hlt)
          by_cases he : rd a.kids (i : Int) = rd b.kids (i : Int)
          · have de : (rd a.kids (i : Int) != rd b.kids (i : Int)) = false := by simp [he]
            have HJ2 := Aside0.mk (ext_lt HJ.out he)
            have HW2 := Aside0.mk (pw_below_drewN HW.out 1)
            clear he
            go_wp2
            go_region
            go_wp2
            go_roundw
            case rel => exact ⟨i + 1, by omega, by go_num, HJ2, HW2⟩
            case measure => simp [intOf]; omega
          · have de : (rd a.kids (i : Int) != rd b.kids (i : Int)) = true := by simp [he]
            have HE : Aside0 (sameN a b = false) := ⟨decide_eq_false (fun hh => he (by rw [hh.2.2.2]))⟩
            clear he
            go_wp2
            go_region
            go_wp2
            go_ret
            exact ⟨ret_bool HE.out.symm, pw_below_drewN (below_step HB1.out HW.out) 1⟩
        · obtain rfl : i = a.kids.length := by omega
          have HE : Aside0 (sameN a b = true) := ⟨decide_eq_true ⟨HO.out.1, HO.out.2.1, HO.out.2.2, List.ext_getElem HLn.out (fun j h1 h2 => by rw [← rd_eq h1, ← rd_eq h2]; exact HJ.out j h1)⟩⟩
          go_wp2
          go_ret
          exact ⟨ret_bool HE.out.symm, below_step HB1.out HW.out⟩
    · have HE : Aside0 (sameN a b = false) := ⟨decide_eq_false (fun hh => hl (by rw [hh.2.2.2]))⟩
      have dl : (a.kids.length != b.kids.length) = true := by simp [hl]
      have dl' : ((a.kids.length : Int) != (b.kids.length : Int)) = true := by simp; omega
      clear hl
      go_wp2
      go_ret
      exact ⟨ret_bool HE.out.symm, HB1.out⟩
end Go.Proofs.YtggldnbhmebcpaaDoor.L
end
section
namespace Go.Proofs.YtggldnbhmebcpaaDoor.L
open Go.RowKit Go.ChangeShapes Go.WideShapes Go.Proofs.YtggldnbhmebcpaaDoorW.PrintWords Go.Proofs.YtggldnbhmebcpaaDoorW.PrintLast Go.Proofs.YtggldnbhmebcpaaDoorW.PrintMore
attribute [local go_sem] max2_int min2_int max_two min_two max_three min_three max_four min_four
theorem nodes_ext {xs ys : List Node} (hl : xs.length = ys.length) (h : ∀ j : Nat, j < xs.length → nd xs j = nd ys j) : xs = ys := List.ext_getElem hl (fun j h1 h2 => by
  have := h j h1
  unfold nd at this
  rw [getD_eq _ h1, getD_eq _ h2] at this
  exact this)
end Go.Proofs.YtggldnbhmebcpaaDoor.L
end
section
namespace Go.Proofs.YtggldnbhmebcpaaDoor.L
open Go.RowKit Go.ChangeShapes Go.WideShapes Go.Proofs.YtggldnbhmebcpaaDoorW.PrintWords Go.Proofs.YtggldnbhmebcpaaDoorW.PrintLast Go.Proofs.YtggldnbhmebcpaaDoorW.PrintMore
attribute [local go_sem] max2_int min2_int max_two min_two max_three min_three max_four min_four
open Classical in
noncomputable def sameS (s t : Scene) : Bool := decide (s = t)
theorem sameS_yes {s t : Scene} (h : s = t) : sameS s t = true := by unfold sameS; simp [h]
theorem sameS_no {s t : Scene} (h : ¬ s = t) : sameS s t = false := by unfold sameS; simp [h]
theorem scene_ext {s t : Scene} (h1 : s.nodes = t.nodes) (h2 : s.root = t.root) : s = t := by cases s; cases t; simp only at h1 h2; subst h1 h2; rfl
set_option maxRecDepth 100000 in
set_option maxHeartbeats 4000000 in
theorem sameS_any (A : Option Addr) (c : Nat) (s : Scene) (B : Option Addr) (d : Nat) (t : Scene) (w : World) (h : kNode.C w A s.nodes.length s.nodes) (h' : kNode.C w B t.nodes.length t.nodes) (hs : ∀ i : Nat, i < s.nodes.length → Small (nd s.nodes i)) :
    Calls Tryd.prog 29 #[.agg #[.slice A s.nodes.length c, .int .i64 s.root], .agg #[.slice B t.nodes.length d, .int .i64 t.root]] w fun e w' => e = .returned (.bool (sameS s t)) ∧ Below w.heap.size w w' := by
  have HA := Aside0.mk h
  have HBn := Aside0.mk h'
  have HSm := Aside0.mk hs
  have b0 := h.2.1
  have HB := Aside0.mk (below_alloc (below_alloc (Below.refl w.heap.size w) (.cells #[.slice A s.nodes.length c, .int .i64 s.root] 24)) (.cells #[.slice B t.nodes.length d, .int .i64 t.root] 24))
  have HXa := Aside0.mk (show ((w.alloc (.cells #[.slice A s.nodes.length c, .int .i64 s.root] 24)).alloc (.cells #[.slice B t.nodes.length d, .int .i64 t.root] 24)).heap[w.heap.size]? = some (.cells #[.slice A s.nodes.length c, .int .i64 s.root] 24 (0, 0)) from by
    have : (w.alloc (.cells #[.slice A s.nodes.length c, .int .i64 s.root] 24)).heap[w.heap.size]? = some (.cells #[.slice A s.nodes.length c, .int .i64 s.root] 24 (0, 0)) := by simpa using heap_alloc_new w _
    exact (Below.block (below_alloc (Below.refl _ _) _) _ (by simp)).trans this)
  have HXb := Aside0.mk (show ((w.alloc (.cells #[.slice A s.nodes.length c, .int .i64 s.root] 24)).alloc (.cells #[.slice B t.nodes.length d, .int .i64 t.root] 24)).heap[w.heap.size + 1]? = some (.cells #[.slice B t.nodes.length d, .int .i64 t.root] 24 (0, 0)) from by
    have := heap_alloc_new (w.alloc (.cells #[.slice A s.nodes.length c, .int .i64 s.root] 24)) (.cells #[.slice B t.nodes.length d, .int .i64 t.root] 24)
    simpa using this)
  have hus := Tryd.underlying24
  have a0 := (blk_cell HXa.out 0).trans rfl
  have a1 := (blk_cell HXa.out 1).trans rfl
  have q0 := (blk_cell HXb.out 0).trans rfl
  have q1 := (blk_cell HXb.out 1).trans rfl
  have hun := Tryd.underlying46
  clear h h' hs
  by_cases hr : ¬ s.root = t.root
  · have HE : Aside0 (sameS s t = false) := ⟨sameS_no (fun e => hr (by rw [e]))⟩
    have dr : (s.root != t.root) = true := by simp [hr]
    clear hr
    go_enter Tryd.func29, Tryd.ntmps29
    go_wp2
    go_ret
    exact ⟨ret_bool HE.out.symm, HB.out⟩
  replace hr := Classical.byContradiction hr
  have HRo := Aside0.mk hr
  have dr : (s.root != t.root) = false := by simp [hr]
  clear hr
  by_cases hl : s.nodes.length = t.nodes.length
  · have HL := Aside0.mk hl
    rw [← hl] at q0 HXb HXa a0 a1 q1 HB ⊢
    clear hl
    go_enter Tryd.func29, Tryd.ntmps29
    go_wp2
    go_loopw [5] (fun v5 W => ∃ i : Nat, i ≤ s.nodes.length ∧ v5 = .int .i64 i ∧ Aside0 (∀ j : Nat, j < i → nd s.nodes j = nd t.nodes j) ∧ Aside0 (Below w.heap.size w W) ∧ Aside0 (W.cell? ⟨w.heap.size, 0, none⟩ = some (.slice A s.nodes.length c) ∧ W.cell? ⟨w.heap.size + 1, 0, none⟩ = some (.slice B s.nodes.length d))) (fun v5 _ => s.nodes.length - (intOf v5).toNat)
    case atStart => exact ⟨0, by omega, rfl, ⟨fun j h => by omega⟩, HB, ⟨a0, q0⟩⟩
    case round =>
      obtain ⟨i, hi, rfl, HJ, HW, HC⟩ := hrel
      clear a0 q0
      have a0 := HC.out.1
      have q0 := HC.out.2
      by_cases hlt : i < s.nodes.length
      · obtain ⟨ad, A1, c1, A2, c2, A3, c3, rfl, x0, x1, x2, x3, hN⟩ := at_node HA.out i hlt
        obtain ⟨bd, B1, d1, B2, d2, B3, d3, rfl, y0, y1, y2, y3, hM⟩ := at_node HBn.out i (by rw [← HL.out]; exact hlt)
        replace x0 := pw_cell_below HW.out x0
        replace x1 := pw_cell_below HW.out x1
        replace x2 := pw_cell_below HW.out x2
        replace x3 := pw_cell_below HW.out x3
        replace y0 := pw_cell_below HW.out y0
        replace y1 := pw_cell_below HW.out y1
        replace y2 := pw_cell_below HW.out y2
        replace y3 := pw_cell_below HW.out y3
        have HN := Aside0.mk hN
        have HM := Aside0.mk hM
        clear hN hM
        go_wp2
        go_region_held3 (fun W => W.cell? ⟨w.heap.size, 0, none⟩ = some (.slice (some ad) s.nodes.length c) ∧ W.cell? ⟨w.heap.size + 1, 0, none⟩ = some (.slice (some bd) s.nodes.length d) ∧ W.cell? (ad.add (i * 4)) = some (.int .i64 (nd s.nodes i).kind) ∧ W.cell? ⟨(ad.add (i * 4)).block, (ad.add (i * 4)).off + 1, none⟩ = some (.slice A1 (nd s.nodes i).ints.length c1) ∧ W.cell? ⟨(ad.add (i * 4)).block, (ad.add (i * 4)).off + 2, none⟩ = some (.slice A2 (nd s.nodes i).texts.length c2) ∧ W.cell? ⟨(ad.add (i * 4)).block, (ad.add (i * 4)).off + 3, none⟩ = some (.slice A3 (nd s.nodes i).kids.length c3) ∧
            W.cell? (bd.add (i * 4)) = some (.int .i64 (nd t.nodes i).kind) ∧ W.cell? ⟨(bd.add (i * 4)).block, (bd.add (i * 4)).off + 1, none⟩ = some (.slice B1 (nd t.nodes i).ints.length d1) ∧ W.cell? ⟨(bd.add (i * 4)).block, (bd.add (i * 4)).off + 2, none⟩ = some (.slice B2 (nd t.nodes i).texts.length d2) ∧ W.cell? ⟨(bd.add (i * 4)).block, (bd.add (i * 4)).off + 3, none⟩ = some (.slice B3 (nd t.nodes i).kids.length d3))
          (first
            | (go_split_ands
               refine ⟨?_, ?_, ?_, ?_, ?_, ?_, ?_, ?_, ?_, ?_⟩
               all_goals first
                 | with_reducible assumption
                 | with_reducible exact pw_cell_below hB (by assumption)
                 | (simp [*]; done)))
          (first
            | (go_at_call 40; refine (same_any (nd s.nodes i) (nd t.nodes i) A1 c1 A2 c2 A3 c3 B1 d1 B2 d2 B3 d3 _ (HN.out.below (below_drew HW.out)) (HM.out.below (below_drew HW.out)) (HSm.out i hlt)).mono ?_; rintro e w2 ⟨rfl, hB2⟩; have hB := hB2))
        have HB2 := Aside0.mk (below_step (below_drew HW.out) hB2)
        have HC2 := Aside0.mk (And.intro (pw_cell_below hB2 (show wr.drew.cell? _ = _ from a0)) (pw_cell_below hB2 (show wr.drew.cell? _ = _ from q0)))
        clear x0 x1 x2 x3 y0 y1 y2 y3 a0 q0
        cases hc : sameN (nd s.nodes i) (nd t.nodes i) with
        | true =>
          have HJ2 := Aside0.mk (ext_lt HJ.out (sameN_iff.1 hc))
          clear hc
          go_wp2
          go_roundw
          case rel => exact ⟨i + 1, by omega, by go_num, HJ2, HB2, HC2⟩
          case measure => simp [intOf]; omega
        | false =>
          have HE : Aside0 (sameS s t = false) := ⟨sameS_no (fun e => by
            have : sameN (nd s.nodes i) (nd t.nodes i) = true := sameN_iff.2 (by rw [e])
            rw [hc] at this; cases this)⟩
          clear hc
          go_wp2
          go_ret
          exact ⟨ret_bool HE.out.symm, HB2.out⟩
      · obtain rfl : i = s.nodes.length := by omega
        have HE : Aside0 (sameS s t = true) := ⟨sameS_yes (scene_ext (nodes_ext HL.out HJ.out) HRo.out)⟩
        go_wp2
        go_ret
        exact ⟨ret_bool HE.out.symm, HW.out⟩
  · have HE : Aside0 (sameS s t = false) := ⟨sameS_no (fun e => hl (by rw [e]))⟩
    have dl : (s.nodes.length != t.nodes.length) = true := by simp [hl]
    have dl' : ((s.nodes.length : Int) != (t.nodes.length : Int)) = true := by simp; omega
    clear hl
    go_enter Tryd.func29, Tryd.ntmps29
    go_wp2
    go_ret
    exact ⟨ret_bool HE.out.symm, HB.out⟩
end Go.Proofs.YtggldnbhmebcpaaDoor.L
end
section
namespace Go.Proofs.YtggldnbhmebcpaaDoor.L
open Go.RowKit Go.ChangeShapes Go.WideShapes Go.Proofs.YtggldnbhmebcpaaDoorW.PrintWords Go.Proofs.YtggldnbhmebcpaaDoorW.PrintLast Go.Proofs.YtggldnbhmebcpaaDoorW.PrintMore
attribute [local go_sem] max2_int min2_int max_two min_two max_three min_three max_four min_four
def edgesTo (ns : List Node) : Nat → Int
  | 0 => 0
  | i + 1 => IntKind.i64.wrap (edgesTo ns i + ((nd ns i).kids.length : Int))
def edgesW (ns : List Node) : Int := edgesTo ns ns.length
set_option maxRecDepth 100000 in
set_option maxHeartbeats 2000000 in
theorem edges_any (A : Option Addr) (c : Nat) (s : Scene) (w : World) (h : kNode.C w A s.nodes.length s.nodes) :
    Calls Tryd.prog 34 #[.agg #[.slice A s.nodes.length c, .int .i64 s.root]] w fun e w' => e = .returned (.int .i64 (edgesW s.nodes)) ∧ Below w.heap.size w w' := by
  have HR := Aside0.mk h
  have b0 := h.2.1
  have HB := Aside0.mk (below_alloc (Below.refl w.heap.size w) (.cells #[.slice A s.nodes.length c, .int .i64 s.root] 24))
  have k0 := box_cell w _ rfl #[.slice A s.nodes.length c, .int .i64 s.root] 24 0 _ rfl
  have hu := Tryd.underlying24
  have hun := Tryd.underlying46
  clear h
  go_enter Tryd.func34, Tryd.ntmps34
  go_wp2
  go_loopw [4, 3] (fun v4 v3 W => ∃ i : Nat, i ≤ s.nodes.length ∧ v4 = .int .i64 i ∧ v3 = .int .i64 (edgesTo s.nodes i) ∧ W = w.alloc (.cells #[.slice A s.nodes.length c, .int .i64 s.root] 24)) (fun v4 _ _ => s.nodes.length - (intOf v4).toNat)
  case atStart => exact ⟨0, by omega, rfl, rfl, by first | rfl | trivial⟩
  case round =>
    obtain ⟨i, hi, rfl, rfl, rfl⟩ := hrel
    by_cases hlt : i < s.nodes.length
    · obtain ⟨adn, A1, c1, A2, c2, A3, c3, rfl, x0, x1, x2, x3, hN⟩ := at_node HR.out i hlt
      replace x3 := pw_cell_below HB.out x3
      have HE := Aside0.mk (show edgesTo s.nodes (i + 1) = IntKind.i64.wrap (edgesTo s.nodes i + ((nd s.nodes i).kids.length : Int)) from rfl)
      clear hN x0 x1 x2
      generalize edgesTo s.nodes i = a at HE ⊢
      go_wp2
      go_roundw
      case rel => exact ⟨i + 1, by omega, by go_num, by rw [HE.out, i64_w], by first | rfl | trivial⟩
      case measure => simp [intOf]; omega
    · obtain rfl : i = s.nodes.length := by omega
      go_wp2
      go_ret
      exact ⟨rfl, HB.out⟩
end Go.Proofs.YtggldnbhmebcpaaDoor.L
end
section
namespace Go.Proofs.YtggldnbhmebcpaaDoor.L
open Go.RowKit Go.ChangeShapes Go.WideShapes Go.Proofs.YtggldnbhmebcpaaDoorW.PrintWords Go.Proofs.YtggldnbhmebcpaaDoorW.PrintLast Go.Proofs.YtggldnbhmebcpaaDoorW.PrintMore
attribute [local go_sem] max2_int min2_int max_two min_two max_three min_three max_four min_four
def greatS (s : Scene) : Bool := decide (60 < s.nodes.length ∨ 300 < edgesW s.nodes ∨ ∃ j, j < s.nodes.length ∧ greatN (nd s.nodes j) = true)
set_option maxRecDepth 100000 in
set_option maxHeartbeats 2000000 in
theorem greatS_any (A : Option Addr) (c : Nat) (s : Scene) (w : World) (h : kNode.C w A s.nodes.length s.nodes) :
    Calls Tryd.prog 21 #[.agg #[.slice A s.nodes.length c, .int .i64 s.root]] w fun e w' => e = .returned (.bool (greatS s)) ∧ Below w.heap.size w w' := by
  have HR := Aside0.mk h
  have b0 := h.2.1
  have HB := Aside0.mk (below_alloc (Below.refl w.heap.size w) (.cells #[.slice A s.nodes.length c, .int .i64 s.root] 24))
  have k0 := box_cell w _ rfl #[.slice A s.nodes.length c, .int .i64 s.root] 24 0 _ rfl
  have k1 := box_cell w _ rfl #[.slice A s.nodes.length c, .int .i64 s.root] 24 1 _ rfl
  have hu := Tryd.underlying24
  have hun := Tryd.underlying46
  clear h
  by_cases h1 : 60 < s.nodes.length
  · have HE : Aside0 (greatS s = true) := ⟨decide_eq_true (.inl h1)⟩
    have d1 : decide (60 < (s.nodes.length : Int)) = true := decide_eq_true (by omega)
    clear h1
    go_enter Tryd.func21, Tryd.ntmps21
    go_wp2
    go_ret
    exact ⟨ret_bool HE.out.symm, HB.out⟩
  have H1 := Aside0.mk h1
  have d1 : decide (60 < (s.nodes.length : Int)) = false := decide_eq_false (by omega)
  clear h1
  go_enter Tryd.func21, Tryd.ntmps21
  go_wp2_with fail
  refine (edges_any A c s _ (Kd.C_below HR.out HB.out)).mono ?_
  rintro e w1 ⟨rfl, hB1⟩
  have HB1 := Aside0.mk (below_step HB.out hB1)
  replace k0 := pw_cell_below hB1 k0
  clear hB1 k1 d1
  by_cases h2 : 300 < edgesW s.nodes
  · have HE : Aside0 (greatS s = true) := ⟨decide_eq_true (.inr (.inl h2))⟩
    have d2 : decide (300 < edgesW s.nodes) = true := decide_eq_true h2
    clear h2
    go_wp2
    go_ret
    exact ⟨ret_bool HE.out.symm, HB1.out⟩
  have H2 := Aside0.mk h2
  have d2 : decide (300 < edgesW s.nodes) = false := decide_eq_false h2
  clear h2
  go_wp2
  clear d2
  go_loopw [3] (fun v3 W => ∃ i : Nat, i ≤ s.nodes.length ∧ v3 = .int .i64 i ∧ Aside0 (∀ j : Nat, j < i → ¬ greatN (nd s.nodes j) = true) ∧ Aside0 (Below w.heap.size w W ∧ W.cell? ⟨w.heap.size, 0, none⟩ = some (.slice A s.nodes.length c))) (fun v3 _ => s.nodes.length - (intOf v3).toNat)
  case atStart => exact ⟨0, by omega, rfl, ⟨fun j h => by omega⟩, ⟨HB1.out, k0⟩⟩
  case round =>
    clear k0
    obtain ⟨i, hi, rfl, HJ, HW⟩ := hrel
    have k0 := HW.out.2
    by_cases hlt : i < s.nodes.length
    · obtain ⟨adn, A1, c1, A2, c2, A3, c3, rfl, x0, x1, x2, x3, hN⟩ := at_node HR.out i hlt
      replace x0 := pw_cell_below HW.out.1 x0
      replace x1 := pw_cell_below HW.out.1 x1
      replace x2 := pw_cell_below HW.out.1 x2
      replace x3 := pw_cell_below HW.out.1 x3
      have HN := Aside0.mk hN
      clear hN
      go_wp2_with fail
      refine (great_any (nd s.nodes i) A1 c1 A2 c2 A3 c3 _ (HN.out.below HW.out.1)).mono ?_
      rintro e w2 ⟨rfl, hB2⟩
      have HB2 := Aside0.mk (And.intro (below_step HW.out.1 hB2) (pw_cell_below hB2 k0))
      clear hB2 k0 x0 x1 x2 x3
      cases hg : greatN (nd s.nodes i) with
      | true =>
        have HE : Aside0 (greatS s = true) := ⟨decide_eq_true (.inr (.inr ⟨i, hlt, hg⟩))⟩
        clear hg
        go_wp2
        go_ret
        exact ⟨ret_bool HE.out.symm, HB2.out.1⟩
      | false =>
        have HJ2 := Aside0.mk (ext_lt HJ.out (show ¬ greatN (nd s.nodes i) = true by rw [hg]; simp))
        clear hg
        go_wp2
        go_roundw
        case rel => exact ⟨i + 1, by omega, by go_num, HJ2, HB2⟩
        case measure => simp [intOf]; omega
    · obtain rfl : i = s.nodes.length := by omega
      have HE : Aside0 (greatS s = false) := ⟨decide_eq_false (fun h => by
        rcases h with h | h | ⟨j, hj, h⟩
        · exact H1.out h
        · have := H2.out; omega
        · exact HJ.out j hj h)⟩
      go_wp2
      go_ret
      exact ⟨ret_bool HE.out.symm, HW.out.1⟩
end Go.Proofs.YtggldnbhmebcpaaDoor.L
end
section
namespace Go.Proofs.YtggldnbhmebcpaaDoor.L
open Go.RowKit Go.ChangeShapes Go.WideShapes Go.Proofs.YtggldnbhmebcpaaDoorW.PrintWords Go.Proofs.YtggldnbhmebcpaaDoorW.PrintLast Go.Proofs.YtggldnbhmebcpaaDoorW.PrintMore
attribute [local go_sem] max2_int min2_int max_two min_two max_three min_three max_four min_four
theorem ints_ext {a b : List Int} (hl : a.length = b.length) (h : ∀ j : Nat, j < a.length → rd a (j : Int) = rd b (j : Int)) : a = b :=
  List.ext_getElem hl fun j h1 h2 => by have := h j h1; rwa [rd_eq h1, rd_eq h2] at this
set_option maxRecDepth 100000 in
set_option maxHeartbeats 2000000 in
theorem ints_draw (A : Option Addr) (c : Nat) (a : List Int) (B : Option Addr) (d : Nat) (b : List Int) (w : World) (h : (Kd.int .i64).C w A a.length a) (h' : (Kd.int .i64).C w B b.length b) :
    Calls Tryd.prog 13 #[.slice A a.length c, .slice B b.length d] w fun e w' => e = .returned (.bool (decide (a = b))) ∧ Drawn0 w w' := by
  have HA := Aside0.mk h
  have HBn := Aside0.mk h'
  have b0 := h.2.1
  have b1 := h'.2.1
  clear h h'
  by_cases hl : a.length = b.length
  · have HLn := Aside0.mk hl
    rw [← hl]
    clear hl
    go_enter Tryd.func13, Tryd.ntmps13
    go_wp2
    go_loopw [5] (fun v5 W => ∃ i : Nat, i ≤ a.length ∧ v5 = .int .i64 i ∧ Aside0 (∀ j : Nat, j < i → rd a (j : Int) = rd b (j : Int)) ∧ Drawn0 w W) (fun v5 _ => a.length - (intOf v5).toNat)
    case atStart => exact ⟨0, by omega, rfl, ⟨fun j h => by omega⟩, Drawn0.refl _⟩
    case round =>
      obtain ⟨i, hi, rfl, HJ, ⟨m, rfl⟩⟩ := hrel
      by_cases hlt : i < a.length
      · obtain ⟨ad, rfl, x1⟩ := at_nat HA.out i hlt
        obtain ⟨bd, rfl, x2⟩ := at_nat HBn.out i (by rw [← HLn.out]; exact hlt)
        by_cases he : rd a (i : Int) = rd b (i : Int)
        · have de : (rd a (i : Int) != rd b (i : Int)) = false := by simp [he]
          have HJ2 := Aside0.mk (ext_lt HJ.out he)
          clear he
          go_wp2
          go_region
          go_wp2
          go_roundw
          case rel => exact ⟨i + 1, by omega, by go_num, HJ2, by repeat (first | exact Drawn0.refl _ | apply Drawn0.step)⟩
          case measure => simp [intOf]; omega
        · have de : (rd a (i : Int) != rd b (i : Int)) = true := by simp [he]
          have HE : Aside0 (decide (a = b) = false) := ⟨decide_eq_false (fun hh => he (by rw [hh]))⟩
          clear he
          go_wp2
          go_region
          go_wp2
          go_ret
          exact ⟨ret_bool HE.out.symm, by repeat (first | exact Drawn0.refl _ | apply Drawn0.step)⟩
      · obtain rfl : i = a.length := by omega
        have HE : Aside0 (decide (a = b) = true) := ⟨decide_eq_true (ints_ext HLn.out HJ.out)⟩
        go_wp2
        go_ret
        exact ⟨ret_bool HE.out.symm, by repeat (first | exact Drawn0.refl _ | apply Drawn0.step)⟩
  · have HE : Aside0 (decide (a = b) = false) := ⟨decide_eq_false (fun hh => hl (by rw [hh]))⟩
    have dl : (a.length != b.length) = true := by simp [hl]
    have dl' : ((a.length : Int) != (b.length : Int)) = true := by simp; omega
    clear hl
    go_enter Tryd.func13, Tryd.ntmps13
    go_wp2
    go_ret
    exact ⟨ret_bool HE.out.symm, Drawn0.refl _⟩
theorem ints_any (A : Option Addr) (c : Nat) (a : List Int) (B : Option Addr) (d : Nat) (b : List Int) (w : World) (h : (Kd.int .i64).C w A a.length a) (h' : (Kd.int .i64).C w B b.length b) :
    Calls Tryd.prog 13 #[.slice A a.length c, .slice B b.length d] w fun e w' => e = .returned (.bool (decide (a = b))) ∧ Below w.heap.size w w' := by
  refine (ints_draw A c a B d b w h h').mono ?_
  rintro e w' ⟨rfl, m, rfl⟩
  exact ⟨rfl, pw_below_drewN (Below.refl _ _) m⟩
end Go.Proofs.YtggldnbhmebcpaaDoor.L
end
section
namespace Go.Proofs.YtggldnbhmebcpaaDoor.L
open Go.RowKit Go.ChangeShapes Go.WideShapes Go.Proofs.YtggldnbhmebcpaaDoorW.PrintWords Go.Proofs.YtggldnbhmebcpaaDoorW.PrintLast Go.Proofs.YtggldnbhmebcpaaDoorW.PrintMore
attribute [local go_sem] max2_int min2_int max_two min_two max_three min_three max_four min_four
theorem sum_map_le {f : Nat → Nat} {b : Nat} : ∀ l : List Nat, (∀ x ∈ l, f x ≤ b) → (l.map f).sum ≤ l.length * b
  | [], _ => by simp
  | x :: l, h => by
    have h1 := sum_map_le l (fun y hy => h y (by simp [hy]))
    have h2 := h x (by simp)
    rw [List.map_cons, List.sum_cons, List.length_cons, Nat.succ_mul]
    omega
theorem rows_leB {ns : List Node} {b : Nat} (h : ∀ i : Nat, i < ns.length → (nd ns i).kids.length ≤ b) : rows ns ≤ ns.length * (b + 1) := by
  unfold rows
  have := sum_map_le (f := wt ns) (b := b + 1) (List.range ns.length) (fun x hx => by
    have := h x (List.mem_range.1 hx)
    unfold wt; omega)
  rwa [List.length_range] at this
end Go.Proofs.YtggldnbhmebcpaaDoor.L
end
section
namespace Go.Proofs.YtggldnbhmebcpaaDoor.L
open Go.RowKit Go.ChangeShapes Go.WideShapes Go.Proofs.YtggldnbhmebcpaaDoorW.PrintWords Go.Proofs.YtggldnbhmebcpaaDoorW.PrintLast Go.Proofs.YtggldnbhmebcpaaDoorW.PrintMore
attribute [local go_sem] max2_int min2_int max_two min_two max_three min_three max_four min_four
def Lits {α : Type} (d : Kd α) (W : World) : List α → List Value → Prop
  | [], cs => cs = []
  | p :: ps, cs => ∃ c r, cs = c ++ r ∧ d.K W p c ∧ Lits d W ps r
theorem Lits.reps {α : Type} {d : Kd α} {W : World} : ∀ (ps : List α) (cs : List Value) (qs : List α) (ds : List Value), Lits d W ps cs → Reps (d.K W) d.sz qs ds → Reps (d.K W) d.sz (qs ++ ps) (ds ++ cs)
  | [], cs, qs, ds, h, hr => by
    obtain rfl : cs = [] := h
    simpa using hr
  | p :: ps, cs, qs, ds, h, hr => by
    obtain ⟨c, r, rfl, hk, hl⟩ := h
    have := Lits.reps ps r (qs ++ [p]) (ds ++ c) hl (Reps.snoc hr hk (d.K_len hk))
    simpa using this
theorem C_lits {α : Type} (d : Kd α) (W : World) (e n : Nat) (hn : W.heap.size = n) (ps : List α) (cs : List Value) (h : Lits d W ps cs) (hm : ps.length ≤ 1000000) {ca : Array Value} (hca : ca = cs.toArray) :
    d.C (W.alloc (.cells ca e)) (some ⟨n, 0, none⟩) ps.length ps := by
  subst hn hca
  have hr := Lits.reps ps cs [] [] h (Reps.none _ _)
  rw [List.nil_append, List.nil_append] at hr
  have hb : Below W.heap.size W (W.alloc (.cells cs.toArray e)) := below_alloc (Below.refl _ _) _
  refine ⟨rfl, by omega, fun _ => ⟨_, rfl, fun j p hj => ?_⟩⟩
  have hk := hr.2 j p hj
  refine ⟨_, d.K_len hk, d.K_below hb hk, fun q u hu => ?_⟩
  have hh : (W.alloc (.cells cs.toArray e)).heap[W.heap.size]? = some (.cells cs.toArray e (0, 0)) := by simpa using heap_alloc_new W _
  rw [Go.Proofs.YtggldnbhmebcpaaDoorW.PrintWords.add_plain, blk_cell hh]
  rw [List.getElem?_take] at hu
  split at hu
  · rw [List.getElem?_drop] at hu
    simpa using hu
  · cases hu
end Go.Proofs.YtggldnbhmebcpaaDoor.L
end
section
namespace Go.Proofs.YtggldnbhmebcpaaDoor.L
open Go.RowKit Go.ChangeShapes Go.WideShapes Go.Proofs.YtggldnbhmebcpaaDoorW.PrintWords Go.Proofs.YtggldnbhmebcpaaDoorW.PrintLast Go.Proofs.YtggldnbhmebcpaaDoorW.PrintMore
attribute [local go_sem] max2_int min2_int max_two min_two max_three min_three max_four min_four
theorem scK {w : World} {A : Option Addr} {c : Nat} {s : Scene} (h : kNode.C w A s.nodes.length s.nodes) (hc : s.nodes.length ≤ c) : kScene.K w s [.slice A s.nodes.length c, .int .i64 s.root] := ⟨_, _, rfl, ⟨A, c, rfl, hc, h⟩, rfl⟩
theorem sc_row2 (w : World) (g : Nat) (hg : w.heap.size = g) {a b : Scene} {x0 x1 y0 y1 : Value} (ha : kScene.K w a [x0, x1]) (hb : kScene.K w b [y0, y1]) : kScene.C (w.alloc (.cells #[x0, x1, y0, y1] 24)) (some ⟨g, 0, none⟩) 2 [a, b] := by
  subst hg
  exact C_lits kScene _ 24 _ rfl [a, b] _ ⟨_, _, (show _ = [_, _] ++ [_, _] from rfl), ha, _, _, (show _ = [_, _] ++ [] from rfl), hb, rfl⟩ (by simp) rfl
theorem none_bd : ScBd ⟨[], 0⟩ := ⟨fun i hi => absurd hi (Nat.not_lt_zero _), by decide⟩
theorem at_ints {w : World} {A : Option Addr} {n : Nat} {xs : List (List Int)} (h : kInts.C w A n xs) (i : Nat) (h1 : i < n) :
    ∃ ad B d, A = some ad ∧ w.cell? (ad.add i) = some (.slice B (xs.getD i []).length d) ∧ (xs.getD i []).length ≤ d ∧ (Kd.int .i64).C w B (xs.getD i []).length (xs.getD i []) := by
  obtain ⟨ad, c, e, _, hK, hc0⟩ := Kd.C_get h [] (i : Int) (by omega) (by omega)
  have hK : kInts.K w (xs.getD i []) c := by simpa using hK
  obtain ⟨B, d, rfl, hl, hC⟩ := hK
  refine ⟨ad, B, d, e, ?_, hl, hC⟩
  have := hc0 0 _ rfl
  simpa [show kInts.sz = 1 from rfl] using this
theorem add_zero (ad : Addr) : ad.add (0 : Nat) = ad := by cases ad; simp [Addr.add]
end Go.Proofs.YtggldnbhmebcpaaDoor.L
end
section
namespace Go.Proofs.YtggldnbhmebcpaaDoor.L
open Go.RowKit Go.ChangeShapes Go.WideShapes Go.Proofs.YtggldnbhmebcpaaDoorW.PrintWords Go.Proofs.YtggldnbhmebcpaaDoorW.PrintLast Go.Proofs.YtggldnbhmebcpaaDoorW.PrintMore
attribute [local go_sem] max2_int min2_int max_two min_two max_three min_three max_four min_four
theorem two_nums (T : Lib.PrintTabs) {a b : Scene} (ha : isC a = true) (hb : isC b = true) (hna : a.nodes.length ≤ 400000) (hnb : b.nodes.length ≤ 400000) :
    ∃ o1 o2 : List Int, (allS T [a, b]).2 = [o1, o2] ∧ o1.length = a.nodes.length ∧ o2.length = b.nodes.length ∧ matP (PN o1 o2) (QK a.nodes b.nodes) a.nodes.length b.nodes.length = matS a.nodes b.nodes ∧ (∀ x ∈ o1, I64 x) ∧ ∀ x ∈ o2, I64 x := by
  have ga : AheadN a.nodes := fun p hp k hk => isC_ahead (isC_right ha) ha hp hk
  have gb : AheadN b.nodes := fun p hp k hk => isC_ahead (isC_right hb) hb hp hk
  have hA : ∀ s ∈ [a, b], AheadN s.nodes := fun s hs => by
    rcases List.mem_cons.1 hs with rfl | hs
    · exact ga
    · rw [List.mem_singleton.1 hs]; exact gb
  have n1 := all_numd (T := T) hA (i := 0) (by simp)
  have n2 := all_numd (T := T) hA (i := 1) (by simp)
  have l1 := own_vs_len T [] a.nodes.length a.nodes rfl
  have l2 := own_vs_len T (ownS T [] a.nodes).1 b.nodes.length b.nodes rfl
  simp only [List.length_nil] at l1
  refine ⟨(ownS T [] a.nodes).2, (ownS T (ownS T [] a.nodes).1 b.nodes).2, rfl, own_len T _ _ _ rfl, own_len T _ _ _ rfl, mat_num ga gb n1 n2, fun x hx => ?_, fun x hx => ?_⟩
  · have := own_vals T [] a.nodes x hx
    exact ⟨by omega, by omega⟩
  · have := own_vals T (ownS T [] a.nodes).1 b.nodes x hx
    exact ⟨by omega, by omega⟩
theorem at_i {w : World} {A : Option Addr} {n : Nat} {xs : List Int} (h : (Kd.int .i64).C w A n xs) (i : Nat) (h1 : i < n) : ∃ ad, A = some ad ∧ w.cell? (ad.add i) = some (.int .i64 (rd xs (i : Int))) := by
  obtain ⟨ad, c, e, _, hK, hc0⟩ := Kd.C_get h 0 (i : Int) (by omega) (by omega)
  have hK : c = [.int .i64 (rd xs (i : Int))] := by
    rw [Int.toNat_natCast] at hK
    exact hK
  subst hK
  refine ⟨ad, e, ?_⟩
  have := hc0 0 _ rfl
  simpa [show (Kd.int .i64).sz = 1 from rfl] using this
structure MatS (w5 : World) (N mb tb cn : Nat) (full : List UInt8 → List Int) (tk out : List Int) (v : Value) (W : World) : Prop where
  free : ∃ nn f cut, nn ≤ cn ∧ FreeM w5 W N mb nn f full cut ∧ ∀ p, ∀ x ∈ (full p).take (cut p), x ∈ tk
  taken : ∃ m, m ≤ cn ∧ MapF Tryd.prog 3 W tb m (visF tk)
  out : (Kd.int .i64).R 3 W w5.heap.size (fun k => N ≤ k) v out
  tbN : N ≤ tb
  ne : mb ≠ tb
  ge : w5.heap.size ≤ N
section
variable {w5 W W1 : World} {N mb tb cn : Nat} {full : List UInt8 → List Int} {tk out : List Int} {v : Value}
theorem MatS.below (h : MatS w5 N mb tb cn full tk out v W) : Below w5.heap.size w5 W := by
  obtain ⟨nn, f, cut, h1, h2, h3⟩ := h.free
  exact h2.below
theorem MatS.later (h : MatS w5 N mb tb cn full tk out v W) (hb : Below W.heap.size W W1) : MatS w5 N mb tb cn full tk out v W1 :=
  ⟨by obtain ⟨nn, f, cut, h1, h2, h3⟩ := h.free; exact ⟨nn, f, cut, h1, h2.later hb, h3⟩, by obtain ⟨m, h1, h2⟩ := h.taken; exact ⟨m, h1, h2.below hb⟩, Kd.R_below h.out hb, h.tbN, h.ne, h.ge⟩
theorem MatS.put {g n c i : Nat} (h : MatS w5 N mb tb cn full tk out (.slice (some ⟨g, 0, none⟩) n c) W) (hi : i < n) (x : Int) : MatS w5 N mb tb cn full tk (out.set i x) (.slice (some ⟨g, 0, none⟩) n c) (W.setCell ⟨g, i, none⟩ (.int .i64 x)) := by
  obtain ⟨r1, -, r3⟩ := ints_store h.out i hi x
  have hg : N ≤ g := h.out.1 g rfl
  obtain ⟨cells, hcl⟩ := Kd.R_typed h.out g rfl
  refine ⟨?_, ?_, r1, h.tbN, h.ne, h.ge⟩
  · obtain ⟨nn, f, cut, h1, h2, h3⟩ := h.free
    exact ⟨nn, f, cut, h1, h2.far hg r3 (fun e => by subst e; exact h2.map.not_cells hcl) _, h3⟩
  · obtain ⟨m, h1, h2⟩ := h.taken
    exact ⟨m, h1, h2.setCell (fun e => by have e : tb = g := e; subst e; exact h2.not_cells hcl) _⟩
theorem MatS.more {cn' : Nat} (h : MatS w5 N mb tb cn full tk out v W) (hl : cn ≤ cn') : MatS w5 N mb tb cn' full tk out v W :=
  ⟨by obtain ⟨nn, f, cut, h1, h2, h3⟩ := h.free; exact ⟨nn, f, cut, by omega, h2, h3⟩, by obtain ⟨m, h1, h2⟩ := h.taken; exact ⟨m, by omega, h2⟩, h.out, h.tbN, h.ne, h.ge⟩
theorem mtake_any (h : MatS w5 N mb tb cn full tk out v W) (q : List UInt8) (hin : ∀ x ∈ full q, 0 ≤ x ∧ x ≤ 1000000) (hl : (full q).length ≤ 1000000) (hq : q.length ≤ maxLen) (hn : cn < maxLen) :
    Calls Tryd.prog 26 #[.map (some mb), .string ⟨q.toArray⟩, .map (some tb)] W (fun e W' => e = .returned (.int .i64 (firstL (full q) tk)) ∧ MatS w5 N mb tb (cn + 1) full (if 0 ≤ firstL (full q) tk then firstL (full q) tk :: tk else tk) out v W' ∧
      ∀ (g : Nat) (cs : Array Value) (t : TypeId) (fr : Nat × Nat), W.heap[g]? = some (.cells cs t fr) → W'.heap[g]? = some (.cells cs t fr)) := by
  obtain ⟨nn, f, cut, h1, h2, h3⟩ := h.free
  obtain ⟨m, g1, g2⟩ := h.taken
  refine (ftake_any h2 g2 h.ne (Nat.le_trans h.ge h.tbN) h3 q hin hl hq (by omega) (by omega)).mono ?_
  rintro e W' ⟨rfl, n', m', f', cut', a1, a2, a3, a4, a5, a6, a7⟩
  exact ⟨rfl, ⟨⟨n', f', cut', by omega, a3, a5⟩, ⟨m', by omega, a4⟩, a6 _ _ _ _ _ _ h.out, h.tbN, h.ne, h.ge⟩, a7⟩
end
theorem grow_below {W w1 : World} (hg : W.grownBy w1 none) : Below W.heap.size W w1 := ⟨hg.os, hg.tape, hg.output, hg.size, fun i hi => hg.block i hi (by simp)⟩
def nils (n : Nat) : List Int := List.replicate n 0
theorem nils_set {o : List Int} {i m : Nat} (ho : o.length = i) (hi : i < m) (x : Int) : (o ++ nils (m - i)).set i x = (o ++ [x]) ++ nils (m - (i + 1)) := by
  rw [List.set_append_right _ _ (by omega), ho, Nat.sub_self, show m - i = (m - (i + 1)) + 1 from by omega]
  show o ++ (List.replicate (m - (i + 1) + 1) 0).set 0 x = _
  rw [List.replicate_succ, List.set_cons_zero, List.append_assoc]; rfl
def MatchPost (a t : Scene) (w : World) (e : Ending) (w' : World) : Prop :=
  (isC a = true ∧ isC t = true ∧ ∃ A c, e = .returned (.tuple #[.slice A t.nodes.length c, .int .i64 0]) ∧ (Kd.int .i64).R 3 w' w.heap.size (fun _ => True) (.slice A t.nodes.length c) (matS a.nodes t.nodes) ∧ Below w.heap.size w w') ∨
  ((isC a && isC t) = false ∧ e = .returned (.tuple #[.slice none 0 0, .int .i64 16]) ∧ Below w.heap.size w w')
set_option maxRecDepth 100000 in
set_option maxHeartbeats 8000000 in
theorem match_any (T : Lib.PrintTabs) (A : Option Addr) (c : Nat) (a : Scene) (B : Option Addr) (d : Nat) (t : Scene) (w : World) (h : kNode.C w A a.nodes.length a.nodes) (hc : a.nodes.length ≤ c) (h' : kNode.C w B t.nodes.length t.nodes) (hd : t.nodes.length ≤ d)
    (hBa : ScBd a) (hBt : ScBd t) (hT : QTabs T w) :
    Calls Tryd.prog 10 #[.agg #[.slice A a.nodes.length c, .int .i64 a.root], .agg #[.slice B t.nodes.length d, .int .i64 t.root]] w (MatchPost a t w) := by
  have HR := Aside0.mk h
  have HR' := Aside0.mk h'
  have HT := Aside0.mk hT
  have HBa := Aside0.mk hBa
  have HBt := Aside0.mk hBt
  have hna : a.nodes.length ≤ 400000 := Nat.le_trans (len_rows _) hBa.2
  have hnt : t.nodes.length ≤ 400000 := Nat.le_trans (len_rows _) hBt.2
  have hA0 := below_alloc (Below.refl w.heap.size w) (.cells #[.slice A a.nodes.length c, .int .i64 a.root] 24)
  have hA1 := below_alloc (Below.refl (w.alloc (.cells #[.slice A a.nodes.length c, .int .i64 a.root] 24)).heap.size (w.alloc (.cells #[.slice A a.nodes.length c, .int .i64 a.root] 24))) (.cells #[.slice B t.nodes.length d, .int .i64 t.root] 24)
  have HB := Aside0.mk (below_step hA0 hA1)
  have k0 := pw_cell_below hA1 (box_cell w _ rfl #[.slice A a.nodes.length c, .int .i64 a.root] 24 0 (.slice A a.nodes.length c) rfl)
  have k1 := pw_cell_below hA1 (box_cell w _ rfl #[.slice A a.nodes.length c, .int .i64 a.root] 24 1 (.int .i64 a.root) rfl)
  have q0 := box_cell (w.alloc (.cells #[.slice A a.nodes.length c, .int .i64 a.root] 24)) (w.heap.size + 1) (by simp) #[.slice B t.nodes.length d, .int .i64 t.root] 24 0 (.slice B t.nodes.length d) rfl
  have q1 := box_cell (w.alloc (.cells #[.slice A a.nodes.length c, .int .i64 a.root] 24)) (w.heap.size + 1) (by simp) #[.slice B t.nodes.length d, .int .i64 t.root] 24 1 (.int .i64 t.root) rfl
  have hu := Tryd.underlying24
  have hun := Tryd.underlying46
  have hmm := @run_makeMap Tryd.prog
  have HZ := Aside0.mk (show ((w.alloc (.cells #[.slice A a.nodes.length c, .int .i64 a.root] 24)).alloc (.cells #[.slice B t.nodes.length d, .int .i64 t.root] 24)).heap.size = w.heap.size + 1 + 1 from by simp)
  clear h h' hT hA0 hA1 hBa hBt
  go_enter Tryd.func10, Tryd.ntmps10
  go_wp2_with fail
  generalize (w.alloc (.cells #[.slice A a.nodes.length c, .int .i64 a.root] 24)).alloc (.cells #[.slice B t.nodes.length d, .int .i64 t.root] 24) = w4 at HB HZ k0 k1 q0 q1 ⊢
  have HKa := Aside0.mk (fun (W : World) (hW : Below w.heap.size w W) => scK (Kd.C_below HR.out hW) hc)
  have HKb := Aside0.mk (fun (W : World) (hW : Below w.heap.size w W) => scK (Kd.C_below HR'.out hW) hd)
  have hA5 := below_alloc (Below.refl w4.heap.size w4) (.cells #[.slice A a.nodes.length c, .int .i64 a.root, .slice B t.nodes.length d, .int .i64 t.root] 24)
  refine (numbers_any T _ 2 [a, t] _ (sc_row2 w4 _ HZ.out (HKa.out w4 HB.out) (HKb.out w4 HB.out)) (fun i hi => by
    have hi : i < 2 := hi
    match i, hi with
    | 0, _ => exact HBa.out
    | 1, _ => exact HBt.out) (by simp) (HT.out.below (below_step HB.out hA5))).mono ?_
  rintro e w5 ⟨hB5, (⟨hall, v, rfl, hR5⟩ | ⟨⟨i, hi, hbad⟩, rfl⟩)⟩
  · have hia : isC a = true := hall 0 (by simp)
    have hit : isC t = true := hall 1 (by simp)
    have HIs := Aside0.mk (And.intro hia hit)
    obtain ⟨o1, o2, he2, hl1, hl2, hmp, hw1, hw2⟩ := two_nums T hia hit hna hnt
    rw [he2] at hR5
    obtain ⟨A5, c5, hv5⟩ := Kd.R_slice hR5
    subst hv5
    have hB5 := below_step hA5 hB5
    replace k0 := pw_cell_below hB5 k0
    replace q0 := pw_cell_below hB5 q0
    have HB5 := Aside0.mk (below_step HB.out hB5)
    have HB45 := Aside0.mk hB5
    have HL5 := Aside0.mk (Kd.R_reads' hR5).2.2
    have HMp := Aside0.mk hmp
    have HW1 := Aside0.mk hw1
    have HW2 := Aside0.mk hw2
    clear hR5 hB5 hA5 HB hall hia hit he2 hmp hw1 hw2 k1 q1
    obtain ⟨al, B0, d0, rfl, x0, -, hC0⟩ := at_ints HL5.out 0 (by simp)
    obtain ⟨al', B2, d2, el, x2, -, hC2⟩ := at_ints HL5.out 1 (by simp)
    injection el with el
    subst el
    have HC0 := Aside0.mk (show (Kd.int .i64).C w5 B0 o1.length o1 from hC0)
    have HC2 := Aside0.mk (show (Kd.int .i64).C w5 B2 o2.length o2 from hC2)
    have x0 : w5.cell? al = some (.slice B0 o1.length d0) := by
      rw [add_zero al] at x0
      exact x0
    have x2 : w5.cell? (al.add (1 : Nat)) = some (.slice B2 o2.length d2) := x2
    replace x2 : w5.cell? ⟨al.block, al.off + 1, none⟩ = some (.slice B2 o2.length d2) := x2
    clear hC0 hC2 HL5
    rw [hl1] at x0 HC0
    rw [hl2] at x2 HC2
    have HRM0 := Aside0.mk (RowsM.start w5 (fun _ => []))
    have hz := HZ.out
    have hz5 := HB45.out.size
    have b0 : w.heap.size < w5.heap.size := by omega
    have b1 : w.heap.size + 1 < w5.heap.size := by omega
    clear hz hz5 HB45
    go_wp2
    clear k0
    generalize hmb : w5.heap.size = mb at b0 b1 HRM0 ⊢
    generalize w5.alloc (.map #[] 0) = W0 at HRM0 ⊢
    have HX := Aside0.mk (And.intro x0 (And.intro x2 q0))
    clear x0 x2 q0
    go_loopw [30] (fun v30 W => ∃ i : Nat, i ≤ a.nodes.length ∧ v30 = .int .i64 i ∧ Aside0 (∃ f tg, RowsM w5 W mb (2 * i) f tg (openR o1 a.nodes i))) (fun v30 _ => a.nodes.length - (intOf v30).toNat)
    case atStart => exact ⟨0, by omega, rfl, ⟨_, _, HRM0.out⟩⟩
    case round =>
      clear HRM0
      obtain ⟨i, hi, rfl, HO⟩ := hrel
      obtain ⟨f, tg, hM⟩ := HO.out
      have HM := Aside0.mk hM
      clear HO hM
      by_cases hlt : i < a.nodes.length
      · obtain ⟨an, A1, c1, A2, c2, A3, c3, rfl, y0, y1, y2, y3, hN⟩ := at_node HR.out i hlt
        have HW := Aside0.mk (below_step HB5.out HM.out.below)
        replace y0 := pw_cell_below HW.out y0
        replace y1 := pw_cell_below HW.out y1
        replace y2 := pw_cell_below HW.out y2
        replace y3 := pw_cell_below HW.out y3
        have HN := Aside0.mk hN
        have HNb := Aside0.mk (HBa.out.1 i hlt)
        have HNx := Aside0.mk (show openR o1 a.nodes (i + 1) = updR (updR (openR o1 a.nodes i) (Lib.itoa (rd o1 (i : Int))) (i : Int)) (kindW (nd a.nodes i)) (i : Int) from rfl)
        have HLn := Aside0.mk (fun q => openR_len (nums := o1) (ns := a.nodes) (q := q) (m := i))
        have x0 := pw_cell_below HM.out.below HX.out.1
        obtain ⟨bd, rfl, n0⟩ := at_i HC0.out i hlt
        have n0 := pw_cell_below HM.out.below n0
        have HI6 := Aside0.mk (HW1.out (rd o1 (i : Int)) (rd_mem (by omega)))
        have HTw := Aside0.mk (HT.out.below HW.out)
        generalize openR o1 a.nodes i = rows at HM HNx HLn
        generalize hnn : nd a.nodes i = n at y0 y1 y2 y3 HN HNb HNx
        generalize hzz : rd o1 (i : Int) = z at n0 HI6 HNx
        clear hnn hzz hN
        have e0 := World.block_lt_of_cell? wr _ x0
        have e1 := World.block_lt_of_cell? wr _ n0
        have hna1 : 2 * i < maxLen := by unfold maxLen; omega
        have hna2 : 2 * i + 1 < maxLen := by unfold maxLen; omega
        have HNa := Aside0.mk (And.intro hna1 (And.intro hna2 hna))
        clear hna1 hna2
        go_wp2_with fail
        have HBx := Aside0.mk (blk_new wr (.cells #[.int .i64 n.kind, .slice A1 n.ints.length c1, .slice A2 n.texts.length c2, .slice A3 n.kids.length c3] 46))
        have HM1 := Aside0.mk (HM.out.later (below_alloc (Below.refl _ _) (.cells #[.int .i64 n.kind, .slice A1 n.ints.length c1, .slice A2 n.texts.length c2, .slice A3 n.kids.length c3] 46)))
        have HT1 := Aside0.mk (HTw.out.below (below_alloc (Below.refl _ _) (.cells #[.int .i64 n.kind, .slice A1 n.ints.length c1, .slice A2 n.texts.length c2, .slice A3 n.kids.length c3] 46)))
        clear y0 y1 y2 y3 x0 n0 e0 e1 HM HTw
        generalize wr.alloc (.cells #[.int .i64 n.kind, .slice A1 n.ints.length c1, .slice A2 n.texts.length c2, .slice A3 n.kids.length c3] 46) = w7 at HBx HM1 HT1 ⊢
        generalize wr.heap.size = gb at HBx ⊢
        refine (itoa_any T z w7 HI6.out HT1.out).mono ?_
        rintro e w8 ⟨rfl, hB8⟩
        have HBx8 := Aside0.mk (blk_below HBx.out hB8)
        have HM8 := Aside0.mk (HM1.out.later hB8)
        clear hB8 HM1 HBx
        go_wp2_with fail
        refine (fadd_any HM8.out (Lib.itoa z) (i : Int) (by have := itoa_len HI6.out; unfold maxLen; omega) HNa.out.1 (by have := HLn.out (Lib.itoa z); have := HNa.out.2.2; omega)).mono ?_
        rintro e w9 ⟨rfl, f', tg', hM9, hK9⟩
        have HM9 := Aside0.mk hM9
        have hbx9 := hK9 _ _ _ (by decide) HBx8.out
        have HBx9 := Aside0.mk hbx9
        have HT9 := Aside0.mk (HT.out.below (below_step HB5.out hM9.below))
        have v0 : w9.cell? ⟨gb, 0, none⟩ = some (.int .i64 n.kind) := (blk_cell hbx9 0).trans rfl
        have v1 : w9.cell? ⟨gb, 1, none⟩ = some (.slice A1 n.ints.length c1) := (blk_cell hbx9 1).trans rfl
        have v2 : w9.cell? ⟨gb, 2, none⟩ = some (.slice A2 n.texts.length c2) := (blk_cell hbx9 2).trans rfl
        have v3 : w9.cell? ⟨gb, 3, none⟩ = some (.slice A3 n.kids.length c3) := (blk_cell hbx9 3).trans rfl
        clear hM9 hK9 hbx9 HM8 HBx8
        go_wp2_with fail
        refine (mkind_any T n A1 c1 A2 c2 A3 c3 w9 HNb.out.1 HNb.out.2.2.kind HT9.out).mono ?_
        rintro e w10 ⟨rfl, hB10⟩
        have HM10 := Aside0.mk (HM9.out.later hB10)
        clear hB10 HM9 v0 v1 v2 v3
        go_wp2_with fail
        refine (fadd_any HM10.out (kindW n) (i : Int) (kindW_len HNb.out.1 HNb.out.2.2.kind) HNa.out.2.1 (by
          have h1 := HLn.out (kindW n)
          have h2 := HNa.out.2.2
          unfold updR
          split
          · rename_i h3
            rw [List.length_append, List.length_singleton, ← h3]; omega
          · omega)).mono ?_
        rintro e w11 ⟨rfl, f2, tg2, hM11, -⟩
        rw [← HNx.out] at hM11
        have HM11 := Aside0.mk hM11
        clear hM11 HM10
        go_wp2
        go_roundw
        case rel => exact ⟨i + 1, by omega, by go_num, ⟨_, _, HM11.out⟩⟩
        case measure => simp [intOf]; omega
      · obtain rfl : i = a.nodes.length := by omega
        have q0 := pw_cell_below HM.out.below HX.out.2.2
        have hz := HM.out.below.size
        have c1 : w.heap.size + 1 < wr.heap.size := by omega
        have hnt' : (t.nodes.length : Int) ≤ 9223372036854775807 := by omega
        obtain ⟨N, hN⟩ : ∃ N, N = wr.heap.size := ⟨_, rfl⟩
        have HF := Aside0.mk (show MatS w5 N mb wr.heap.size (2 * a.nodes.length) (openR o1 a.nodes a.nodes.length) [] [] (.slice none 0 0) (wr.alloc (.map #[] 0)) from
          ⟨⟨_, _, _, Nat.le_refl _, hN ▸ (HM.out.free.later (below_alloc (Below.refl _ _) _)), fun p x hx => by rw [List.take_zero] at hx; cases hx⟩, ⟨0, Nat.zero_le _, by rw [visF_nil]; exact MapF.made _ _ _⟩, Kd.R_nil _ _ _ _ _, by omega, fun e => by have := HM.out.map.lt; omega, by omega⟩)
        have HBw := Aside0.mk (below_alloc HM.out.below (.map #[] 0))
        go_wp2_with (refine Kd.R_make (Kd.int .i64) (w0 := w5) w5.heap.size 3 rfl (N := 55) rfl 27 _ _ rfl (t.nodes.length : Int) rfl rfl Tryd.underlying27 (.int .i64 0) 8 info_int rfl (by decide) (by omega) 0 (ok := fun k => N ≤ k) (okp := fun _ => False) rfl (fun _ hk => hk.elim) (by show N ≤ _; simp; omega) (by omega) (by omega) HBw.out HBw.out.size ?_; intro v2 w2 ho2 hb2 hg2 hn2; rw [Int.toNat_natCast] at ho2; have q0 := pw_cell_below (grow_below hg2) (pw_cell_below (below_alloc (Below.refl _ _) (.map #[] 0)) q0); have HS2 := Aside0.mk (show MatS w5 N mb wr.heap.size (2 * a.nodes.length) (openR o1 a.nodes a.nodes.length) [] (nils t.nodes.length) v2 w2 from ⟨(HF.out.later (grow_below hg2)).free, (HF.out.later (grow_below hg2)).taken, ho2, HF.out.tbN, HF.out.ne, HF.out.ge⟩); clear ho2 hb2 hg2 hn2)
        clear q0 hmm c1 hz HF HBw
        obtain ⟨Ao, co, hv⟩ := Kd.R_slice HS2.out.out
        rw [show (nils t.nodes.length).length = t.nodes.length from by simp [nils]] at hv
        subst hv
        clear hN
        generalize wr.heap.size = tb at HS2 ⊢
        clear HM
        have HFu := Aside0.mk (fun q => And.intro (fun (x : Int) (hx : x ∈ openR o1 a.nodes a.nodes.length q) => (show 0 ≤ x ∧ x ≤ 1000000 from by have := openR_mem (nums := o1) (ns := a.nodes) (q := q) (m := a.nodes.length) x hx; omega)) (show (openR o1 a.nodes a.nodes.length q).length ≤ 1000000 from by have := openR_len (nums := o1) (ns := a.nodes) (q := q) (m := a.nodes.length); omega))
        go_loopw [59] (fun v59 W => ∃ (i : Nat) (tk : List Int), i ≤ t.nodes.length ∧ v59 = .int .i64 i ∧ Aside0 (MatS w5 N mb tb (2 * a.nodes.length + i) (openR o1 a.nodes a.nodes.length) tk (rndA (PN o1 o2) a.nodes.length i ++ nils (t.nodes.length - i)) (.slice Ao t.nodes.length co) W) ∧ Aside0 (∀ k : Nat, k < a.nodes.length → ((k : Int) ∈ tk ↔ (k : Int) ∈ rndA (PN o1 o2) a.nodes.length i))) (fun v59 _ => t.nodes.length - (intOf v59).toNat)
        case atStart => exact ⟨0, [], by omega, rfl, ⟨HS2.out⟩, ⟨fun k _ => Iff.rfl⟩⟩
        case round =>
          clear HS2
          obtain ⟨i, tk, hi, rfl, HS, HTk⟩ := hrel
          by_cases hlt : i < t.nodes.length
          · obtain ⟨g, hgA⟩ : ∃ g, Ao = some ⟨g, 0, none⟩ := by
              obtain ⟨g, cap, e, -⟩ := Kd.R_form HS.out.out (by rw [List.length_append, A_len]; simp [nils]; omega)
              injection e with e1
              exact ⟨g, e1⟩
            subst hgA
            have x2 := pw_cell_below HS.out.below HX.out.2.1
            obtain ⟨bd, rfl, n0⟩ := at_i HC2.out i hlt
            have n0 := pw_cell_below HS.out.below n0
            have HI6 := Aside0.mk (HW2.out (rd o2 (i : Int)) (rd_mem (by omega)))
            have HTw := Aside0.mk (HT.out.below (below_step HB5.out HS.out.below))
            have HRa := Aside0.mk (roundA (ns := a.nodes) HTk.out)
            generalize hzz : rd o2 (i : Int) = z at n0 HI6 HRa
            clear hzz
            go_wp2_with fail
            clear x2 n0
            refine (itoa_any T z wr HI6.out HTw.out).mono ?_
            rintro e w8 ⟨rfl, hB8⟩
            have HS8 := Aside0.mk (HS.out.later hB8)
            clear hB8 HTw HS
            go_wp2_with fail
            refine (mtake_any HS8.out (Lib.itoa z) (HFu.out (Lib.itoa z)).1 (HFu.out (Lib.itoa z)).2 (by have := itoa_len HI6.out; unfold maxLen; omega) (by unfold maxLen; omega)).mono ?_
            rintro e w9 ⟨rfl, hS9, -⟩
            rw [HRa.out] at hS9 ⊢
            have HS10 := Aside0.mk (hS9.put (i := i) hlt (firstF (PN o1 o2 i) (rndA (PN o1 o2) a.nodes.length i) a.nodes.length))
            have hc9 := ints_cell hS9.out i hlt
            have c9 := hc9.1
            have f9 := hc9.2
            rw [nils_set (A_len i) hlt] at HS10
            have HTk2 := Aside0.mk (fun (k : Nat) (hk : k < a.nodes.length) => taken_app (x := firstF (PN o1 o2 i) (rndA (PN o1 o2) a.nodes.length i) a.nodes.length) (HTk.out k hk))
            clear hc9 hS9 HS8
            go_wp2
            go_roundw
            case rel => exact ⟨i + 1, _, by omega, by go_num, ⟨HS10.out⟩, ⟨HTk2.out⟩⟩
            case measure => simp [intOf]; omega
          · obtain rfl : i = t.nodes.length := by omega
            have HS : Aside0 (MatS w5 N mb tb (2 * a.nodes.length + t.nodes.length) (openR o1 a.nodes a.nodes.length) tk (rndB (QK a.nodes t.nodes) a.nodes.length (rndA (PN o1 o2) a.nodes.length t.nodes.length) 0) (.slice Ao t.nodes.length co) wr) := ⟨by
              have h := HS.out
              rw [Nat.sub_self] at h
              rw [show rndA (PN o1 o2) a.nodes.length t.nodes.length ++ nils 0 = rndA (PN o1 o2) a.nodes.length t.nodes.length from List.append_nil _] at h
              exact h⟩
            have HTk : Aside0 (∀ k : Nat, k < a.nodes.length → ((k : Int) ∈ tk ↔ (k : Int) ∈ rndB (QK a.nodes t.nodes) a.nodes.length (rndA (PN o1 o2) a.nodes.length t.nodes.length) 0)) := HTk
            have hoA : (rndA (PN o1 o2) a.nodes.length t.nodes.length).length = t.nodes.length := A_len _
            have HMp2 : Aside0 (rndB (QK a.nodes t.nodes) a.nodes.length (rndA (PN o1 o2) a.nodes.length t.nodes.length) t.nodes.length = matS a.nodes t.nodes) := ⟨HMp.out⟩
            generalize rndA (PN o1 o2) a.nodes.length t.nodes.length = oA at HS HTk hoA HMp2
            have HOa := Aside0.mk hoA
            clear hoA
            have q0 := pw_cell_below HS.out.below HX.out.2.2
            go_wp2
            clear q0
            go_loopw [79] (fun v79 W => ∃ (i : Nat) (tk : List Int), i ≤ t.nodes.length ∧ v79 = .int .i64 i ∧ Aside0 (MatS w5 N mb tb (2 * a.nodes.length + t.nodes.length + i) (openR o1 a.nodes a.nodes.length) tk (rndB (QK a.nodes t.nodes) a.nodes.length oA i) (.slice Ao t.nodes.length co) W) ∧ Aside0 (∀ k : Nat, k < a.nodes.length → ((k : Int) ∈ tk ↔ (k : Int) ∈ rndB (QK a.nodes t.nodes) a.nodes.length oA i))) (fun v79 _ => t.nodes.length - (intOf v79).toNat)
            case atStart => exact ⟨0, tk, by omega, rfl, HS, HTk⟩
            case round =>
              clear HS HTk
              obtain ⟨i, tk, hi, rfl, HS, HTk⟩ := hrel
              by_cases hlt : i < t.nodes.length
              · have hbl : (rndB (QK a.nodes t.nodes) a.nodes.length oA i).length = t.nodes.length := by rw [B_len, HOa.out]
                obtain ⟨g, hgA⟩ : ∃ g, Ao = some ⟨g, 0, none⟩ := by
                  obtain ⟨g, cap, e, -⟩ := Kd.R_form HS.out.out (by rw [hbl]; omega)
                  injection e with e1
                  exact ⟨g, e1⟩
                subst hgA
                obtain ⟨bn, A1, c1, A2, c2, A3, c3, rfl, y0, y1, y2, y3, hN⟩ := at_node HR'.out i hlt
                have HW := Aside0.mk (below_step HB5.out HS.out.below)
                replace y0 := pw_cell_below HW.out y0
                replace y1 := pw_cell_below HW.out y1
                replace y2 := pw_cell_below HW.out y2
                replace y3 := pw_cell_below HW.out y3
                have HNb := Aside0.mk (HBt.out.1 i hlt)
                have HTw := Aside0.mk (HT.out.below HW.out)
                have HRb := Aside0.mk (roundB (na := o1) HTk.out)
                have hBs := B_step (Q := QK a.nodes t.nodes) (n := a.nodes.length) (o := oA) (m := i) (by rw [HOa.out]; exact hlt)
                have x6 := (ints_cell HS.out.out i hlt).1
                have e0 := World.block_lt_of_cell? wr _ x6
                by_cases hz : rd (rndB (QK a.nodes t.nodes) a.nodes.length oA i) (i : Int) < 0
                · have d1 : decide (rd (rndB (QK a.nodes t.nodes) a.nodes.length oA i) (i : Int) < 0) = true := decide_eq_true hz
                  rw [if_pos hz] at hBs
                  have HBs := Aside0.mk hBs
                  have HTk2 := Aside0.mk (fun (k : Nat) (hk : k < a.nodes.length) => taken_set (x := firstF (QK a.nodes t.nodes i) (rndB (QK a.nodes t.nodes) a.nodes.length oA i) a.nodes.length) (by rw [hbl]; exact hlt) hz (HTk.out k hk))
                  clear hBs hz hN
                  generalize hnn : nd t.nodes i = n at y0 y1 y2 y3 HNb HRb
                  clear hnn
                  go_wp2_with fail
                  have HBx := Aside0.mk (blk_new wr (.cells #[.int .i64 n.kind, .slice A1 n.ints.length c1, .slice A2 n.texts.length c2, .slice A3 n.kids.length c3] 46))
                  have HS1 := Aside0.mk (HS.out.later (below_alloc (Below.refl _ _) (.cells #[.int .i64 n.kind, .slice A1 n.ints.length c1, .slice A2 n.texts.length c2, .slice A3 n.kids.length c3] 46)))
                  have HT1 := Aside0.mk (HTw.out.below (below_alloc (Below.refl _ _) (.cells #[.int .i64 n.kind, .slice A1 n.ints.length c1, .slice A2 n.texts.length c2, .slice A3 n.kids.length c3] 46)))
                  clear y0 y1 y2 y3 x6 e0 HTw HS d1
                  generalize wr.alloc (.cells #[.int .i64 n.kind, .slice A1 n.ints.length c1, .slice A2 n.texts.length c2, .slice A3 n.kids.length c3] 46) = w7 at HBx HS1 HT1 ⊢
                  refine (mkind_any T n A1 c1 A2 c2 A3 c3 w7 HNb.out.1 HNb.out.2.2.kind HT1.out).mono ?_
                  rintro e w8 ⟨rfl, hB8⟩
                  have HS8 := Aside0.mk (HS1.out.later hB8)
                  clear hB8 HS1 HT1 HBx
                  go_wp2_with fail
                  refine (mtake_any HS8.out (kindW n) (HFu.out (kindW n)).1 (HFu.out (kindW n)).2 (kindW_len HNb.out.1 HNb.out.2.2.kind) (by unfold maxLen; omega)).mono ?_
                  rintro e w9 ⟨rfl, hS9, -⟩
                  rw [HRb.out] at hS9 ⊢
                  have HS10 := Aside0.mk (hS9.put (i := i) hlt (firstF (QK a.nodes t.nodes i) (rndB (QK a.nodes t.nodes) a.nodes.length oA i) a.nodes.length))
                  have hc9 := ints_cell hS9.out i hlt
                  have c9 := hc9.1
                  have f9 := hc9.2
                  rw [← HBs.out] at HS10 HTk2
                  clear hc9 hS9 HS8
                  go_wp2
                  go_roundw
                  case rel => exact ⟨i + 1, _, by omega, by go_num, ⟨HS10.out⟩, ⟨HTk2.out⟩⟩
                  case measure => simp [intOf]; omega
                · have d1 : decide (rd (rndB (QK a.nodes t.nodes) a.nodes.length oA i) (i : Int) < 0) = false := decide_eq_false hz
                  rw [if_neg hz] at hBs
                  have HS1 := Aside0.mk (show MatS w5 N mb tb (2 * a.nodes.length + t.nodes.length + (i + 1)) (openR o1 a.nodes a.nodes.length) tk (rndB (QK a.nodes t.nodes) a.nodes.length oA (i + 1)) (.slice (some ⟨g, 0, none⟩) t.nodes.length co) (wr.alloc (.cells #[.int .i64 (nd t.nodes i).kind, .slice A1 (nd t.nodes i).ints.length c1, .slice A2 (nd t.nodes i).texts.length c2, .slice A3 (nd t.nodes i).kids.length c3] 46)) from by
                    rw [hBs]
                    have h := HS.out.later (below_alloc (Below.refl _ _) (.cells #[.int .i64 (nd t.nodes i).kind, .slice A1 (nd t.nodes i).ints.length c1, .slice A2 (nd t.nodes i).texts.length c2, .slice A3 (nd t.nodes i).kids.length c3] 46))
                    exact h.more (by omega))
                  have HTk2 := Aside0.mk (show ∀ k : Nat, k < a.nodes.length → ((k : Int) ∈ tk ↔ (k : Int) ∈ rndB (QK a.nodes t.nodes) a.nodes.length oA (i + 1)) from by rw [hBs]; exact HTk.out)
                  clear hBs hz hN HS HTk
                  go_wp2
                  go_roundw
                  case rel => exact ⟨i + 1, _, by omega, by go_num, HS1, HTk2⟩
                  case measure => simp [intOf]; omega
              · obtain rfl : i = t.nodes.length := by omega
                rw [HMp2.out] at HS
                go_wp2
                go_ret2
                exact .inl ⟨HIs.out.1, HIs.out.2, _, _, rfl, Kd.R_mono (Kd.R_lower HS.out.out HB5.out.size) (fun _ _ => trivial), below_step HB5.out HS.out.below⟩
  · have HBad := Aside0.mk (show (isC a && isC t) = false from by
      have hi : i < 2 := hi
      match i, hi, hbad with
      | 0, _, hbad => rw [show isC a = false from hbad]; rfl
      | 1, _, hbad => rw [show isC t = false from hbad, Bool.and_false])
    have HB5 := Aside0.mk (below_step HB.out (below_step hA5 hB5))
    clear hB5 hA5 hbad hmm k0 k1 q0 q1
    go_wp2
    go_ret2
    exact .inr ⟨HBad.out, rfl, HB5.out⟩
end Go.Proofs.YtggldnbhmebcpaaDoor.L
end
section
namespace Go.Proofs.YtggldnbhmebcpaaDoor.L
open Go.RowKit Go.ChangeShapes Go.WideShapes Go.Proofs.YtggldnbhmebcpaaDoorW.PrintWords Go.Proofs.YtggldnbhmebcpaaDoorW.PrintLast Go.Proofs.YtggldnbhmebcpaaDoorW.PrintMore
attribute [local go_sem] max2_int min2_int max_two min_two max_three min_three max_four min_four
def boxN (n : Int) : Node := ⟨3, [n, n, n], [⟨#[97]⟩], []⟩
def grpN : Node := ⟨1, [], [⟨#[]⟩], [0, 1]⟩
def pairS (x y : Int) : Scene := ⟨[boxN x, boxN y, grpN], 2⟩
set_option maxRecDepth 100000 in
set_option maxHeartbeats 4000000 in
theorem mbox_any (n : Int) (w : World) : Calls Tryd.prog 20 #[.int .i64 n] w fun e w' => ∃ A1 c1 A2 c2, e = .returned (.agg #[.int .i64 3, .slice A1 3 c1, .slice A2 1 c2, .slice none 0 0]) ∧ NodeC w' (boxN n) A1 c1 A2 c2 none 0 ∧ Below w.heap.size w w' := by
  have hun := Tryd.underlying46
  go_enter Tryd.func20, Tryd.ntmps20
  go_wp2
  refine bodyPost_ret (v := .agg #[.int .i64 3, .slice (some ⟨w.heap.size + 1, 0, none⟩) 3 3, .slice (some ⟨w.heap.size + 1 + 1, 0, none⟩) 1 1, .slice none 0 0]) (by simp [results, Tryd.results20, go_sem]) rfl ?_
  exact ⟨_, _, _, _, rfl, ⟨by simp [boxN], by simp [boxN], by simp [boxN], Kd.C_alloc (C_ints _ _ _ (by simp) [n, n, n] (by simp) rfl) _, C_strs _ _ _ (by simp) [⟨#[97]⟩] (by simp) rfl, C_nil _ _⟩, below_alloc (below_alloc (below_alloc (Below.refl _ _) _) _) _⟩
theorem box_K {w : World} {n : Int} {A1 : Option Addr} {c1 : Nat} {A2 : Option Addr} {c2 : Nat} (h : NodeC w (boxN n) A1 c1 A2 c2 none 0) : kNode.K w (boxN n) [.int .i64 3, .slice A1 3 c1, .slice A2 1 c2, .slice none 0 0] := kNode_mk h
set_option maxRecDepth 100000 in
set_option maxHeartbeats 4000000 in
theorem mpair_any (x y : Int) (A1 : Option Addr) (c1 : Nat) (A2 : Option Addr) (c2 : Nat) (B1 : Option Addr) (d1 : Nat) (B2 : Option Addr) (d2 : Nat) (w : World) (hx : NodeC w (boxN x) A1 c1 A2 c2 none 0) (hy : NodeC w (boxN y) B1 d1 B2 d2 none 0) :
    Calls Tryd.prog 19 #[.agg #[.int .i64 3, .slice A1 3 c1, .slice A2 1 c2, .slice none 0 0], .agg #[.int .i64 3, .slice B1 3 d1, .slice B2 1 d2, .slice none 0 0]] w fun e w' => ∃ A, e = .returned (.agg #[.slice A 3 3, .int .i64 2]) ∧ kNode.C w' A 3 (pairS x y).nodes ∧ Below w.heap.size w w' := by
  have hun := Tryd.underlying46
  have hu := Tryd.underlying24
  have HX := Aside0.mk hx
  have HY := Aside0.mk hy
  clear hx hy
  go_enter Tryd.func19, Tryd.ntmps19
  go_wp2
  refine bodyPost_ret (v := .agg #[.slice (some ⟨w.heap.size + 1 + 1 + 1 + 1 + 1, 0, none⟩) 3 3, .int .i64 2]) (by simp [results, Tryd.results19, go_sem]) rfl ?_
  have hb := below_alloc (below_alloc (below_alloc (below_alloc (below_alloc (Below.refl w.heap.size w) (.cells #[.int .i64 3, .slice A1 3 c1, .slice A2 1 c2, .slice none 0 0] 46)) (.cells #[.int .i64 3, .slice B1 3 d1, .slice B2 1 d2, .slice none 0 0] 46)) (.cells #[.slice (some ⟨w.heap.size + 1 + 1 + 1 + 1 + 1, 0, none⟩) 3 3, .int .i64 2] 24)) (.cells #[.string ⟨#[]⟩] 9)) (.cells #[.int .i64 0, .int .i64 1] 3)
  refine ⟨_, rfl, ?_, below_alloc hb _⟩
  refine C_lits kNode _ 46 _ (by simp) [boxN x, boxN y, grpN] _ ⟨_, _, (show _ = [_, _, _, _] ++ [_, _, _, _, _, _, _, _] from rfl), box_K (HX.out.below hb), _, _, (show _ = [_, _, _, _] ++ [_, _, _, _] from rfl), box_K (HY.out.below hb), _, _, (show _ = [_, _, _, _] ++ [] from rfl), ?_, rfl⟩ (by simp) rfl
  exact kNode_mk (x := grpN) ⟨by simp [grpN], by simp [grpN], by simp [grpN], C_nil _ _, Kd.C_alloc (C_strs _ _ _ (by simp) [⟨#[]⟩] (by simp) rfl) _, C_ints _ _ _ (by simp) [0, 1] (by simp) rfl⟩
end Go.Proofs.YtggldnbhmebcpaaDoor.L
end
section
namespace Go.Proofs.YtggldnbhmebcpaaDoor.L
open Go.RowKit Go.ChangeShapes Go.WideShapes Go.Proofs.YtggldnbhmebcpaaDoorW.PrintWords Go.Proofs.YtggldnbhmebcpaaDoorW.PrintLast Go.Proofs.YtggldnbhmebcpaaDoorW.PrintMore
attribute [local go_sem] max2_int min2_int max_two min_two max_three min_three max_four min_four
theorem QK_iff {a t : List Node} {i k : Nat} : QK a t i k = true ↔ alike (nd a k) (nd t i) = true := by
  unfold QK alike
  rw [decide_eq_true_iff, decide_eq_true_iff, kindW_inj]
end Go.Proofs.YtggldnbhmebcpaaDoor.L
end
section
namespace Go.Proofs.YtggldnbhmebcpaaDoor.L
open Go.RowKit Go.ChangeShapes Go.WideShapes Go.Proofs.YtggldnbhmebcpaaDoorW.PrintWords Go.Proofs.YtggldnbhmebcpaaDoorW.PrintLast Go.Proofs.YtggldnbhmebcpaaDoorW.PrintMore
attribute [local go_sem] max2_int min2_int max_two min_two max_three min_three max_four min_four
theorem pair_ahead (x y : Int) : AheadN (pairS x y).nodes := fun p hp k hk => by
  have hp : p < 3 := hp
  match p, hp with
  | 0, _ => cases hk
  | 1, _ => cases hk
  | 2, _ =>
    have hk : k ∈ [(0 : Int), 1] := hk
    simp at hk
    omega
theorem pair_right (x y : Int) : Right (pairS x y) := by
  refine ⟨by show (0 : Int) ≤ 2; omega, by show (2 : Int) < 3; omega, ahead_places (pair_ahead x y), ahead_cyc (pair_ahead x y), fun p hp => ?_⟩
  have hp : p < 3 := hp
  have h2 : Rch (pairS x y).nodes [(pairS x y).root] 2 := .base (by simp [pairS])
  match p, hp with
  | 0, _ => exact .step h2 (show (0 : Int) ∈ [(0 : Int), 1] by simp)
  | 1, _ => exact .step h2 (show (1 : Int) ∈ [(0 : Int), 1] by simp)
  | 2, _ => exact h2
theorem pair_ord (x y : Int) : ord (pairS x y) = [0, 1, 2] := by
  have hd := (pair_right x y).dag
  have p0 : Pl (pairS x y).nodes 0 := ⟨by omega, by show (0 : Int) < 3; omega⟩
  have p1 : Pl (pairS x y).nodes 1 := ⟨by omega, by show (1 : Int) < 3; omega⟩
  have p2 : Pl (pairS x y).nodes 2 := ⟨by omega, by show (2 : Int) < 3; omega⟩
  have k0 : kids (pairS x y).nodes 0 = [] := rfl
  have k1 : kids (pairS x y).nodes 1 = [] := rfl
  have k2 : kids (pairS x y).nodes 2 = [0, 1] := rfl
  show M (pairS x y).nodes 2 [] = _
  rw [M_out hd p2 (by simp), k2, ML_cons, M_out hd p0 (by simp), k0, ML_cons]
  show M (pairS x y).nodes 1 [0] ++ [2] = _
  rw [M_out hd p1 (by simp), k1]
  rfl
theorem pair_c (x y : Int) : isC (pairS x y) = true := by
  refine (isC_iff (pair_right x y)).2 ?_
  have hc : canonL (pairS x y) = (pairS x y).nodes := by
    unfold canonL
    rw [pair_ord]
    show [relab (pairS x y) (boxN x), relab (pairS x y) (boxN y), relab (pairS x y) grpN] = _
    have e1 : relab (pairS x y) (boxN x) = boxN x := rfl
    have e2 : relab (pairS x y) (boxN y) = boxN y := rfl
    have e3 : relab (pairS x y) grpN = grpN := by
      unfold relab idx
      rw [pair_ord]
      rfl
    rw [e1, e2, e3]
    rfl
  rw [hc]
  rfl
theorem empty_nc : isC (⟨[], 0⟩ : Scene) = false := Bool.eq_false_iff.2 (fun h => by
  have := (isC_right h).r1
  have : (0 : Int) < 0 := this
  omega)
theorem pair_bd {x y : Int} (hx : I64 x) (hy : I64 y) : ScBd (pairS x y) := by
  refine ⟨fun i hi => ?_, ?_⟩
  · have hi : i < 3 := hi
    have hb : ∀ z : Int, I64 z → Small (boxN z) ∧ (∀ s ∈ (boxN z).texts, s.size ≤ 1000000) ∧ NBd (boxN z) := fun z hz => ⟨⟨by simp [boxN], by simp [boxN], by simp [boxN]⟩, by
      intro s hs
      have hs : s ∈ [(⟨#[97]⟩ : ByteArray)] := hs
      rw [List.mem_singleton.1 hs]
      decide, ⟨⟨by simp [boxN], by simp [boxN]⟩, fun q hq => by
        have hq : q ∈ [z, z, z] := hq
        simp at hq
        rw [hq]; exact hz⟩⟩
    match i, hi with
    | 0, _ => exact hb x hx
    | 1, _ => exact hb y hy
    | 2, _ => exact ⟨(⟨by decide, by decide, by decide⟩ : Small grpN), by
        intro s hs
        have hs : s ∈ [(⟨#[]⟩ : ByteArray)] := hs
        rw [List.mem_singleton.1 hs]
        decide, (⟨⟨by decide, by decide⟩, fun q hq => by cases hq⟩ : NBd grpN)⟩
  · have : rows (pairS x y).nodes ≤ 400000 := by
      refine Nat.le_trans (rows_leB (b := 10) (fun i hi => ?_)) ?_
      · have hi : i < 3 := hi
        match i, hi with
        | 0, _ => exact Nat.zero_le _
        | 1, _ => exact Nat.zero_le _
        | 2, _ => exact (by decide : 2 ≤ 10)
      · show 3 * 11 ≤ _; omega
    exact this
theorem QK_alike (a t : List Node) (i k : Nat) : QK a t i k = alike (nd a k) (nd t i) := by
  cases h : alike (nd a k) (nd t i) with
  | true => exact QK_iff.2 h
  | false => exact Bool.eq_false_iff.2 (fun hh => by rw [QK_iff.1 hh] at h; cases h)
theorem pair_mat : matS (pairS 1 2).nodes (pairS 2 3).nodes = [1, 0, 2] := by
  unfold matS
  rw [matP_congr (Q' := fun i k => alike (nd (pairS 1 2).nodes k) (nd (pairS 2 3).nodes i)) (fun _ _ _ _ => rfl) (fun i k _ _ => QK_alike _ _ i k)]
  decide
end Go.Proofs.YtggldnbhmebcpaaDoor.L
end
section
namespace Go.Proofs.YtggldnbhmebcpaaDoor.L
open Go.RowKit Go.ChangeShapes Go.WideShapes Go.Proofs.YtggldnbhmebcpaaDoorW.PrintWords Go.Proofs.YtggldnbhmebcpaaDoorW.PrintLast Go.Proofs.YtggldnbhmebcpaaDoorW.PrintMore
attribute [local go_sem] max2_int min2_int max_two min_two max_three min_three max_four min_four
set_option maxRecDepth 100000 in
set_option maxHeartbeats 4000000 in
theorem mawake_any (T : Lib.PrintTabs) (w : World) (hT : QTabs T w) : Calls Tryd.prog 8 #[] w fun e w' => e = .returned (.bool true) ∧ Below w.heap.size w w' := by
  have HT := Aside0.mk hT
  have hua := Tryd.underlying24
  have hun := Tryd.underlying46
  clear hT
  go_enter Tryd.func8, Tryd.ntmps8
  go_wp2_with fail
  refine (mbox_any 1 w).mono ?_
  rintro e w1 ⟨A1, c1, A2, c2, rfl, h1, hB1⟩
  go_wp2_with fail
  refine (mbox_any 2 w1).mono ?_
  rintro e w2 ⟨B1, d1, B2, d2, rfl, h2, hB2⟩
  go_wp2_with fail
  refine (mpair_any 1 2 _ _ _ _ _ _ _ _ w2 (h1.below hB2) h2).mono ?_
  rintro e w3 ⟨A3, rfl, h3, hB3⟩
  have HA3 := Aside0.mk h3
  have HB3 := Aside0.mk (below_step (below_step hB1 hB2) hB3)
  clear h1 h2 h3 hB1 hB2 hB3
  go_wp2_with fail
  refine (mbox_any 2 w3).mono ?_
  rintro e w4 ⟨A1, c1, A2, c2, rfl, h1, hB1⟩
  go_wp2_with fail
  refine (mbox_any 3 w4).mono ?_
  rintro e w5 ⟨B1, d1, B2, d2, rfl, h2, hB2⟩
  go_wp2_with fail
  refine (mpair_any 2 3 _ _ _ _ _ _ _ _ w5 (h1.below hB2) h2).mono ?_
  rintro e w6 ⟨A6, rfl, h3, hB3⟩
  have hB := below_step (below_step hB1 hB2) hB3
  have HA6 := Aside0.mk h3
  have HA36 := Aside0.mk (Kd.C_below HA3.out hB)
  have HB6 := Aside0.mk (below_step HB3.out hB)
  clear h1 h2 h3 hB1 hB2 hB3 hB HA3 HB3
  go_wp2_with fail
  refine (match_any T A3 3 (pairS 1 2) A6 3 (pairS 2 3) w6 HA36.out (by decide) HA6.out (by decide) (pair_bd ⟨by decide, by decide⟩ ⟨by decide, by decide⟩) (pair_bd ⟨by decide, by decide⟩ ⟨by decide, by decide⟩) (HT.out.below HB6.out)).mono ?_
  rintro e w7 (⟨-, -, Ao, co, rfl, hR, hB7⟩ | ⟨hb, -⟩)
  rotate_left
  · rw [pair_c, pair_c] at hb; cases hb
  rw [pair_mat] at hR
  have HL := Aside0.mk (Kd.R_reads' hR).2.2
  have HB7 := Aside0.mk (below_step HB6.out hB7)
  clear hR hB7 HA6 HA36 HB6
  go_wp2_with fail
  refine (mbox_any 1 w7).mono ?_
  rintro e w8 ⟨A1, c1, A2, c2, rfl, h1, hB1⟩
  go_wp2_with fail
  refine (mbox_any 2 w8).mono ?_
  rintro e w9 ⟨B1, d1, B2, d2, rfl, h2, hB2⟩
  go_wp2_with fail
  refine (mpair_any 1 2 _ _ _ _ _ _ _ _ w9 (h1.below hB2) h2).mono ?_
  rintro e w10 ⟨A10, rfl, h3, hB3⟩
  have hB := below_step (below_step hB1 hB2) hB3
  have HL10 := Aside0.mk (Kd.C_below HL.out hB)
  have HA10 := Aside0.mk h3
  have HB10 := Aside0.mk (below_step HB7.out hB)
  clear h1 h2 h3 hB1 hB2 hB3 hB HL HB7
  go_wp2_with fail
  refine (match_any T none 0 ⟨[], 0⟩ A10 3 (pairS 1 2) w10 (C_nil _ _) (by decide) HA10.out (by decide) none_bd (pair_bd ⟨by decide, by decide⟩ ⟨by decide, by decide⟩) (HT.out.below HB10.out)).mono ?_
  rintro e w11 (⟨hb, -⟩ | ⟨-, rfl, hB11⟩)
  · rw [empty_nc] at hb; cases hb
  have HL11 := Aside0.mk (Kd.C_below HL10.out hB11)
  have HB11 := Aside0.mk (below_step HB10.out hB11)
  clear hB11 HA10 HL10 HB10
  go_wp2_with (first
    | (go_at_call 13; refine (ints_any Ao co [1, 0, 2] (some ⟨w11.heap.size, 0, none⟩) 3 [1, 0, 2] _ (Kd.C_alloc HL11.out _) (C_ints w11 _ _ rfl [1, 0, 2] (by simp) rfl)).mono ?_; rintro e w12 ⟨rfl, hB12⟩; have HB12 := Aside0.mk (below_step (below_alloc HB11.out _) hB12); clear hB12))
  go_ret
  exact ⟨rfl, HB12.out⟩
end Go.Proofs.YtggldnbhmebcpaaDoor.L
end
section
namespace Go.Proofs.YtggldnbhmebcpaaDoor.L
open Go.RowKit Go.ChangeShapes Go.WideShapes Go.Proofs.YtggldnbhmebcpaaDoorW.PrintWords Go.Proofs.YtggldnbhmebcpaaDoorW.PrintLast Go.Proofs.YtggldnbhmebcpaaDoorW.PrintMore
attribute [local go_sem] max2_int min2_int max_two min_two max_three min_three max_four min_four
theorem canon_ahead {s : Scene} (h : Right s) : AheadN (canonL s) := fun _ hp _ hk => isC_ahead (canon_right h) (canon_isC h) hp hk
theorem canon_len {s : Scene} (h : Right s) : (canonL s).length = s.nodes.length := (canon_iso h).len
end Go.Proofs.YtggldnbhmebcpaaDoor.L
end
section
namespace Go.Proofs.YtggldnbhmebcpaaDoor.L
open Go.RowKit Go.ChangeShapes Go.WideShapes Go.Proofs.YtggldnbhmebcpaaDoorW.PrintWords Go.Proofs.YtggldnbhmebcpaaDoorW.PrintLast Go.Proofs.YtggldnbhmebcpaaDoorW.PrintMore
attribute [local go_sem] max2_int min2_int max_two min_two max_three min_three max_four min_four
def SameT (s t : Scene) : Prop := Like (canonL s) (canonL t) (s.nodes.length - 1) (t.nodes.length - 1)
section
variable {T : Lib.PrintTabs} {s t : Scene}
theorem right_pos (h : Right s) : 0 < s.nodes.length := by have := h.r0; have := h.r1; omega
theorem same_lt (h : Right s) : s.nodes.length - 1 < (canonL s).length := by
  have := right_pos h
  rw [canon_len h]; omega
theorem SameT.refl (h : Right s) : SameT s s := like_refl (canon_ahead h) (same_lt h)
theorem SameT.symm (hs : Right s) (ht : Right t) (h : SameT s t) : SameT t s := like_symm (canon_ahead hs) (canon_ahead ht) (same_lt hs) (same_lt ht) h
theorem SameT.trans {u : Scene} (hs : Right s) (ht : Right t) (hu : Right u) (h : SameT s t) (g : SameT t u) : SameT s u := like_trans (canon_ahead hs) (canon_ahead ht) (canon_ahead hu) (same_lt hs) (same_lt ht) (same_lt hu) h g
end
end Go.Proofs.YtggldnbhmebcpaaDoor.L
end
section
namespace Go.Proofs.YtggldnbhmebcpaaDoor.L
open Go.RowKit Go.ChangeShapes Go.WideShapes Go.Proofs.YtggldnbhmebcpaaDoorW.PrintWords Go.Proofs.YtggldnbhmebcpaaDoorW.PrintLast Go.Proofs.YtggldnbhmebcpaaDoorW.PrintMore
attribute [local go_sem] max2_int min2_int max_two min_two max_three min_three max_four min_four
structure FitN (n : Node) : Prop where
  ints : n.ints.length ≤ 100
  texts : n.texts.length ≤ 100
  kids : n.kids.length ≤ 300
  size : ∀ x ∈ n.texts, x.size ≤ 500
  nb : NBd n
theorem FitN.small {n : Node} (h : FitN n) : Small n := ⟨by have := h.ints; omega, by have := h.texts; omega, by have := h.kids; omega⟩
def Fit (ns : List Node) : Prop := ns.length ≤ 61 ∧ ∀ i : Nat, i < ns.length → FitN (nd ns i)
theorem Fit.rows {ns : List Node} (h : Fit ns) : L.rows ns ≤ 130000 := by
  have h1 := rows_leB (ns := ns) (b := 300) (fun i hi => (h.2 i hi).kids)
  have h2 : ns.length * (300 + 1) ≤ 61 * 301 := Nat.mul_le_mul (by have := h.1; omega) (by omega)
  omega
theorem Fit.small {ns : List Node} (h : Fit ns) : ∀ i : Nat, i < ns.length → Small (nd ns i) := fun i hi => (h.2 i hi).small
theorem fit_of_great {s : Scene} (hg : greatS s = false) (hN : ∀ i : Nat, i < s.nodes.length → NBd (nd s.nodes i)) : Fit s.nodes := by
  have h1 := of_decide_eq_false hg
  refine ⟨Nat.le_succ_of_le (Nat.le_of_not_lt fun e => h1 (.inl e)), fun i hi => ?_⟩
  have h3 := of_decide_eq_false (Bool.eq_false_iff.2 (fun e => h1 (.inr (.inr ⟨i, hi, e⟩))) : greatN (nd s.nodes i) = false)
  refine ⟨Nat.le_of_not_lt fun e => h3 (.inl e), Nat.le_of_not_lt fun e => h3 (.inr (.inl e)), Nat.le_of_not_lt fun e => h3 (.inr (.inr (.inl e))), fun x hx => ?_, hN i hi⟩
  obtain ⟨j, hj, rfl⟩ := List.getElem_of_mem hx
  refine Nat.le_of_not_lt fun e => h3 (.inr (.inr (.inr ⟨j, hj, ?_⟩)))
  unfold str
  rw [getD_eq _ hj]
  exact e
end Go.Proofs.YtggldnbhmebcpaaDoor.L
end
section
namespace Go.Proofs.YtggldnbhmebcpaaDoor.L
open Go.RowKit Go.ChangeShapes Go.WideShapes Go.Proofs.YtggldnbhmebcpaaDoorW.PrintWords Go.Proofs.YtggldnbhmebcpaaDoorW.PrintLast Go.Proofs.YtggldnbhmebcpaaDoorW.PrintMore
attribute [local go_sem] max2_int min2_int max_two min_two max_three min_three max_four min_four
def great21 (a b : Scene) : Bool := greatS a || (greatS b || (decide (40 < a.nodes.length) || decide (40 < b.nodes.length)))
theorem great21_no {a b : Scene} (h : great21 a b = false) : greatS a = false ∧ greatS b = false ∧ a.nodes.length ≤ 40 ∧ b.nodes.length ≤ 40 := by
  unfold great21 at h
  simp only [Bool.or_eq_false_iff, decide_eq_false_iff_not] at h
  exact ⟨h.1, h.2.1, by omega, by omega⟩
theorem Fit.bd {s : Scene} (h : Fit s.nodes) : ScBd s := ⟨fun i hi => ⟨(h.2 i hi).small, fun x hx => Nat.le_trans ((h.2 i hi).size x hx) (by omega), (h.2 i hi).nb⟩, Nat.le_trans h.rows (by omega)⟩
set_option maxRecDepth 100000 in
set_option maxHeartbeats 4000000 in
theorem great21_any (A : Option Addr) (c : Nat) (a : Scene) (B : Option Addr) (d : Nat) (b : Scene) (w : World) (h : kNode.C w A a.nodes.length a.nodes) (h' : kNode.C w B b.nodes.length b.nodes) :
    Calls Tryd.prog 9 #[.agg #[.slice A a.nodes.length c, .int .i64 a.root], .agg #[.slice B b.nodes.length d, .int .i64 b.root]] w fun e w' => e = .returned (.bool (great21 a b)) ∧ Below w.heap.size w w' := by
  have HR := Aside0.mk h
  have HR' := Aside0.mk h'
  have hA0 := below_alloc (Below.refl w.heap.size w) (.cells #[.slice A a.nodes.length c, .int .i64 a.root] 24)
  have hA1 := below_alloc (Below.refl (w.alloc (.cells #[.slice A a.nodes.length c, .int .i64 a.root] 24)).heap.size (w.alloc (.cells #[.slice A a.nodes.length c, .int .i64 a.root] 24))) (.cells #[.slice B b.nodes.length d, .int .i64 b.root] 24)
  have HB := Aside0.mk (below_step hA0 hA1)
  have k0 := pw_cell_below hA1 (box_cell w _ rfl #[.slice A a.nodes.length c, .int .i64 a.root] 24 0 (.slice A a.nodes.length c) rfl)
  have k1 := pw_cell_below hA1 (box_cell w _ rfl #[.slice A a.nodes.length c, .int .i64 a.root] 24 1 (.int .i64 a.root) rfl)
  have q0 := box_cell (w.alloc (.cells #[.slice A a.nodes.length c, .int .i64 a.root] 24)) (w.heap.size + 1) (by simp) #[.slice B b.nodes.length d, .int .i64 b.root] 24 0 (.slice B b.nodes.length d) rfl
  have q1 := box_cell (w.alloc (.cells #[.slice A a.nodes.length c, .int .i64 a.root] 24)) (w.heap.size + 1) (by simp) #[.slice B b.nodes.length d, .int .i64 b.root] 24 1 (.int .i64 b.root) rfl
  have hu := Tryd.underlying24
  have HE := Aside0.mk (show great21 a b = (greatS a || (greatS b || (decide (40 < a.nodes.length) || decide (40 < b.nodes.length)))) from rfl)
  clear h h' hA0 hA1
  go_enter Tryd.func9, Tryd.ntmps9
  go_wp2_with fail
  generalize (w.alloc (.cells #[.slice A a.nodes.length c, .int .i64 a.root] 24)).alloc (.cells #[.slice B b.nodes.length d, .int .i64 b.root] 24) = w4 at HB k0 k1 q0 q1 ⊢
  refine (greatS_any A c a w4 (Kd.C_below HR.out HB.out)).mono ?_
  rintro e w5 ⟨rfl, hB5⟩
  replace k0 := pw_cell_below hB5 k0
  replace q0 := pw_cell_below hB5 q0
  replace q1 := pw_cell_below hB5 q1
  have HB5 := Aside0.mk (below_step HB.out hB5)
  clear hB5 HB
  cases hga : greatS a with
  | true =>
    rw [hga] at HE
    clear hga
    go_wp2
    go_ret
    exact ⟨by rw [HE.out]; rfl, HB5.out⟩
  | false =>
    rw [hga] at HE
    clear hga
    go_wp2_with fail
    refine (greatS_any B d b w5 (Kd.C_below HR'.out HB5.out)).mono ?_
    rintro e w6 ⟨rfl, hB6⟩
    replace k0 := pw_cell_below hB6 k0
    replace q0 := pw_cell_below hB6 q0
    have HB6 := Aside0.mk (below_step HB5.out hB6)
    clear hB6 HB5
    cases hgb : greatS b with
    | true =>
      rw [hgb] at HE
      clear hgb
      go_wp2
      go_ret
      exact ⟨by rw [HE.out]; rfl, HB6.out⟩
    | false =>
      rw [hgb] at HE
      clear hgb
      by_cases h1 : 40 < a.nodes.length
      · have d1 : decide (40 < (a.nodes.length : Int)) = true := decide_eq_true (by omega)
        rw [decide_eq_true h1] at HE
        go_wp2
        go_ret
        exact ⟨by rw [HE.out]; rfl, HB6.out⟩
      · have d1 : decide (40 < (a.nodes.length : Int)) = false := decide_eq_false (by omega)
        rw [decide_eq_false h1] at HE
        by_cases h2 : 40 < b.nodes.length
        · have d2 : decide (40 < (b.nodes.length : Int)) = true := decide_eq_true (by omega)
          rw [decide_eq_true h2] at HE
          go_wp2
          go_ret
          exact ⟨by rw [HE.out]; rfl, HB6.out⟩
        · have d2 : decide (40 < (b.nodes.length : Int)) = false := decide_eq_false (by omega)
          rw [decide_eq_false h2] at HE
          go_wp2
          go_ret
          exact ⟨by rw [HE.out]; rfl, HB6.out⟩
end Go.Proofs.YtggldnbhmebcpaaDoor.L
end
section
namespace Go.Proofs.YtggldnbhmebcpaaDoor.L
open Go.RowKit Go.ChangeShapes Go.WideShapes Go.Proofs.YtggldnbhmebcpaaDoorW.PrintWords Go.Proofs.YtggldnbhmebcpaaDoorW.PrintLast Go.Proofs.YtggldnbhmebcpaaDoorW.PrintMore
attribute [local go_sem] max2_int min2_int max_two min_two max_three min_three max_four min_four
theorem wrap64_in (n : Int) (h : -9223372036854775808 ≤ n ∧ n ≤ 9223372036854775807) : wrap64 n = n := by unfold wrap64; omega
end Go.Proofs.YtggldnbhmebcpaaDoor.L
end
section
namespace Go.Proofs.YtggldnbhmebcpaaDoor.L
open Go.RowKit Go.ChangeShapes Go.WideShapes Go.Proofs.YtggldnbhmebcpaaDoorW.PrintWords Go.Proofs.YtggldnbhmebcpaaDoorW.PrintLast Go.Proofs.YtggldnbhmebcpaaDoorW.PrintMore
attribute [local go_sem] max2_int min2_int max_two min_two max_three min_three max_four min_four
theorem R_apart {α β : Type} {d : Kd α} {d' : Kd β} {e e' : Nat} {w : World} {b b' : Nat} {ok ok' : Nat → Prop} {v v' : Value} {xs : List α} {ys : List β} (h : d.R e w b ok v xs) (h' : d'.R e' w b' ok' v' ys) (hT : e ≠ e') (k : Nat) (hk : some k = v.ownBlock) : some k ≠ v'.ownBlock := fun hk' => by
  obtain ⟨c1, e1⟩ := Kd.R_typed h k hk.symm
  obtain ⟨c2, e2⟩ := Kd.R_typed h' k hk'.symm
  rw [e1] at e2
  injection e2 with e2
  injection e2 with _ e2
  exact hT e2
structure CnRel (w1 : World) (root : Int) (xs : List Node) (v4 : Value) (W : World) : Prop where
  below : Below w1.heap.size w1 W
  out : W.heap[w1.heap.size]? = some (.cells #[v4, .int .i64 root] 24 (0, 0))
  row : kNode.R 46 W w1.heap.size (fun _ => True) v4 xs
theorem CnRel.start (w1 : World) (root : Int) : CnRel w1 root [] (.slice none 0 0) (w1.alloc (.cells #[.slice none 0 0, .int .i64 root] 24)) :=
  ⟨below_alloc (Below.refl _ _) _, by simpa using heap_alloc_new w1 _, Kd.R_nil _ _ _ _ _⟩
theorem CnRel.later {w1 : World} {root : Int} {xs : List Node} {v4 : Value} {W W1 : World} (h : CnRel w1 root xs v4 W) (hb : Below W.heap.size W W1) : CnRel w1 root xs v4 W1 :=
  ⟨below_step h.below hb, (hb.block _ (blk_lt h.out)).trans h.out, Kd.R_below h.row hb⟩
theorem CnRel.drewN {w1 : World} {root : Int} {xs : List Node} {v4 : Value} {W : World} (h : CnRel w1 root xs v4 W) (m : Nat) : CnRel w1 root xs v4 (W.drewN m) := h.later (pw_below_drewN (Below.refl _ _) m)
theorem CnRel.put {w1 : World} {root : Int} {xs : List Node} {v4 v5 : Value} {ys : List Node} {W w2 : World} (h : CnRel w1 root xs v4 W) (hR : kNode.R 46 w2 w1.heap.size (fun _ => True) v5 ys) (hB : Below w1.heap.size w1 w2) (hg : W.grownBy w2 v4.ownBlock) :
    w2.heap[w1.heap.size]? = some (.cells #[v4, .int .i64 root] 24 (0, 0)) ∧ CnRel w1 root ys v5 (w2.setCell ⟨w1.heap.size, 0, none⟩ v5) := by
  have hb := blk_grown h.out hg (Kd.R_ne h.row h.out (by decide))
  refine ⟨hb, below_set hB (Nat.le_refl _), ?_, R_type hR hb (by decide) v5 0⟩
  have := blk_set hb 0 v5
  simpa using this
theorem node_off {W : World} {base : Nat} {n : Node} {v1 v2 v3 v4 : Value} {xs : List Node} (h1 : (Kd.int .i64).R 2 W base (fun _ => True) v1 n.ints) (h2 : Kd.string.R 9 W base (fun _ => True) v2 n.texts) (h3 : (Kd.int .i64).R 3 W base (fun _ => True) v3 n.kids)
    (h : kNode.R 46 W base (fun _ => True) v4 xs) : kNode.M W base (fun k => some k ≠ v4.ownBlock) n [.int .i64 n.kind, v1, v2, v3] :=
  kNode_mkM (Kd.R_mono (Kd.R_tight rfl h1) (fun k hk => R_apart h1 h (by decide) k hk)) (Kd.R_mono (Kd.R_tight rfl h2) (fun k hk => R_apart h2 h (by decide) k hk)) (Kd.R_mono (Kd.R_tight rfl h3) (fun k hk => R_apart h3 h (by decide) k hk))
end Go.Proofs.YtggldnbhmebcpaaDoor.L
end
section
namespace Go.Proofs.YtggldnbhmebcpaaDoor.L
open Go.RowKit Go.ChangeShapes Go.WideShapes Go.Proofs.YtggldnbhmebcpaaDoorW.PrintWords Go.Proofs.YtggldnbhmebcpaaDoorW.PrintLast Go.Proofs.YtggldnbhmebcpaaDoorW.PrintMore
attribute [local go_sem] max2_int min2_int max_two min_two max_three min_three max_four min_four
structure PF (w : World) (g r : Nat) (cs : Array Value) (W : World) (v1 v2 v3 : Value) (l1 : List Int) (l2 : List ByteArray) (l3 : List Int) : Prop where
  below : Below w.heap.size w W
  box : W.heap[g]? = some (.cells cs 46 (0, 0))
  res : W.heap[r]? = some (.cells #[.int .i64 0, .slice none 0 0, .slice none 0 0, .slice none 0 0] 46 (0, 0))
  r1 : (Kd.int .i64).R 2 W w.heap.size (fun _ => True) v1 l1
  r2 : Kd.string.R 9 W w.heap.size (fun _ => True) v2 l2
  r3 : (Kd.int .i64).R 3 W w.heap.size (fun _ => True) v3 l3
section
variable {w : World} {g r : Nat} {cs : Array Value} {W W1 : World} {v1 v2 v3 : Value} {l1 : List Int} {l2 : List ByteArray} {l3 : List Int}
theorem PF.later (h : PF w g r cs W v1 v2 v3 l1 l2 l3) (hb : Below W.heap.size W W1) : PF w g r cs W1 v1 v2 v3 l1 l2 l3 :=
  ⟨below_step h.below hb, (hb.block _ (blk_lt h.box)).trans h.box, (hb.block _ (blk_lt h.res)).trans h.res, Kd.R_below h.r1 hb, Kd.R_below h.r2 hb, Kd.R_below h.r3 hb⟩
theorem PF.alloc (h : PF w g r cs W v1 v2 v3 l1 l2 l3) (o : Obj) : PF w g r cs (W.alloc o) v1 v2 v3 l1 l2 l3 := h.later (below_alloc (Below.refl _ _) o)
theorem PF.drew (h : PF w g r cs W v1 v2 v3 l1 l2 l3) : PF w g r cs W.drew v1 v2 v3 l1 l2 l3 := h.later (below_drew (Below.refl _ _))
theorem PF.lives (h : PF w g r cs W v1 v2 v3 l1 l2 l3) : Lives 4 r W := ⟨_, rfl, _, h.res⟩
theorem PF.cell (h : PF w g r cs W v1 v2 v3 l1 l2 l3) (i : Nat) {v : Value} (hv : cs[i]? = some v) : W.cell? ⟨g, i, none⟩ = some v := (blk_cell h.box i).trans hv
theorem PF.lit1 (h : PF w g r cs W v1 v2 v3 l1 l2 l3) (b : Nat) (hb : b = W.heap.size) : PF w g r cs (W.alloc (.cells #[] 2)) (.slice (some ⟨b, 0, none⟩) 0 0) v2 v3 [] l2 l3 := by
  subst hb
  have h' := h.alloc (.cells #[] 2)
  exact { h' with r1 := R_empty _ _ _ _ h.below.size }
theorem PF.lit1a (h : PF w g r cs W v1 v2 v3 l1 l2 l3) : PF w g r cs (W.alloc (.cells #[] 2)) (.slice (some ⟨W.heap.size, 0, none⟩) 0 0) v2 v3 [] l2 l3 := h.lit1 _ rfl
theorem PF.lit1b {o : Obj} (h : PF w g r cs (W.alloc o) v1 v2 v3 l1 l2 l3) : PF w g r cs ((W.alloc o).alloc (.cells #[] 2)) (.slice (some ⟨W.heap.size + 1, 0, none⟩) 0 0) v2 v3 [] l2 l3 := h.lit1 _ (by simp)
theorem PF.lit1c {o o' : Obj} (h : PF w g r cs ((W.alloc o).alloc o') v1 v2 v3 l1 l2 l3) : PF w g r cs (((W.alloc o).alloc o').alloc (.cells #[] 2)) (.slice (some ⟨W.heap.size + 1 + 1, 0, none⟩) 0 0) v2 v3 [] l2 l3 := h.lit1 _ (by simp)
theorem PF.app1 {b n c : Nat} {u : Value} {m : List Int} (h : PF w g r cs W (.slice (some ⟨b, 0, none⟩) n c) v2 v3 l1 l2 l3) (hR : (Kd.int .i64).R 2 W1 w.heap.size (fun _ => True) u m) (hB : Below w.heap.size w W1) (hg : W.grownBy W1 (Value.slice (some ⟨b, 0, none⟩) n c).ownBlock) : PF w g r cs W1 u v2 v3 m l2 l3 := by
  obtain ⟨cells, hc⟩ := Kd.R_typed h.r1 b rfl
  have hg' : W.grownBy W1 (some b) := hg
  refine ⟨hB, blk_grown h.box hg' (fun e => ?_), blk_grown h.res hg' (fun e => ?_), hR, Kd.R_grown1 h.r2 rfl hg (Kd.R_ne h.r2 hc (by decide)), Kd.R_grown1 h.r3 rfl hg (Kd.R_ne h.r3 hc (by decide))⟩
  · injection e with e
    have h1 := h.box
    rw [e, hc] at h1
    injection h1 with h1
    injection h1 with _ h1
    exact absurd h1 (by decide)
  · injection e with e
    have h1 := h.res
    rw [e, hc] at h1
    injection h1 with h1
    injection h1 with _ h1
    exact absurd h1 (by decide)
theorem PF.lit2 (h : PF w g r cs W v1 v2 v3 l1 l2 l3) (b : Nat) (hb : b = W.heap.size) : PF w g r cs (W.alloc (.cells #[] 9)) v1 (.slice (some ⟨b, 0, none⟩) 0 0) v3 l1 [] l3 := by
  subst hb
  have h' := h.alloc (.cells #[] 9)
  exact { h' with r2 := R_empty _ _ _ _ h.below.size }
theorem PF.lit2a (h : PF w g r cs W v1 v2 v3 l1 l2 l3) : PF w g r cs (W.alloc (.cells #[] 9)) v1 (.slice (some ⟨W.heap.size, 0, none⟩) 0 0) v3 l1 [] l3 := h.lit2 _ rfl
theorem PF.lit2b {o : Obj} (h : PF w g r cs (W.alloc o) v1 v2 v3 l1 l2 l3) : PF w g r cs ((W.alloc o).alloc (.cells #[] 9)) v1 (.slice (some ⟨W.heap.size + 1, 0, none⟩) 0 0) v3 l1 [] l3 := h.lit2 _ (by simp)
theorem PF.lit2c {o o' : Obj} (h : PF w g r cs ((W.alloc o).alloc o') v1 v2 v3 l1 l2 l3) : PF w g r cs (((W.alloc o).alloc o').alloc (.cells #[] 9)) v1 (.slice (some ⟨W.heap.size + 1 + 1, 0, none⟩) 0 0) v3 l1 [] l3 := h.lit2 _ (by simp)
theorem PF.app2 {b n c : Nat} {u : Value} {m : List ByteArray} (h : PF w g r cs W v1 (.slice (some ⟨b, 0, none⟩) n c) v3 l1 l2 l3) (hR : Kd.string.R 9 W1 w.heap.size (fun _ => True) u m) (hB : Below w.heap.size w W1) (hg : W.grownBy W1 (Value.slice (some ⟨b, 0, none⟩) n c).ownBlock) : PF w g r cs W1 v1 u v3 l1 m l3 := by
  obtain ⟨cells, hc⟩ := Kd.R_typed h.r2 b rfl
  have hg' : W.grownBy W1 (some b) := hg
  refine ⟨hB, blk_grown h.box hg' (fun e => ?_), blk_grown h.res hg' (fun e => ?_), Kd.R_grown1 h.r1 rfl hg (Kd.R_ne h.r1 hc (by decide)), hR, Kd.R_grown1 h.r3 rfl hg (Kd.R_ne h.r3 hc (by decide))⟩
  · injection e with e
    have h1 := h.box
    rw [e, hc] at h1
    injection h1 with h1
    injection h1 with _ h1
    exact absurd h1 (by decide)
  · injection e with e
    have h1 := h.res
    rw [e, hc] at h1
    injection h1 with h1
    injection h1 with _ h1
    exact absurd h1 (by decide)
theorem PF.lit3 (h : PF w g r cs W v1 v2 v3 l1 l2 l3) (b : Nat) (hb : b = W.heap.size) : PF w g r cs (W.alloc (.cells #[] 3)) v1 v2 (.slice (some ⟨b, 0, none⟩) 0 0) l1 l2 [] := by
  subst hb
  have h' := h.alloc (.cells #[] 3)
  exact { h' with r3 := R_empty _ _ _ _ h.below.size }
theorem PF.lit3a (h : PF w g r cs W v1 v2 v3 l1 l2 l3) : PF w g r cs (W.alloc (.cells #[] 3)) v1 v2 (.slice (some ⟨W.heap.size, 0, none⟩) 0 0) l1 l2 [] := h.lit3 _ rfl
theorem PF.lit3b {o : Obj} (h : PF w g r cs (W.alloc o) v1 v2 v3 l1 l2 l3) : PF w g r cs ((W.alloc o).alloc (.cells #[] 3)) v1 v2 (.slice (some ⟨W.heap.size + 1, 0, none⟩) 0 0) l1 l2 [] := h.lit3 _ (by simp)
theorem PF.lit3c {o o' : Obj} (h : PF w g r cs ((W.alloc o).alloc o') v1 v2 v3 l1 l2 l3) : PF w g r cs (((W.alloc o).alloc o').alloc (.cells #[] 3)) v1 v2 (.slice (some ⟨W.heap.size + 1 + 1, 0, none⟩) 0 0) l1 l2 [] := h.lit3 _ (by simp)
theorem PF.app3 {b n c : Nat} {u : Value} {m : List Int} (h : PF w g r cs W v1 v2 (.slice (some ⟨b, 0, none⟩) n c) l1 l2 l3) (hR : (Kd.int .i64).R 3 W1 w.heap.size (fun _ => True) u m) (hB : Below w.heap.size w W1) (hg : W.grownBy W1 (Value.slice (some ⟨b, 0, none⟩) n c).ownBlock) : PF w g r cs W1 v1 v2 u l1 l2 m := by
  obtain ⟨cells, hc⟩ := Kd.R_typed h.r3 b rfl
  have hg' : W.grownBy W1 (some b) := hg
  refine ⟨hB, blk_grown h.box hg' (fun e => ?_), blk_grown h.res hg' (fun e => ?_), Kd.R_grown1 h.r1 rfl hg (Kd.R_ne h.r1 hc (by decide)), Kd.R_grown1 h.r2 rfl hg (Kd.R_ne h.r2 hc (by decide)), hR⟩
  · injection e with e
    have h1 := h.box
    rw [e, hc] at h1
    injection h1 with h1
    injection h1 with _ h1
    exact absurd h1 (by decide)
  · injection e with e
    have h1 := h.res
    rw [e, hc] at h1
    injection h1 with h1
    injection h1 with _ h1
    exact absurd h1 (by decide)
theorem PF.step1 {ops : Array Oper} {o : Oper} {a : Act} {Q : Exit → Act → World → Prop} {Kc : Act → World → Prop} {b : Nat} {A : Option Addr} {c : Nat} {l : List Int} (s x : Operand) (h : PF w g r cs W (.slice (some ⟨b, 0, none⟩) 0 0) v2 v3 [] l2 l3) (hw : Region.wanted o (yielded ops a.tmps) = true)
    (ho : o.op = .call { callee := .builtin .append, args := #[s, x], argTypes := #[43, 43] }) (hs : a.eval s = .slice (some ⟨b, 0, none⟩) 0 0) (hx : a.eval x = .slice A l.length c) (hC : (Kd.int .i64).C w A l.length l) (hl : l.length ≤ 1000000)
    (hK : ∀ B d W1, PF w g r cs W1 (.slice B l.length d) v2 v3 l l2 l3 → Kc (a.put o.dst (.slice B l.length d)) W1) : if Region.wanted o (yielded ops a.tmps) = true then Oper.wp Tryd.prog o a W Kc Q else Kc (a.put o.dst undef) W := by
  refine Kd.R_append_rows_step (Kd.int .i64) (Rr := fun x cs => cs = [.int .i64 x]) (w0 := w) w.heap.size hw s x 43 2 (.int .i64 0) 8 ho Tryd.underlying43 info_i64 rfl (by decide) (by omega) _ [] l A l.length c (fun _ => True) (fun _ => False) hs hx h.r1 (Kd.C_below hC h.below) (fun _ _ h => h) (fun _ h => h.elim) (fun _ _ => trivial) h.below h.below.size (by simp; omega) ?_
  intro u W1 hR hB hg _
  obtain ⟨B, d, rfl⟩ := Kd.R_slice hR
  exact hK B d W1 (h.app1 hR hB hg)
theorem PF.step2 {ops : Array Oper} {o : Oper} {a : Act} {Q : Exit → Act → World → Prop} {Kc : Act → World → Prop} {b : Nat} {A : Option Addr} {c : Nat} {l : List ByteArray} (s x : Operand) (h : PF w g r cs W v1 (.slice (some ⟨b, 0, none⟩) 0 0) v3 l1 [] l3) (hw : Region.wanted o (yielded ops a.tmps) = true)
    (ho : o.op = .call { callee := .builtin .append, args := #[s, x], argTypes := #[44, 44] }) (hs : a.eval s = .slice (some ⟨b, 0, none⟩) 0 0) (hx : a.eval x = .slice A l.length c) (hC : Kd.string.C w A l.length l) (hl : l.length ≤ 1000000)
    (hK : ∀ B d W1, PF w g r cs W1 v1 (.slice B l.length d) v3 l1 l l3 → Kc (a.put o.dst (.slice B l.length d)) W1) : if Region.wanted o (yielded ops a.tmps) = true then Oper.wp Tryd.prog o a W Kc Q else Kc (a.put o.dst undef) W := by
  refine Kd.R_append_rows_step Kd.string (Rr := fun x cs => cs = [.string x]) (w0 := w) w.heap.size hw s x 44 9 (.string ByteArray.empty) 16 ho Tryd.underlying44 info_str rfl (by decide) (by omega) _ [] l A l.length c (fun _ => True) (fun _ => False) hs hx h.r2 (Kd.C_below hC h.below) (fun _ _ h => h) (fun _ h => h.elim) (fun _ _ => trivial) h.below h.below.size (by simp; omega) ?_
  intro u W1 hR hB hg _
  obtain ⟨B, d, rfl⟩ := Kd.R_slice hR
  exact hK B d W1 (h.app2 hR hB hg)
theorem PF.step3 {ops : Array Oper} {o : Oper} {a : Act} {Q : Exit → Act → World → Prop} {Kc : Act → World → Prop} {b : Nat} {A : Option Addr} {c : Nat} {l : List Int} (s x : Operand) (h : PF w g r cs W v1 v2 (.slice (some ⟨b, 0, none⟩) 0 0) l1 l2 []) (hw : Region.wanted o (yielded ops a.tmps) = true)
    (ho : o.op = .call { callee := .builtin .append, args := #[s, x], argTypes := #[27, 27] }) (hs : a.eval s = .slice (some ⟨b, 0, none⟩) 0 0) (hx : a.eval x = .slice A l.length c) (hC : (Kd.int .i64).C w A l.length l) (hl : l.length ≤ 1000000)
    (hK : ∀ B d W1, PF w g r cs W1 v1 v2 (.slice B l.length d) l1 l2 l → Kc (a.put o.dst (.slice B l.length d)) W1) : if Region.wanted o (yielded ops a.tmps) = true then Oper.wp Tryd.prog o a W Kc Q else Kc (a.put o.dst undef) W := by
  refine Kd.R_append_rows_step (Kd.int .i64) (Rr := fun x cs => cs = [.int .i64 x]) (w0 := w) w.heap.size hw s x 27 3 (.int .i64 0) 8 ho Tryd.underlying27 info_int rfl (by decide) (by omega) _ [] l A l.length c (fun _ => True) (fun _ => False) hs hx h.r3 (Kd.C_below hC h.below) (fun _ _ h => h) (fun _ h => h.elim) (fun _ _ => trivial) h.below h.below.size (by simp; omega) ?_
  intro u W1 hR hB hg _
  obtain ⟨B, d, rfl⟩ := Kd.R_slice hR
  exact hK B d W1 (h.app3 hR hB hg)
theorem PF.done {n : Node} (h : PF w g r cs W v1 v2 v3 n.ints n.texts n.kids) (hr : w.heap.size ≤ r) :
    kNode.M ((((W.setCell ⟨r, 0, none⟩ (.int .i64 n.kind)).setCell ⟨r, 1, none⟩ v1).setCell ⟨r, 2, none⟩ v2).setCell ⟨r, 3, none⟩ v3) w.heap.size (fun _ => True) n [.int .i64 n.kind, v1, v2, v3] ∧
    Below w.heap.size w ((((W.setCell ⟨r, 0, none⟩ (.int .i64 n.kind)).setCell ⟨r, 1, none⟩ v1).setCell ⟨r, 2, none⟩ v2).setCell ⟨r, 3, none⟩ v3) := by
  have hb0 := h.res
  have hb1 := blk_set hb0 0 (.int .i64 n.kind)
  have hb2 := blk_set hb1 1 v1
  have hb3 := blk_set hb2 2 v2
  refine ⟨kNode_mkM ?_ ?_ ?_, below_set4 h.below hr⟩
  · exact Kd.R_set (Kd.R_set (Kd.R_set (Kd.R_set h.r1 hb0 (by decide) _ _) hb1 (by decide) _ _) hb2 (by decide) _ _) hb3 (by decide) _ _
  · exact Kd.R_set (Kd.R_set (Kd.R_set (Kd.R_set h.r2 hb0 (by decide) _ _) hb1 (by decide) _ _) hb2 (by decide) _ _) hb3 (by decide) _ _
  · exact Kd.R_set (Kd.R_set (Kd.R_set (Kd.R_set h.r3 hb0 (by decide) _ _) hb1 (by decide) _ _) hb2 (by decide) _ _) hb3 (by decide) _ _
end
set_option maxRecDepth 100000 in
set_option maxHeartbeats 4000000 in
theorem rcopy_any (n : Node) (A1 : Option Addr) (c1 : Nat) (A2 : Option Addr) (c2 : Nat) (A3 : Option Addr) (c3 : Nat) (w : World) (h : NodeC w n A1 c1 A2 c2 A3 c3) (hs : Small n) :
    Calls Tryd.prog 27 #[.agg #[.int .i64 n.kind, .slice A1 n.ints.length c1, .slice A2 n.texts.length c2, .slice A3 n.kids.length c3]] w (CopyPost n w) := by
  have HN := Aside0.mk h
  have HS := Aside0.mk hs
  have HP : Aside0 (PF w w.heap.size (w.heap.size + 1) #[.int .i64 n.kind, .slice A1 n.ints.length c1, .slice A2 n.texts.length c2, .slice A3 n.kids.length c3] ((w.alloc (.cells #[.int .i64 n.kind, .slice A1 n.ints.length c1, .slice A2 n.texts.length c2, .slice A3 n.kids.length c3] 46)).alloc (.cells #[.int .i64 0, .slice none 0 0, .slice none 0 0, .slice none 0 0] 46)) (.slice none 0 0) (.slice none 0 0) (.slice none 0 0) [] [] []) := ⟨by
    have b1 := below_alloc (Below.refl w.heap.size w) (.cells #[.int .i64 n.kind, .slice A1 n.ints.length c1, .slice A2 n.texts.length c2, .slice A3 n.kids.length c3] 46)
    have n1 := heap_alloc_new w (.cells #[.int .i64 n.kind, .slice A1 n.ints.length c1, .slice A2 n.texts.length c2, .slice A3 n.kids.length c3] 46)
    generalize hw1 : w.alloc (.cells #[.int .i64 n.kind, .slice A1 n.ints.length c1, .slice A2 n.texts.length c2, .slice A3 n.kids.length c3] 46) = W1 at b1 n1 ⊢
    have s1 : W1.heap.size = w.heap.size + 1 := by rw [← hw1]; simp
    have b2 := below_alloc (Below.refl W1.heap.size W1) (.cells #[.int .i64 0, .slice none 0 0, .slice none 0 0, .slice none 0 0] 46)
    have n2 := heap_alloc_new W1 (.cells #[.int .i64 0, .slice none 0 0, .slice none 0 0, .slice none 0 0] 46)
    rw [s1] at n2
    exact ⟨below_step b1 b2, (b2.block _ (by omega)).trans n1, n2, Kd.R_nil _ _ _ _ _, Kd.R_nil _ _ _ _ _, Kd.R_nil _ _ _ _ _⟩⟩
  have hu := Tryd.underlying46
  clear h hs
  have hL0 := fun (W : World) (h : Lives 4 (w.heap.size + 1) W) => h.at 0 (by omega)
  have hL1 := fun (W : World) (h : Lives 4 (w.heap.size + 1) W) => h.at 1 (by omega)
  have hL2 := fun (W : World) (h : Lives 4 (w.heap.size + 1) W) => h.at 2 (by omega)
  have hL3 := fun (W : World) (h : Lives 4 (w.heap.size + 1) W) => h.at 3 (by omega)
  go_enter Tryd.func27, Tryd.ntmps27
  go_wp2_with fail
  generalize (w.alloc (.cells #[.int .i64 n.kind, .slice A1 n.ints.length c1, .slice A2 n.texts.length c2, .slice A3 n.kids.length c3] 46)).alloc (.cells #[.int .i64 0, .slice none 0 0, .slice none 0 0, .slice none 0 0] 46) = W0 at HP ⊢
  go_region_held3 (fun W => W.cell? ⟨w.heap.size, 0, none⟩ = some (.int .i64 n.kind) ∧ W.cell? ⟨w.heap.size, 1, none⟩ = some (.slice A1 n.ints.length c1) ∧ W.cell? ⟨w.heap.size, 2, none⟩ = some (.slice A2 n.texts.length c2) ∧ W.cell? ⟨w.heap.size, 3, none⟩ = some (.slice A3 n.kids.length c3) ∧ Lives 4 (w.heap.size + 1) W)
    (first
      | (go_split_ands
         refine ⟨?_, ?_, ?_, ?_, ?_⟩
         all_goals first
           | with_reducible exact HP.out.cell _ rfl
           | with_reducible exact HP.out.lives
           | with_reducible exact HP.out.drew.cell _ rfl
           | with_reducible exact HP.out.drew.lives
           | with_reducible exact (HP.out.alloc _).cell _ rfl
           | with_reducible exact (HP.out.alloc _).lives
           | with_reducible exact (HP.out.alloc _).drew.cell _ rfl
           | with_reducible exact (HP.out.alloc _).drew.lives
           | with_reducible exact ((HP.out.alloc _).alloc _).cell _ rfl
           | with_reducible exact ((HP.out.alloc _).alloc _).lives
           | with_reducible exact ((HP.out.alloc _).alloc _).drew.cell _ rfl
           | with_reducible exact ((HP.out.alloc _).alloc _).drew.lives
           | with_reducible exact (((HP.out.alloc _).alloc _).alloc _).cell _ rfl
           | with_reducible exact (((HP.out.alloc _).alloc _).alloc _).lives
           | with_reducible exact (((HP.out.alloc _).alloc _).alloc _).drew.cell _ rfl
           | with_reducible exact (((HP.out.alloc _).alloc _).alloc _).drew.lives
           | with_reducible exact far_set (far_set (far_set (far_set (by assumption) _ _ (by simp) _) _ _ (by simp) _) _ _ (by simp) _) _ _ (by simp) _
           | with_reducible exact Lives.set (Lives.set (Lives.set (Lives.set (by assumption) _ _) _ _) _ _) _ _
           | (simp; done)))
    (first
      | (refine' PF.step1 (.tmp 5) (.tmp 7) ?hP ?hw ?ho ?hs ?hx HN.out.i HS.out.1 ?_; (case hw => rfl); (case ho => rfl); (case hs => rfl); (case hx => rfl); (case hP => first | with_reducible exact HP.out | with_reducible exact (HP.out).drew | with_reducible exact HP.out.lit1a | with_reducible exact (HP.out.lit1a).drew | with_reducible exact HP.out.lit2a | with_reducible exact (HP.out.lit2a).drew | with_reducible exact HP.out.lit3a | with_reducible exact (HP.out.lit3a).drew | with_reducible exact HP.out.lit1a.lit2b | with_reducible exact (HP.out.lit1a.lit2b).drew | with_reducible exact HP.out.lit1a.lit3b | with_reducible exact (HP.out.lit1a.lit3b).drew | with_reducible exact HP.out.lit2a.lit1b | with_reducible exact (HP.out.lit2a.lit1b).drew | with_reducible exact HP.out.lit2a.lit3b | with_reducible exact (HP.out.lit2a.lit3b).drew | with_reducible exact HP.out.lit3a.lit1b | with_reducible exact (HP.out.lit3a.lit1b).drew | with_reducible exact HP.out.lit3a.lit2b | with_reducible exact (HP.out.lit3a.lit2b).drew | with_reducible exact HP.out.lit1a.lit2b.lit3c | with_reducible exact (HP.out.lit1a.lit2b.lit3c).drew | with_reducible exact HP.out.lit1a.lit3b.lit2c | with_reducible exact (HP.out.lit1a.lit3b.lit2c).drew | with_reducible exact HP.out.lit2a.lit1b.lit3c | with_reducible exact (HP.out.lit2a.lit1b.lit3c).drew | with_reducible exact HP.out.lit2a.lit3b.lit1c | with_reducible exact (HP.out.lit2a.lit3b.lit1c).drew | with_reducible exact HP.out.lit3a.lit1b.lit2c | with_reducible exact (HP.out.lit3a.lit1b.lit2c).drew | with_reducible exact HP.out.lit3a.lit2b.lit1c | with_reducible exact (HP.out.lit3a.lit2b.lit1c).drew); intro B1 d1 w1 hP; replace HP := Aside0.mk hP; clear hP)
      | (refine' PF.step2 (.tmp 9) (.tmp 11) ?hP ?hw ?ho ?hs ?hx HN.out.t HS.out.2.1 ?_; (case hw => rfl); (case ho => rfl); (case hs => rfl); (case hx => rfl); (case hP => first | with_reducible exact HP.out | with_reducible exact (HP.out).drew | with_reducible exact HP.out.lit1a | with_reducible exact (HP.out.lit1a).drew | with_reducible exact HP.out.lit2a | with_reducible exact (HP.out.lit2a).drew | with_reducible exact HP.out.lit3a | with_reducible exact (HP.out.lit3a).drew | with_reducible exact HP.out.lit1a.lit2b | with_reducible exact (HP.out.lit1a.lit2b).drew | with_reducible exact HP.out.lit1a.lit3b | with_reducible exact (HP.out.lit1a.lit3b).drew | with_reducible exact HP.out.lit2a.lit1b | with_reducible exact (HP.out.lit2a.lit1b).drew | with_reducible exact HP.out.lit2a.lit3b | with_reducible exact (HP.out.lit2a.lit3b).drew | with_reducible exact HP.out.lit3a.lit1b | with_reducible exact (HP.out.lit3a.lit1b).drew | with_reducible exact HP.out.lit3a.lit2b | with_reducible exact (HP.out.lit3a.lit2b).drew | with_reducible exact HP.out.lit1a.lit2b.lit3c | with_reducible exact (HP.out.lit1a.lit2b.lit3c).drew | with_reducible exact HP.out.lit1a.lit3b.lit2c | with_reducible exact (HP.out.lit1a.lit3b.lit2c).drew | with_reducible exact HP.out.lit2a.lit1b.lit3c | with_reducible exact (HP.out.lit2a.lit1b.lit3c).drew | with_reducible exact HP.out.lit2a.lit3b.lit1c | with_reducible exact (HP.out.lit2a.lit3b.lit1c).drew | with_reducible exact HP.out.lit3a.lit1b.lit2c | with_reducible exact (HP.out.lit3a.lit1b.lit2c).drew | with_reducible exact HP.out.lit3a.lit2b.lit1c | with_reducible exact (HP.out.lit3a.lit2b.lit1c).drew); intro B2 d2 w2 hP; replace HP := Aside0.mk hP; clear hP)
      | (refine' PF.step3 (.tmp 13) (.tmp 15) ?hP ?hw ?ho ?hs ?hx HN.out.k HS.out.2.2 ?_; (case hw => rfl); (case ho => rfl); (case hs => rfl); (case hx => rfl); (case hP => first | with_reducible exact HP.out | with_reducible exact (HP.out).drew | with_reducible exact HP.out.lit1a | with_reducible exact (HP.out.lit1a).drew | with_reducible exact HP.out.lit2a | with_reducible exact (HP.out.lit2a).drew | with_reducible exact HP.out.lit3a | with_reducible exact (HP.out.lit3a).drew | with_reducible exact HP.out.lit1a.lit2b | with_reducible exact (HP.out.lit1a.lit2b).drew | with_reducible exact HP.out.lit1a.lit3b | with_reducible exact (HP.out.lit1a.lit3b).drew | with_reducible exact HP.out.lit2a.lit1b | with_reducible exact (HP.out.lit2a.lit1b).drew | with_reducible exact HP.out.lit2a.lit3b | with_reducible exact (HP.out.lit2a.lit3b).drew | with_reducible exact HP.out.lit3a.lit1b | with_reducible exact (HP.out.lit3a.lit1b).drew | with_reducible exact HP.out.lit3a.lit2b | with_reducible exact (HP.out.lit3a.lit2b).drew | with_reducible exact HP.out.lit1a.lit2b.lit3c | with_reducible exact (HP.out.lit1a.lit2b.lit3c).drew | with_reducible exact HP.out.lit1a.lit3b.lit2c | with_reducible exact (HP.out.lit1a.lit3b.lit2c).drew | with_reducible exact HP.out.lit2a.lit1b.lit3c | with_reducible exact (HP.out.lit2a.lit1b.lit3c).drew | with_reducible exact HP.out.lit2a.lit3b.lit1c | with_reducible exact (HP.out.lit2a.lit3b.lit1c).drew | with_reducible exact HP.out.lit3a.lit1b.lit2c | with_reducible exact (HP.out.lit3a.lit1b.lit2c).drew | with_reducible exact HP.out.lit3a.lit2b.lit1c | with_reducible exact (HP.out.lit3a.lit2b.lit1c).drew); intro B3 d3 w3 hP; replace HP := Aside0.mk hP; clear hP))
  all_goals
    clear hL0 hL1 hL2 hL3
    go_wp2
    have h4 := HP.out.lives.set4 (.int .i64 n.kind) (.slice B1 n.ints.length d1) (.slice B2 n.texts.length d2) (.slice B3 n.kids.length d3)
    obtain ⟨hM, hB⟩ := HP.out.done (n := n) (Nat.le_succ _)
    exact bodyPost_ret (v := .agg #[.int .i64 n.kind, .slice B1 n.ints.length d1, .slice B2 n.texts.length d2, .slice B3 n.kids.length d3]) (by simp [results, Tryd.results27, go_sem, h4]) rfl ⟨_, rfl, ⟨_, _, _, rfl, hM⟩, hB⟩
end Go.Proofs.YtggldnbhmebcpaaDoor.L
end
