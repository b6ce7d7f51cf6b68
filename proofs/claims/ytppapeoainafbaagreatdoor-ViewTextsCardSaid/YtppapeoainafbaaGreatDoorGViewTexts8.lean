/- Parts of the proof: ShelfB Z3 Z5. -/
import Derived.Shelf.Strings.Builder1
import Derived.Shelf.Strings.BuilderF
import Derived.Shelf.Strings.BuilderK
import Derived.Shelf.Strconv.Itoa3
import Derived.Lib.Builder
import Derived.Lib.AppendStr
import Derived.Lib.OthersKept
import Derived.Lib.FrozenHead
import Derived.Test.YtppapeoainafbaaGreatDoorG5
/-
  DERIVED: THE SHELF's CONTRACTS AT THIS DUMP, IN PLAIN WORDS (tools/lay-plain.mjs out of 'YtppapeoainafbaaGreatDoorShelfBRaw.lean', which tools/lay-shelf.mjs wrote): THE SAME DECLARATIONS UNDER THE SAME NAMES: 'import', 'namespace', 'open', 'def', 'theorem' AND NOTHING ELSE: no command of the shelf's: FOR A HAND-IN. Each laying: the table of numbers ('.._ren') and one theorem, a field a fact of the dump's own or the kernel's comparison; each contract: ONE APPLICATION.
-/
namespace Go.Proofs
open Go.Shelf
def Tryz.bst_ren : Go.Shelf.Ren := ⟨fun | 169 => 60 | n => n, fun | 70 => 93 | 9 => 9 | 0 => 0 | 72 => 95 | 37 => 29 | 127 => 140 | 3 => 3 | 5 => 5 | n => n, fun | n => n⟩
theorem Tryz.bst : Go.Proofs.Lays.n169 Tryz.prog Tryz.bst_ren := {
  mixed := by kernel_rfl
  f169 := Tryz.func60.trans (congrArg some (by kernel_rfl))
  t0 := Tryz.underlying0
  a0 := Tryz.isAgg0
  z0 := Tryz.sizeOf0
  v0 := Tryz.zeroValue0
  t3 := Tryz.underlying3
  a3 := Tryz.isAgg3
  z3 := Tryz.sizeOf3
  v3 := Tryz.zeroValue3
  t9 := Tryz.underlying9
  a9 := Tryz.isAgg9
  z9 := Tryz.sizeOf9
  v9 := Tryz.zeroValue9
  t37 := Tryz.underlying29
  a37 := Tryz.isAgg29
  z37 := Tryz.sizeOf29
  v37 := Tryz.zeroValue29
  t70 := Tryz.underlying93
  a70 := Tryz.isAgg93
  z70 := Tryz.sizeOf93
  v70 := Tryz.zeroValue93
  t72 := Tryz.underlying95
  a72 := Tryz.isAgg95
  z72 := Tryz.sizeOf95
  v72 := Tryz.zeroValue95
  t127 := Tryz.underlying140
  a127 := Tryz.isAgg140
  z127 := Tryz.sizeOf140
  v127 := Tryz.zeroValue140 }
def Tryz.itoa_ren : Go.Shelf.Ren := ⟨fun | 171 => 57 | 243 => 103 | 246 => 134 | 283 => 130 | 284 => 131 | 285 => 132 | 286 => 133 | 129 => 148 | 317 => 147 | 318 => 149 | 319 => 150 | 320 => 151 | 337 => 157 | 338 => 158 | n => n, fun | 3 => 3 | 9 => 9 | 2 => 2 | 4 => 4 | 171 => 166 | 0 => 0 | 53 => 26 | 37 => 29 | 5 => 5 | 173 => 169 | 212 => 187 | 51 => 23 | 20 => 20 | 213 => 188 | 46 => 62 | 232 => 201 | 233 => 202 | n => n, fun | 17 => 2 | 18 => 6 | 19 => 7 | n => n⟩
theorem Tryz.itoa : Go.Proofs.Lays.n171 Tryz.prog Tryz.itoa_ren := {
  mixed := by kernel_rfl
  f129 := Tryz.func148.trans (congrArg some (by kernel_rfl))
  f171 := Tryz.func57.trans (congrArg some (by kernel_rfl))
  f243 := Tryz.func103.trans (congrArg some (by kernel_rfl))
  f246 := Tryz.func134.trans (congrArg some (by kernel_rfl))
  f283 := Tryz.func130.trans (congrArg some (by kernel_rfl))
  f284 := Tryz.func131.trans (congrArg some (by kernel_rfl))
  f285 := Tryz.func132.trans (congrArg some (by kernel_rfl))
  f286 := Tryz.func133.trans (congrArg some (by kernel_rfl))
  f317 := Tryz.func147.trans (congrArg some (by kernel_rfl))
  f318 := Tryz.func149.trans (congrArg some (by kernel_rfl))
  f319 := Tryz.func150.trans (congrArg some (by kernel_rfl))
  f320 := Tryz.func151.trans (congrArg some (by kernel_rfl))
  f337 := Tryz.func157.trans (congrArg some (by kernel_rfl))
  f338 := Tryz.func158.trans (congrArg some (by kernel_rfl))
  t0 := Tryz.underlying0
  a0 := Tryz.isAgg0
  z0 := Tryz.sizeOf0
  v0 := Tryz.zeroValue0
  t2 := Tryz.underlying2
  a2 := Tryz.isAgg2
  z2 := Tryz.sizeOf2
  v2 := Tryz.zeroValue2
  t3 := Tryz.underlying3
  a3 := Tryz.isAgg3
  z3 := Tryz.sizeOf3
  v3 := Tryz.zeroValue3
  t4 := Tryz.underlying4
  a4 := Tryz.isAgg4
  z4 := Tryz.sizeOf4
  v4 := Tryz.zeroValue4
  t5 := Tryz.underlying5
  a5 := Tryz.isAgg5
  z5 := Tryz.sizeOf5
  v5 := Tryz.zeroValue5
  t9 := Tryz.underlying9
  a9 := Tryz.isAgg9
  z9 := Tryz.sizeOf9
  v9 := Tryz.zeroValue9
  t20 := Tryz.underlying20
  a20 := Tryz.isAgg20
  z20 := Tryz.sizeOf20
  v20 := Tryz.zeroValue20
  t37 := Tryz.underlying29
  a37 := Tryz.isAgg29
  z37 := Tryz.sizeOf29
  v37 := Tryz.zeroValue29
  t46 := Tryz.underlying62
  a46 := Tryz.isAgg62
  z46 := Tryz.sizeOf62
  v46 := Tryz.zeroValue62
  t51 := Tryz.underlying23
  a51 := Tryz.isAgg23
  z51 := Tryz.sizeOf23
  v51 := Tryz.zeroValue23
  t53 := Tryz.underlying26
  a53 := Tryz.isAgg26
  z53 := Tryz.sizeOf26
  v53 := Tryz.zeroValue26
  t171 := Tryz.underlying166
  a171 := Tryz.isAgg166
  z171 := Tryz.sizeOf166
  v171 := Tryz.zeroValue166
  t173 := Tryz.underlying169
  a173 := Tryz.isAgg169
  z173 := Tryz.sizeOf169
  v173 := Tryz.zeroValue169
  t212 := Tryz.underlying187
  a212 := Tryz.isAgg187
  z212 := Tryz.sizeOf187
  v212 := Tryz.zeroValue187
  t213 := Tryz.underlying188
  a213 := Tryz.isAgg188
  z213 := Tryz.sizeOf188
  t232 := Tryz.underlying201
  a232 := Tryz.isAgg201
  z232 := Tryz.sizeOf201
  v232 := Tryz.zeroValue201
  t233 := Tryz.underlying202
  a233 := Tryz.isAgg202
  z233 := Tryz.sizeOf202
  v233 := Tryz.zeroValue202
  g17 := by kernel_rfl
  g18 := by kernel_rfl
  g19 := by kernel_rfl }
end Go.Proofs

namespace Go.Proofs.YtppapeoainafbaaGreatDoor
open Go.RowKit
/-! ### strings.Builder -/
/-- the builder at block b holds the text s; its own rows lie from B on -/
abbrev BldU (B b : Nat) (s : Str) (w : World) : Prop := Lib.BuilderAt 95 5 B b (.pointer (some ⟨b, 0, none⟩)) (Lib.byteCells s) w
abbrev Bld (B b : Nat) (s : Str) (w : World) : Prop := Lib.IsBuilder 95 5 B b (Lib.byteCells s) w
theorem bldSize : (Tryz.prog.info? 95).map (·.size) = some 2 := by kernel_rfl
theorem bldLies : liesAt Tryz.prog Tryz.prog.depth 95 (2 / Tryz.prog.cellsOf 95) 0 95 1 = true := by kernel_rfl
theorem bldNe : (95 : Nat) ≠ 5 := by decide
set_option maxHeartbeats 1600000 in
set_option maxRecDepth 100000 in
theorem bcheck_used (b : Nat) (w : World) (h0 : w.cell? ⟨b, 0, none⟩ = some (.pointer (some ⟨b, 0, none⟩))) :
    Calls Tryz.prog 101 #[.pointer (some ⟨b, 0, none⟩)] w fun e w' => e = .returned (.tuple #[]) ∧ w' = w := by
  obtain ⟨j, hj, _⟩ := Option.map_eq_some_iff.1 bldSize
  go_enter Tryz.func101, Tryz.ntmps101
  go_wp2
  rw [Lib.run_neq_ptr_same w _ Tryz.underlying93 hj]
  go_wp2
  go_end0
  exact ⟨rfl, rfl⟩
set_option maxHeartbeats 1600000 in
set_option maxRecDepth 100000 in
theorem bcheck_fresh (b : Nat) (w : World) (h0 : w.cell? ⟨b, 0, none⟩ = some (.pointer none)) (hsh : w.shape? b = some (95, 2)) (hfz : w.frozen? ⟨b, 0, none⟩ = false) :
    Calls Tryz.prog 101 #[.pointer (some ⟨b, 0, none⟩)] w fun e w' => e = .returned (.tuple #[]) ∧ w' = w.setCell ⟨b, 0, none⟩ (.pointer (some ⟨b, 0, none⟩)) := by
  obtain ⟨j, hj, hjs⟩ := Option.map_eq_some_iff.1 bldSize
  go_enter Tryz.func101, Tryz.ntmps101
  go_wp2
  rw [Lib.run_to_unsafe w ⟨b, 0, none⟩ Tryz.underlying93 Tryz.underlying164 hj (by rw [hjs]; decide) hsh (Nat.zero_lt_succ 1)]
  simp only [Result.andThen]
  rw [Oper.upon_value]
  go_wp2
  rw [run_callFunc_extern Tryz.func129 (by kernel_rfl) (by kernel_rfl) (by kernel_rfl) (e := Extern.AbiNoEscape.same) (by kernel_rfl)]
  rw [Lib.run_noEscape]
  simp only [Result.andThen]
  rw [Oper.upon_value]
  go_wp2
  rw [Lib.run_from_unsafe w ⟨b, 0, none⟩ Tryz.underlying164 Tryz.underlying93 hj hsh bldLies]
  simp only [Result.andThen]
  rw [Oper.upon_value]
  go_wp2
  go_end0
  exact ⟨rfl, rfl⟩
theorem bcheck_any (B b : Nat) (s : Str) (w : World) (h : Bld B b s w) :
    Calls Tryz.prog 101 #[.pointer (some ⟨b, 0, none⟩)] w fun e w' => e = .returned (.tuple #[]) ∧ BldU B b s w' ∧ Below B w w' ∧ Lib.OthersKept 5 (some b) w w' := by
  rcases h with h | h
  · refine (bcheck_fresh b w h.cell0 h.shape h.frozen0).mono ?_
    rintro e w' ⟨rfl, rfl⟩
    exact ⟨rfl, h.used _, (Below.refl B w).setCell (p := ⟨b, 0, none⟩) h.1 _, (Lib.OthersKept.refl _ _ w).setCell ⟨b, 0, none⟩ rfl _⟩
  · refine (bcheck_used b w h.cell0).mono ?_
    rintro e w' ⟨rfl, rfl⟩
    exact ⟨rfl, h, Below.refl B _, Lib.OthersKept.refl _ _ _⟩
set_option maxHeartbeats 2000000 in
set_option maxRecDepth 100000 in
theorem bws_any (B b : Nat) (s t : Str) (w : World) (h : Bld B b s w) (hlen : s.length + t.length ≤ 100000000) (hBw : B ≤ w.heap.size) :
    Calls Tryz.prog 55 #[.pointer (some ⟨b, 0, none⟩), .string ⟨t.toArray⟩] w fun e w' => e = .returned (.tuple #[.int .i64 t.length, .nilIface]) ∧ BldU B b (s ++ t) w' ∧ Below B w w' ∧ Lib.OthersKept 5 (some b) w w' := by
  obtain ⟨i0, hi, hz0, hz1, hz2⟩ := info_parts infoB
  have hz : (⟨t.toArray⟩ : ByteArray).size = t.length := by show t.toArray.size = _; simp
  have CC := bcheck_any B b s w h
  go_enter Tryz.func55, Tryz.ntmps55
  go_wp2_with (go_at_call 101; refine CC.mono ?_)
  rintro e w1 ⟨rfl, h1, hb1, hk1⟩
  obtain ⟨hB, v, hbk, hown, hne⟩ := h1
  rw [Lib.byteCells_length] at hown
  have c0 : w1.cell? ⟨b, 0, none⟩ = some (.pointer (some ⟨b, 0, none⟩)) := by rw [Lib.cell_of_heap hbk]; rfl
  have c1 : w1.cell? ⟨b, 1, none⟩ = some v := by rw [Lib.cell_of_heap hbk]; rfl
  go_wp2_with (at_builtin; refine Lib.wpList_append_own_string _ rfl _ _ 29 9 rfl B 5 i0 Tryz.underlying29 Tryz.underlying9 hi hz0 hz1 hz2 _ _ _ rfl hown ⟨t.toArray⟩ rfl ?c3 ?c4 ?c5 ?_)
  case c3 => unfold maxLen; rw [hz]; omega
  case c4 => rw [hz]; omega
  case c5 => have := hb1.size; omega
  intro v' w2 hown' hgrow _
  have hlt : b < w1.heap.size := by
    rcases Nat.lt_or_ge b w1.heap.size with h' | h'
    · exact h'
    · simp [Array.getElem?_eq_none h'] at hbk
  have hb2 : w2.heap[b]? = some (.cells #[.pointer (some ⟨b, 0, none⟩), v] 95 (0, 0)) := by
    rw [hgrow.block b hlt (fun e => hne e.symm)]
    exact hbk
  have d0 : w2.cell? ⟨b, 0, none⟩ = some (.pointer (some ⟨b, 0, none⟩)) := by rw [Lib.cell_of_heap hb2]; rfl
  have d1 : w2.cell? ⟨b, 1, none⟩ = some v := by rw [Lib.cell_of_heap hb2]; rfl
  have f1 : w2.frozen? ⟨b, 1, none⟩ = false := Lib.frozen_of_heap hb2 1
  obtain ⟨ao, n', cap, rfl⟩ : ∃ ao n' cap, v' = .slice ao n' cap := by
    rcases hown'.2 with ⟨hv, _⟩ | ⟨g, cap, cur, hv, _⟩
    · exact ⟨_, _, _, hv⟩
    · exact ⟨_, _, _, hv⟩
  go_wp2
  refine bodyPost_ret (v := .tuple #[.int .i64 t.length, .nilIface]) (by simp [results, Tryz.results55, go_sem]) rfl ⟨rfl, ?_, ?_, ?_⟩
  · refine Lib.BuilderAt.put (T := 95) (e := 5) hB hb2 (bs' := Lib.byteCells (s ++ t)) ?_ bldNe
    rw [Lib.byteCells_length, List.length_append, Lib.byteCells_append, ← Lib.strCells_toArray t, ← hz]
    exact hown'
  · exact (hb1.grown hgrow (by have := hb1.size; omega) (fun k hk => (hown.lt k hk).1)).setCell (p := ⟨b, 1, none⟩) hB _
  · exact (hk1.grown hgrow (Lib.ownsRowF_kind (World.ownsRowF_of hown))).setCell ⟨b, 1, none⟩ rfl _
set_option maxHeartbeats 2000000 in
set_option maxRecDepth 100000 in
theorem bwb_any (B b : Nat) (s : Str) (c : UInt8) (w : World) (h : Bld B b s w) (hlen : s.length + 1 ≤ 100000000) (hBw : B ≤ w.heap.size) :
    Calls Tryz.prog 59 #[.pointer (some ⟨b, 0, none⟩), .int .u8 (c.toNat : Int)] w fun e w' => e = .returned .nilIface ∧ BldU B b (s ++ [c]) w' ∧ Below B w w' ∧ Lib.OthersKept 5 (some b) w w' := by
  obtain ⟨i0, hi, hz0, hz1, hz2⟩ := info_parts infoB
  have CC := bcheck_any B b s w h
  go_enter Tryz.func59, Tryz.ntmps59
  go_wp2_with (go_at_call 101; refine CC.mono ?_)
  rintro e w1 ⟨rfl, h1, hb1, hk1⟩
  obtain ⟨hB, v, hbk, hown, hne⟩ := h1
  rw [Lib.byteCells_length] at hown
  have c0 : w1.cell? ⟨b, 0, none⟩ = some (.pointer (some ⟨b, 0, none⟩)) := by rw [Lib.cell_of_heap hbk]; rfl
  have c1 : w1.cell? ⟨b, 1, none⟩ = some v := by rw [Lib.cell_of_heap hbk]; rfl
  go_wp2_with (at_builtin; refine wpList_append_own _ rfl _ _ 29 rfl B 5 i0 (.int .u8 0) 1 1 Tryz.underlying29 hi hz0 hz1 hz2 rfl (by decide) _ _ _ rfl (hown.alloc _) ⟨w1.heap.size, 0, none⟩ 1 1 [.int .u8 (c.toNat : Int)] rfl rfl ?c1 ?c2 ?c3 ?c4 ?c5 ?_)
  case c1 =>
    intro j u hj
    match j, hj with
    | 0, hj => simp at hj; subst hj; simp [Addr.add]
  case c2 => intro u hu; simp at hu; subst hu; rfl
  case c3 => unfold maxLen; omega
  case c4 => omega
  case c5 => have := hb1.size; simp; omega
  intro v' w2 hown' hgrow _
  have hlt : b < w1.heap.size := by
    rcases Nat.lt_or_ge b w1.heap.size with h' | h'
    · exact h'
    · simp [Array.getElem?_eq_none h'] at hbk
  have hb2 : w2.heap[b]? = some (.cells #[.pointer (some ⟨b, 0, none⟩), v] 95 (0, 0)) := by
    rw [hgrow.block b (by simp; omega) (fun e => hne e.symm), Lib.alloc_old w1 _ b hlt]
    exact hbk
  have d0 : w2.cell? ⟨b, 0, none⟩ = some (.pointer (some ⟨b, 0, none⟩)) := by rw [Lib.cell_of_heap hb2]; rfl
  have d1 : w2.cell? ⟨b, 1, none⟩ = some v := by rw [Lib.cell_of_heap hb2]; rfl
  have f1 : w2.frozen? ⟨b, 1, none⟩ = false := Lib.frozen_of_heap hb2 1
  obtain ⟨g, cap, rfl⟩ : ∃ g cap, v' = .slice (some ⟨g, 0, none⟩) (s.length + 1) cap := by
    rcases hown'.2 with ⟨_, h0⟩ | ⟨g, cap, cur, hv, _⟩
    · omega
    · exact ⟨g, cap, hv⟩
  go_wp2
  refine bodyPost_ret (v := .nilIface) (by simp [results, Tryz.results59, go_sem]) rfl ⟨rfl, ?_, ?_, ?_⟩
  · refine Lib.BuilderAt.put (T := 95) (e := 5) hB hb2 (bs' := Lib.byteCells (s ++ [c])) ?_ bldNe
    rw [Lib.byteCells_length, List.length_append, Lib.byteCells_append]
    exact hown'
  · exact ((hb1.alloc (by have := hb1.size; omega) _).grown hgrow (by have := hb1.size; simp; omega) (fun k hk => (hown.lt k hk).1)).setCell (p := ⟨b, 1, none⟩) hB _
  · exact ((hk1.alloc _).grown hgrow (Lib.ownsRowF_kind (World.ownsRowF_of (hown.alloc _)))).setCell ⟨b, 1, none⟩ rfl _
theorem bst_extra : Builder.Extra Tryz.prog Tryz.bst_ren where
  sizeBuilder := by kernel_rfl
  liesBuilder := by kernel_rfl
  t5 := Tryz.underlying5
  a5 := Tryz.isAgg5
  z5 := Tryz.sizeOf5
  v5 := Tryz.zeroValue5
  infoByte := by kernel_rfl
  cellsByte := by kernel_rfl
  sizeByte := by kernel_rfl
  neB5 := by decide
theorem bst_any (B b : Nat) (s : Str) (w : World) (h : Bld B b s w) (hBw : B ≤ w.heap.size) :
    Calls Tryz.prog 60 #[.pointer (some ⟨b, 0, none⟩)] w fun e w' => e = .returned (.string ⟨s.toArray⟩) ∧ Below B w w' :=
  Any.Builder_String_any Tryz.bst bst_extra B b s w h hBw
end Go.Proofs.YtppapeoainafbaaGreatDoor

namespace Go.Proofs.YtppapeoainafbaaGreatDoor
open Go.RowKit
/-! ### view.Print -/
theorem itoa_any (i : Nat) (h : i < 100) (w : World) : Calls Tryz.prog 57 #[.int .i64 i] w fun e w' => e = .returned (.string ⟨(Lib.decDigits i).toArray⟩) ∧ w' = w := Any.strconv_Itoa_small Tryz.itoa i h w
theorem wordP_len {V : View} {x y : Nat} (hx : x < 65536) (hy : y < 4294967296) {k : Nat} (hk : k < 100) (hl : leafIx V.ls ((x : Int), (y : Int)) = (k : Int)) : (wordP V ((x : Int), (y : Int))).length ≤ 100 := by
  obtain ⟨l0, l1⟩ := printP_len hx hy
  have l2 := dec_len k 2 (by omega)
  unfold wordP printP
  rw [hl]
  simp only [Int.toNat_natCast, List.length_append, List.length_cons, List.length_nil]
  split <;> simp <;> omega
theorem BldU.ext {B b : Nat} {s : Str} {w w' : World} (h : BldU B b s w) (hb : Below w.heap.size w w') : BldU B b s w' := by
  obtain ⟨hB, v, hbk, hown, hne⟩ := h
  refine ⟨hB, v, (hb.block b (Array.getElem?_eq_some_iff.1 hbk).1).trans hbk, ⟨hown.1, ?_⟩, hne⟩
  rcases hown.2 with hn | ⟨g, cap, cur, rfl, hbb, hgg, rest⟩
  · exact .inl hn
  · exact .inr ⟨g, cap, cur, rfl, hbb, (hb.block g (Array.getElem?_eq_some_iff.1 hgg).1).trans hgg, rest⟩
theorem BldF.ext {B b : Nat} {p : Value} {bs : List Value} {w w' : World} (h : Lib.BuilderAt 95 5 B b p bs w) (hb : Below w.heap.size w w') : Lib.BuilderAt 95 5 B b p bs w' := by
  obtain ⟨hB, v, hbk, hown, hne⟩ := h
  refine ⟨hB, v, (hb.block b (Array.getElem?_eq_some_iff.1 hbk).1).trans hbk, ⟨hown.1, ?_⟩, hne⟩
  rcases hown.2 with hn | ⟨g, cap, cur, rfl, hbb, hgg, rest⟩
  · exact .inl hn
  · exact .inr ⟨g, cap, cur, rfl, hbb, (hb.block g (Array.getElem?_eq_some_iff.1 hgg).1).trans hgg, rest⟩
theorem Bld.extB {B b : Nat} {s : Str} {w w' : World} (h : Bld B b s w) (hb : Below w.heap.size w w') : Bld B b s w' :=
  h.elim (fun h => .inl (BldF.ext h hb)) (fun h => .inr (BldF.ext h hb))
theorem okept {b g : Nat} {cs : Array Value} {w w' : World} {t : TypeId} {fr : Nat × Nat} (h : Lib.OthersKept 5 (some b) w w') (hg : w.heap[g]? = some (.cells cs t fr)) (hb : g ≠ b) (ht : t ≠ 5) : w'.heap[g]? = some (.cells cs t fr) :=
  h g _ hg (by intro e; exact hb (Option.some.inj e)) (by intro c fz e; cases e; exact ht rfl)
end Go.Proofs.YtppapeoainafbaaGreatDoor

