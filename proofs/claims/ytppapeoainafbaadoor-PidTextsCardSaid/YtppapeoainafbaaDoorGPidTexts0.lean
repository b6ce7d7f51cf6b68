/- Parts of the proof: Base OpenT ShelfT Y1 Y2 Maps W5 W6 W8 R1 Y3 Y4 Y5 Y6 Y7 Y8 Y9. -/
import Derived.Test.YtppapeoainafbaaDoorChecked
import Derived.WalkKit
import Derived.WalkLawsBesides
import Derived.WalkSpells
import Derived.Deep.QuietTactic
import Derived.BigQuiet
import Derived.Deep.Slices
import Derived.Lib.SmallJoins
import Derived.SizedLaws
import Derived.ProofKit
import Derived.OpenShut
import Derived.Shelf.Pu.ErrVarParseUint
import Derived.Shelf.Strings.Cut
import Derived.Shelf.Strconv.Itoa2
import Derived.Lib.ItoaNum
import Derived.Lib.IndexMore
import Derived.Lib.ParseIntBCases
import Derived.Shelf.Strconv.Itoa1
import Derived.Lib.ItoaMem
import Derived.Lib.AppendIntMem
import Derived.Lib.ItoaWalk
import Derived.Lib.LaidTab
import Derived.Lib.Walk
import Derived.BigCall
import Derived.BigGuard
import Derived.Maps.OwnSet
import Derived.Deep.RegionHeld3
import Derived.Lib.AppendZerosOnto
import Derived.Lib.SliceRun
import Derived.Lib.PathFns
import Derived.Lib.EndianBits
namespace Go.Proofs.YtppapeoainafbaaDoor
open Go.RowKit
theorem hid {p : Prop} (h : p) : Hid p := h
theorem ret_bool {a b : Bool} (h : a = b) : Ending.returned (.bool a) = .returned (.bool b) := by rw [h]

abbrev Pid := Int × Int
/-- the row of processes behind a slice's address -/
def PidRow (w : World) (a : Option Addr) (xs : List Pid) : Prop :=
  xs = [] ∨ ∃ b off, a = some ⟨b, off, none⟩ ∧ b < w.heap.size ∧ ∀ i (h : i < xs.length), w.cell? ⟨b, off + i * 2, none⟩ = some (.int .u16 xs[i].1) ∧ w.cell? ⟨b, off + i * 2 + 1, none⟩ = some (.int .u32 xs[i].2)
theorem PidRow.get {w : World} {a : Option Addr} {xs : List Pid} (h : PidRow w a xs) (h0 : 0 < xs.length) :
    ∃ b off, a = some ⟨b, off, none⟩ ∧ b < w.heap.size ∧ ∀ i (h : i < xs.length), w.cell? ⟨b, off + i * 2, none⟩ = some (.int .u16 xs[i].1) ∧ w.cell? ⟨b, off + i * 2 + 1, none⟩ = some (.int .u32 xs[i].2) := by
  rcases h with rfl | h
  · simp at h0
  · exact h
theorem PidRow.below {w w' : World} {a : Option Addr} {xs : List Pid} (h : PidRow w a xs) {B : Nat} (hb : Below B w w') (hB : ∀ b off, a = some ⟨b, off, none⟩ → b < B) : PidRow w' a xs := by
  rcases h with rfl | ⟨b, off, rfl, hlt, hc⟩
  · exact .inl rfl
  · refine .inr ⟨b, off, rfl, by have := hb.size; omega, fun i hi => ?_⟩
    have := hB b off rfl
    rw [hb.cell (by exact this), hb.cell (by exact this)]
    exact hc i hi
theorem PidRow.ext {w w' : World} {a : Option Addr} {xs : List Pid} (h : PidRow w a xs) (hb : Below w.heap.size w w') : PidRow w' a xs := by
  rcases h with rfl | ⟨b, off, rfl, hlt, hc⟩
  · exact .inl rfl
  · exact PidRow.below (.inr ⟨b, off, rfl, hlt, hc⟩) hb (fun b' off' e => by cases e; exact hlt)
/-- the k-th cell pair, in any later world -/
theorem PidRow.at {w wr : World} {a : Option Addr} {xs : List Pid} (h : PidRow w a xs) {B : Nat} (hb : Below B w wr) (hB : B = w.heap.size) {k : Nat} (hk : k < xs.length) :
    ∃ b off x y, a = some ⟨b, off, none⟩ ∧ (x, y) = xs[k] ∧ wr.cell? ⟨b, off + k * 2, none⟩ = some (.int .u16 x) ∧ wr.cell? ⟨b, off + k * 2 + 1, none⟩ = some (.int .u32 y) := by
  subst hB
  obtain ⟨b, off, rfl, hlt, hc⟩ := h.get (by omega)
  refine ⟨b, off, xs[k].1, xs[k].2, rfl, rfl, ?_, ?_⟩
  · rw [hb.cell (by exact hlt)]; exact (hc k hk).1
  · rw [hb.cell (by exact hlt)]; exact (hc k hk).2
/-- the rows behind a slice of slices -/
def LeafRow (w : World) (a : Option Addr) (ls : List (List Pid)) : Prop :=
  ls = [] ∨ ∃ b off, a = some ⟨b, off, none⟩ ∧ b < w.heap.size ∧ ∀ i (h : i < ls.length), ∃ ai ci, w.cell? ⟨b, off + i, none⟩ = some (.slice ai ls[i].length ci) ∧ PidRow w ai ls[i]
theorem LeafRow.ext {w w' : World} {a : Option Addr} {ls : List (List Pid)} (h : LeafRow w a ls) (hb : Below w.heap.size w w') : LeafRow w' a ls := by
  rcases h with rfl | ⟨b, off, rfl, hlt, hc⟩
  · exact .inl rfl
  · refine .inr ⟨b, off, rfl, by have := hb.size; omega, fun i hi => ?_⟩
    obtain ⟨ai, ci, h1, h2⟩ := hc i hi
    exact ⟨ai, ci, by rw [hb.cell (by exact hlt)]; exact h1, h2.ext hb⟩
theorem LeafRow.at {w wr : World} {a : Option Addr} {ls : List (List Pid)} (h : LeafRow w a ls) {B : Nat} (hb : Below B w wr) (hB : B = w.heap.size) {k : Nat} (hk : k < ls.length) :
    ∃ b off ai ci l, a = some ⟨b, off, none⟩ ∧ l = ls[k] ∧ wr.cell? ⟨b, off + k, none⟩ = some (.slice ai l.length ci) ∧ PidRow wr ai l := by
  subst hB
  rcases h with rfl | ⟨b, off, rfl, hlt, hc⟩
  · simp at hk
  · obtain ⟨ai, ci, h1, h2⟩ := hc k hk
    exact ⟨b, off, ai, ci, ls[k], rfl, rfl, by rw [hb.cell (by exact hlt)]; exact h1, h2.ext hb⟩
/-- a view, as data -/
structure View where
  id : Int
  ms : List Pid
  ls : List (List Pid)
  ds : List Pid
structure ViewR (w : World) (am al ad : Option Addr) (V : View) : Prop where
  ms : PidRow w am V.ms
  ls : LeafRow w al V.ls
  ds : PidRow w ad V.ds
  lm : V.ms.length ≤ 70368744177664
  ll : V.ls.length ≤ 70368744177664
  ld : V.ds.length ≤ 70368744177664
  le : ∀ l ∈ V.ls, l.length ≤ 70368744177664
theorem ViewR.ext {w w' : World} {am al ad : Option Addr} {V : View} (h : ViewR w am al ad V) (hb : Below w.heap.size w w') : ViewR w' am al ad V :=
  ⟨h.ms.ext hb, h.ls.ext hb, h.ds.ext hb, h.lm, h.ll, h.ld, h.le⟩
theorem eql_pid (a b c d : Int) (w : World) : (binOp .eql 25 (.agg #[.int .u16 a, .int .u32 b]) (.agg #[.int .u16 c, .int .u32 d])).run Tryd.prog w = .ok (.bool (decide ((a, b) = (c, d)))) w := by
  have hS : Tryd.prog.underlying 25 = some (.struct (Tryd.prog.fieldsOf 25)) := by kernel_rfl
  have hp : Tryd.prog.stoodInHeld 25 = false := by kernel_rfl
  rw [run_eql_struct, show (10000 : Nat) = 9999 + 1 from rfl, run_equalIn_agg w 9999 25 _ _ hS hp]
  simp only [Program.fieldsOf, Tryd.underlying25]
  go_simp
  by_cases h1 : a = c <;> by_cases h2 : b = d <;> simp [h1, h2]
end Go.Proofs.YtppapeoainafbaaDoor

namespace Go.Proofs.YtppapeoainafbaaDoor
open Go.RowKit Go.Deep Go.Joins Go.ChangeShapes
theorem dcells25 : Tryd.prog.cellsOf 25 = 2 := by kernel_rfl
theorem dcells22 : Tryd.prog.cellsOf 22 = 1 := by kernel_rfl
theorem dcells23 : Tryd.prog.cellsOf 23 = 1 := by kernel_rfl
section
variable {H : Type} {enc : TypeId × Value → H} {w : World}
theorem open_pid {n : Nat} {cs : List Value} {x : DataW H × List MemPlace} (h : DataW.trod enc Tryd.prog w 0 (fun _ => true) true n 25 cs = some x) :
    ∃ i c : Int, cs = [.int .u16 i, .int .u32 c] ∧ 0 ≤ i ∧ i < 65536 ∧ 0 ≤ c ∧ c < 4294967296 := by
  obtain ⟨y0, y1, m, _, hl, h0, h1⟩ := trod_struct2 Tryd.underlying25 h
  rw [dcells25] at hl
  obtain ⟨c0, c1, rfl⟩ : ∃ c0 c1, cs = [c0, c1] := by
    rcases cs with _ | ⟨c0, _ | ⟨c1, _ | ⟨c2, r⟩⟩⟩
    · simp at hl
    · simp at hl
    · exact ⟨c0, c1, rfl⟩
    · simp at hl
  · have e0 : (([c0, c1] : List Value).drop 0).take (Tryd.prog.cellsOf 22) = [c0] := by rw [dcells22]; rfl
    have e1 : (([c0, c1] : List Value).drop 1).take (Tryd.prog.cellsOf 23) = [c1] := by rw [dcells23]; rfl
    obtain ⟨i, hi, _, wi⟩ := DataW.trod_int Tryd.underlying22 (e0 ▸ h0)
    obtain ⟨c, hc, _, wc⟩ := DataW.trod_int Tryd.underlying23 (e1 ▸ h1)
    cases hi; cases hc
    have b0 := bounds_u16 wi
    have b1 := bounds_u32 wc
    exact ⟨i, c, rfl, b0.1, by have := b0.2; omega, b1.1, by have := b1.2; omega⟩
set_option maxRecDepth 100000 in
theorem open_pidV {base : Nat} {v : Value} {d : DataW H} {p : List MemPlace} (hv : Value.okWide Tryd.prog w .any base 25 v) (h : DataW.Trod enc Tryd.prog w 0 (fun _ => true) true 25 v d p) :
    ∃ (x y : Int), v = .agg #[.int .u16 x, .int .u32 y] ∧ 0 ≤ x ∧ x < 65536 ∧ 0 ≤ y ∧ y < 4294967296 := by
  obtain ⟨cs, rfl, hsz⟩ := Go.WideShapes.okWide_struct Tryd.underlying25 hv
  obtain ⟨fuel, hf⟩ := h
  obtain ⟨i, c, hcs, b⟩ := open_pid (x := (d, p)) hf
  exact ⟨i, c, by rw [← Array.toArray_toList (xs := cs)]; simp only [Value.cells] at hcs; rw [hcs], b⟩
end
end Go.Proofs.YtppapeoainafbaaDoor

/-
  DERIVED: THE SHELF's CONTRACTS AT THIS DUMP, IN PLAIN WORDS (tools/lay-plain.mjs out of 'YtppapeoainafbaaDoorShelfTRaw.lean', which tools/lay-shelf.mjs wrote): THE SAME DECLARATIONS UNDER THE SAME NAMES: 'import', 'namespace', 'open', 'def', 'theorem' AND NOTHING ELSE: no command of the shelf's: FOR A HAND-IN. Each laying: the table of numbers ('.._ren') and one theorem, a field a fact of the dump's own or the kernel's comparison; each contract: ONE APPLICATION.
-/
namespace Go.Proofs
open Go.Shelf
def Tryd.puint_ren : Go.Shelf.Ren := ⟨fun | 14 => 19 | 16 => 35 | 17 => 36 | 19 => 63 | 20 => 64 | 21 => 65 | 22 => 66 | 23 => 67 | 24 => 68 | 25 => 96 | 27 => 47 | 26 => 97 | 28 => 82 | 29 => 104 | 30 => 58 | 31 => 59 | 32 => 60 | 33 => 61 | 35 => 88 | 34 => 87 | 36 => 89 | 37 => 90 | 38 => 91 | 39 => 106 | 40 => 107 | n => n, fun | 9 => 9 | 3 => 3 | 22 => 34 | 24 => 51 | 25 => 52 | 4 => 4 | 34 => 99 | 5 => 5 | 36 => 71 | 37 => 35 | 0 => 0 | 39 => 102 | 21 => 21 | 44 => 128 | 47 => 118 | 50 => 149 | 48 => 147 | 2 => 2 | 52 => 93 | 55 => 96 | 59 => 121 | 60 => 23 | 20 => 20 | 61 => 122 | 65 => 150 | 66 => 151 | 67 => 90 | n => n, fun | 0 => 2 | 1 => 3 | 2 => 0 | 3 => 4 | 4 => 5 | n => n⟩
theorem Tryd.puint : Go.Proofs.LaysPu.n14 Tryd.prog Tryd.puint_ren := {
  mixed := by kernel_rfl
  f14 := Tryd.func19.trans (congrArg some (by kernel_rfl))
  f16 := Tryd.func35.trans (congrArg some (by kernel_rfl))
  f17 := Tryd.func36.trans (congrArg some (by kernel_rfl))
  f19 := Tryd.func63.trans (congrArg some (by kernel_rfl))
  f20 := Tryd.func64.trans (congrArg some (by kernel_rfl))
  f21 := Tryd.func65.trans (congrArg some (by kernel_rfl))
  f22 := Tryd.func66.trans (congrArg some (by kernel_rfl))
  f23 := Tryd.func67.trans (congrArg some (by kernel_rfl))
  f24 := Tryd.func68.trans (congrArg some (by kernel_rfl))
  f25 := Tryd.func96.trans (congrArg some (by kernel_rfl))
  f26 := Tryd.func97.trans (congrArg some (by kernel_rfl))
  f27 := Tryd.func47.trans (congrArg some (by kernel_rfl))
  f28 := Tryd.func82.trans (congrArg some (by kernel_rfl))
  f29 := Tryd.func104.trans (congrArg some (by kernel_rfl))
  f30 := Tryd.func58.trans (congrArg some (by kernel_rfl))
  f31 := Tryd.func59.trans (congrArg some (by kernel_rfl))
  f32 := Tryd.func60.trans (congrArg some (by kernel_rfl))
  f33 := Tryd.func61.trans (congrArg some (by kernel_rfl))
  f34 := Tryd.func87.trans (congrArg some (by kernel_rfl))
  f35 := Tryd.func88.trans (congrArg some (by kernel_rfl))
  f36 := Tryd.func89.trans (congrArg some (by kernel_rfl))
  f37 := Tryd.func90.trans (congrArg some (by kernel_rfl))
  f38 := Tryd.func91.trans (congrArg some (by kernel_rfl))
  f39 := Tryd.func106.trans (congrArg some (by kernel_rfl))
  f40 := Tryd.func107.trans (congrArg some (by kernel_rfl))
  t0 := Tryd.underlying0
  a0 := Tryd.isAgg0
  z0 := Tryd.sizeOf0
  v0 := Tryd.zeroValue0
  i0 := by kernel_rfl
  t2 := Tryd.underlying2
  a2 := Tryd.isAgg2
  z2 := Tryd.sizeOf2
  v2 := Tryd.zeroValue2
  i2 := by kernel_rfl
  t3 := Tryd.underlying3
  a3 := Tryd.isAgg3
  z3 := Tryd.sizeOf3
  v3 := Tryd.zeroValue3
  i3 := by kernel_rfl
  t4 := Tryd.underlying4
  a4 := Tryd.isAgg4
  z4 := Tryd.sizeOf4
  v4 := Tryd.zeroValue4
  i4 := by kernel_rfl
  t5 := Tryd.underlying5
  a5 := Tryd.isAgg5
  z5 := Tryd.sizeOf5
  v5 := Tryd.zeroValue5
  i5 := by kernel_rfl
  t9 := Tryd.underlying9
  a9 := Tryd.isAgg9
  z9 := Tryd.sizeOf9
  v9 := Tryd.zeroValue9
  i9 := by kernel_rfl
  t20 := Tryd.underlying20
  a20 := Tryd.isAgg20
  z20 := Tryd.sizeOf20
  v20 := Tryd.zeroValue20
  i20 := by kernel_rfl
  t21 := Tryd.underlying21
  a21 := Tryd.isAgg21
  z21 := Tryd.sizeOf21
  v21 := Tryd.zeroValue21
  i21 := by kernel_rfl
  t22 := Tryd.underlying34
  a22 := Tryd.isAgg34
  z22 := Tryd.sizeOf34
  v22 := Tryd.zeroValue34
  i22 := by kernel_rfl
  t24 := Tryd.underlying51
  a24 := Tryd.isAgg51
  z24 := Tryd.sizeOf51
  v24 := Tryd.zeroValue51
  i24 := by kernel_rfl
  t25 := Tryd.underlying52
  a25 := Tryd.isAgg52
  z25 := Tryd.sizeOf52
  v25 := Tryd.zeroValue52
  i25 := by kernel_rfl
  t34 := Tryd.underlying99
  a34 := Tryd.isAgg99
  z34 := Tryd.sizeOf99
  v34 := Tryd.zeroValue99
  i34 := by kernel_rfl
  c34 := by kernel_rfl
  t36 := Tryd.underlying71
  a36 := Tryd.isAgg71
  z36 := Tryd.sizeOf71
  v36 := Tryd.zeroValue71
  i36 := by kernel_rfl
  t37 := Tryd.underlying35
  a37 := Tryd.isAgg35
  z37 := Tryd.sizeOf35
  v37 := Tryd.zeroValue35
  i37 := by kernel_rfl
  t39 := Tryd.underlying102
  a39 := Tryd.isAgg102
  z39 := Tryd.sizeOf102
  v39 := Tryd.zeroValue102
  i39 := by kernel_rfl
  t44 := Tryd.underlying128
  a44 := Tryd.isAgg128
  z44 := Tryd.sizeOf128
  v44 := Tryd.zeroValue128
  i44 := by kernel_rfl
  t47 := Tryd.underlying118
  a47 := Tryd.isAgg118
  z47 := Tryd.sizeOf118
  v47 := Tryd.zeroValue118
  i47 := by kernel_rfl
  t48 := Tryd.underlying147
  a48 := Tryd.isAgg147
  z48 := Tryd.sizeOf147
  v48 := Tryd.zeroValue147
  i48 := by kernel_rfl
  t50 := Tryd.underlying149
  a50 := Tryd.isAgg149
  z50 := Tryd.sizeOf149
  v50 := Tryd.zeroValue149
  i50 := by kernel_rfl
  t52 := Tryd.underlying93
  a52 := Tryd.isAgg93
  z52 := Tryd.sizeOf93
  v52 := Tryd.zeroValue93
  i52 := by kernel_rfl
  t55 := Tryd.underlying96
  a55 := Tryd.isAgg96
  z55 := Tryd.sizeOf96
  v55 := Tryd.zeroValue96
  i55 := by kernel_rfl
  t59 := Tryd.underlying121
  a59 := Tryd.isAgg121
  z59 := Tryd.sizeOf121
  v59 := Tryd.zeroValue121
  i59 := by kernel_rfl
  t60 := Tryd.underlying23
  a60 := Tryd.isAgg23
  z60 := Tryd.sizeOf23
  v60 := Tryd.zeroValue23
  i60 := by kernel_rfl
  t61 := Tryd.underlying122
  a61 := Tryd.isAgg122
  z61 := Tryd.sizeOf122
  t65 := Tryd.underlying150
  a65 := Tryd.isAgg150
  z65 := Tryd.sizeOf150
  v65 := Tryd.zeroValue150
  i65 := by kernel_rfl
  t66 := Tryd.underlying151
  a66 := Tryd.isAgg151
  z66 := Tryd.sizeOf151
  v66 := Tryd.zeroValue151
  i66 := by kernel_rfl
  t67 := Tryd.underlying90
  a67 := Tryd.isAgg90
  z67 := Tryd.sizeOf90
  v67 := Tryd.zeroValue90
  i67 := by kernel_rfl
  g0 := by kernel_rfl
  m0 := by kernel_rfl
  g1 := by kernel_rfl
  m1 := by kernel_rfl
  g2 := by kernel_rfl
  m2 := by kernel_rfl
  g3 := by kernel_rfl
  m3 := by kernel_rfl
  g4 := by kernel_rfl
  m4 := by kernel_rfl }
def Tryd.cut_ren : Go.Shelf.Ren := ⟨fun | 145 => 18 | 220 => 34 | 219 => 62 | 217 => 92 | 225 => 93 | 224 => 94 | 267 => 95 | 266 => 108 | 314 => 109 | n => n, fun | 9 => 9 | 4 => 4 | 59 => 48 | 3 => 3 | 5 => 5 | 46 => 71 | 146 => 145 | 51 => 23 | n => n, fun | 1 => 1 | n => n⟩
theorem Tryd.cut : Go.Proofs.Lays.n145 Tryd.prog Tryd.cut_ren := {
  mixed := by kernel_rfl
  f145 := Tryd.func18.trans (congrArg some (by kernel_rfl))
  f217 := Tryd.func92.trans (congrArg some (by kernel_rfl))
  f219 := Tryd.func62.trans (congrArg some (by kernel_rfl))
  f220 := Tryd.func34.trans (congrArg some (by kernel_rfl))
  f224 := Tryd.func94.trans (congrArg some (by kernel_rfl))
  f225 := Tryd.func93.trans (congrArg some (by kernel_rfl))
  f266 := Tryd.func108.trans (congrArg some (by kernel_rfl))
  f267 := Tryd.func95.trans (congrArg some (by kernel_rfl))
  f314 := Tryd.func109.trans (congrArg some (by kernel_rfl))
  t3 := Tryd.underlying3
  a3 := Tryd.isAgg3
  z3 := Tryd.sizeOf3
  v3 := Tryd.zeroValue3
  t4 := Tryd.underlying4
  a4 := Tryd.isAgg4
  z4 := Tryd.sizeOf4
  v4 := Tryd.zeroValue4
  t5 := Tryd.underlying5
  a5 := Tryd.isAgg5
  z5 := Tryd.sizeOf5
  v5 := Tryd.zeroValue5
  t9 := Tryd.underlying9
  a9 := Tryd.isAgg9
  z9 := Tryd.sizeOf9
  v9 := Tryd.zeroValue9
  t46 := Tryd.underlying71
  a46 := Tryd.isAgg71
  z46 := Tryd.sizeOf71
  v46 := Tryd.zeroValue71
  t51 := Tryd.underlying23
  a51 := Tryd.isAgg23
  z51 := Tryd.sizeOf23
  v51 := Tryd.zeroValue23
  t59 := Tryd.underlying48
  a59 := Tryd.isAgg48
  z59 := Tryd.sizeOf48
  v59 := Tryd.zeroValue48
  t146 := Tryd.underlying145
  a146 := Tryd.isAgg145
  z146 := Tryd.sizeOf145
  v146 := Tryd.zeroValue145
  g1 := by kernel_rfl }
def Tryd.small_ren : Go.Shelf.Ren := ⟨fun | 283 => 58 | n => n, fun | 3 => 3 | 9 => 9 | 4 => 4 | n => n, fun | n => n⟩
theorem Tryd.small : Go.Proofs.Lays.n283 Tryd.prog Tryd.small_ren := {
  mixed := by kernel_rfl
  f283 := Tryd.func58.trans (congrArg some (by kernel_rfl))
  t3 := Tryd.underlying3
  a3 := Tryd.isAgg3
  z3 := Tryd.sizeOf3
  v3 := Tryd.zeroValue3
  t4 := Tryd.underlying4
  a4 := Tryd.isAgg4
  z4 := Tryd.sizeOf4
  v4 := Tryd.zeroValue4
  t9 := Tryd.underlying9
  a9 := Tryd.isAgg9
  z9 := Tryd.sizeOf9
  v9 := Tryd.zeroValue9 }
def Tryd.ndig_ren : Go.Shelf.Ren := ⟨fun | 284 => 59 | 129 => 88 | 317 => 87 | 318 => 89 | n => n, fun | 53 => 34 | 3 => 3 | 212 => 121 | 0 => 0 | 4 => 4 | 46 => 71 | 5 => 5 | 9 => 9 | n => n, fun | 17 => 0 | n => n⟩
theorem Tryd.ndig : Go.Proofs.LaysM.n284 Tryd.prog Tryd.ndig_ren := {
  mixed := by kernel_rfl
  f129 := Tryd.func88.trans (congrArg some (by kernel_rfl))
  f284 := Tryd.func59.trans (congrArg some (by kernel_rfl))
  f317 := Tryd.func87.trans (congrArg some (by kernel_rfl))
  f318 := Tryd.func89.trans (congrArg some (by kernel_rfl))
  t0 := Tryd.underlying0
  a0 := Tryd.isAgg0
  z0 := Tryd.sizeOf0
  v0 := Tryd.zeroValue0
  t3 := Tryd.underlying3
  a3 := Tryd.isAgg3
  z3 := Tryd.sizeOf3
  v3 := Tryd.zeroValue3
  t4 := Tryd.underlying4
  a4 := Tryd.isAgg4
  z4 := Tryd.sizeOf4
  v4 := Tryd.zeroValue4
  t5 := Tryd.underlying5
  a5 := Tryd.isAgg5
  z5 := Tryd.sizeOf5
  v5 := Tryd.zeroValue5
  t9 := Tryd.underlying9
  a9 := Tryd.isAgg9
  z9 := Tryd.sizeOf9
  v9 := Tryd.zeroValue9
  t46 := Tryd.underlying71
  a46 := Tryd.isAgg71
  z46 := Tryd.sizeOf71
  v46 := Tryd.zeroValue71
  t53 := Tryd.underlying34
  a53 := Tryd.isAgg34
  z53 := Tryd.sizeOf34
  v53 := Tryd.zeroValue34
  t212 := Tryd.underlying121
  a212 := Tryd.isAgg121
  z212 := Tryd.sizeOf121
  v212 := Tryd.zeroValue121
  g17 := by kernel_rfl
  i0 := by kernel_rfl
  i3 := by kernel_rfl
  i4 := by kernel_rfl
  i5 := by kernel_rfl
  i9 := by kernel_rfl
  i46 := by kernel_rfl
  i53 := by kernel_rfl
  i212 := by kernel_rfl
  m17 := by kernel_rfl }
def Tryd.fmtb_ren : Go.Shelf.Ren := ⟨fun | 285 => 60 | n => n, fun | 37 => 35 | 53 => 34 | 3 => 3 | 4 => 4 | 51 => 23 | 9 => 9 | 5 => 5 | 0 => 0 | n => n, fun | n => n⟩
theorem Tryd.fmtb : Go.Proofs.Lays.n285 Tryd.prog Tryd.fmtb_ren := {
  mixed := by kernel_rfl
  f285 := Tryd.func60.trans (congrArg some (by kernel_rfl))
  t0 := Tryd.underlying0
  a0 := Tryd.isAgg0
  z0 := Tryd.sizeOf0
  v0 := Tryd.zeroValue0
  t3 := Tryd.underlying3
  a3 := Tryd.isAgg3
  z3 := Tryd.sizeOf3
  v3 := Tryd.zeroValue3
  t4 := Tryd.underlying4
  a4 := Tryd.isAgg4
  z4 := Tryd.sizeOf4
  v4 := Tryd.zeroValue4
  t5 := Tryd.underlying5
  a5 := Tryd.isAgg5
  z5 := Tryd.sizeOf5
  v5 := Tryd.zeroValue5
  t9 := Tryd.underlying9
  a9 := Tryd.isAgg9
  z9 := Tryd.sizeOf9
  v9 := Tryd.zeroValue9
  t37 := Tryd.underlying35
  a37 := Tryd.isAgg35
  z37 := Tryd.sizeOf35
  v37 := Tryd.zeroValue35
  t51 := Tryd.underlying23
  a51 := Tryd.isAgg23
  z51 := Tryd.sizeOf23
  v51 := Tryd.zeroValue23
  t53 := Tryd.underlying34
  a53 := Tryd.isAgg34
  z53 := Tryd.sizeOf34
  v53 := Tryd.zeroValue34 }
end Go.Proofs

namespace Go.Proofs.YtppapeoainafbaaDoor
open Go.RowKit
/-! ### texts of processes, in plain words -/
abbrev Str := List UInt8
def dgOk (c : UInt8) : Prop := 48 ≤ c.toNat ∧ c.toNat ≤ 57
def valFrom (n : Nat) (s : Str) : Nat := s.foldl (fun n c => n * 10 + (c.toNat - 48)) n
theorem dgChar {d : Nat} (h : d < 10) : (UInt8.ofNat (48 + d)).toNat = 48 + d := by
  simp [UInt8.toNat_ofNat']; omega
theorem dec_ok (u : Nat) : ∀ c ∈ Lib.decDigits u, dgOk c := by
  induction u using Nat.strongRecOn with
  | _ u ih =>
    intro c hc
    rw [Lib.decDigits] at hc
    by_cases h : u < 10
    · rw [dif_pos h] at hc
      have := List.mem_singleton.1 hc
      subst this
      unfold dgOk; rw [dgChar h]; omega
    · rw [dif_neg h] at hc
      rcases List.mem_append.1 hc with hc | hc
      · exact ih (u / 10) (by omega) c hc
      · have := List.mem_singleton.1 hc
        subst this
        unfold dgOk; rw [dgChar (by omega)]; omega
theorem dec_val (u : Nat) : valFrom 0 (Lib.decDigits u) = u := by
  induction u using Nat.strongRecOn with
  | _ u ih =>
    rw [Lib.decDigits]
    by_cases h : u < 10
    · rw [dif_pos h]
      show 0 * 10 + ((UInt8.ofNat (48 + u)).toNat - 48) = u
      rw [dgChar h]; omega
    · rw [dif_neg h]
      unfold valFrom at ih ⊢
      rw [List.foldl_append, ih (u / 10) (by omega)]
      show u / 10 * 10 + ((UInt8.ofNat (48 + u % 10)).toNat - 48) = u
      rw [dgChar (by omega)]; omega
theorem dec_ne (u : Nat) : Lib.decDigits u ≠ [] := by
  rw [Lib.decDigits]
  split
  · simp
  · simp
theorem dec_len (u k : Nat) (h : u < 10 ^ (k + 1)) : (Lib.decDigits u).length ≤ k + 1 := by
  induction k generalizing u with
  | zero => rw [Lib.decDigits, dif_pos (by simpa using h)]; simp
  | succ k ih =>
    rw [Lib.decDigits]
    split
    · simp
    · rw [List.length_append]
      have := ih (u / 10) (by rw [Nat.div_lt_iff_lt_mul (by omega)]; rw [Nat.pow_succ] at h; exact h)
      simp; omega
theorem val_ge : ∀ (s : Str) (n : Nat), n ≤ valFrom n s
  | [], n => Nat.le_refl _
  | c :: r, n => by
    have := val_ge r (n * 10 + (c.toNat - 48))
    show n ≤ valFrom (n * 10 + (c.toNat - 48)) r
    omega
theorem parse_dig (M : Nat) (hM : M < 18446744073709551616) : ∀ (s : Str) (n : Nat), (∀ c ∈ s, dgOk c) → valFrom n s ≤ M → Lib.parseUintM M n s = .ok (valFrom n s)
  | [], n, _, _ => rfl
  | c :: r, n, hd, hv => by
    have hc : 48 ≤ c.toNat ∧ c.toNat ≤ 57 := hd c (List.mem_cons_self ..)
    have h1 : valFrom n (c :: r) = valFrom (n * 10 + (c.toNat - 48)) r := rfl
    rw [h1] at hv ⊢
    have h2 := val_ge r (n * 10 + (c.toNat - 48))
    unfold Lib.parseUintM
    rw [if_pos hc, if_neg (by omega), if_neg (by omega)]
    exact parse_dig M hM r _ (fun x hx => hd x (List.mem_cons_of_mem _ hx)) hv
theorem parseB_dec {B u : Nat} (hB : B ≤ 64) (h : u ≤ 2 ^ B - 1) : Lib.parseUintB B (Lib.decDigits u) = .ok u := by
  unfold Lib.parseUintB
  rw [if_neg (dec_ne u)]
  have hp : 2 ^ B ≤ 2 ^ 64 := Nat.pow_le_pow_right (by omega) hB
  have := parse_dig (2 ^ B - 1) (by omega) (Lib.decDigits u) 0 (dec_ok u) (by rw [dec_val]; exact h)
  rw [dec_val] at this
  exact this
/-! the reference's number -/
def numFrom (most n : Nat) : Str → Nat × Bool
  | [] => (n, decide (n ≤ most))
  | c :: r => if c.toNat < 48 ∨ 57 < c.toNat then (0, false) else numFrom most (n * 10 + (c.toNat - 48)) r
def numR (most : Nat) (s : Str) : Nat × Bool := if s = [] ∨ 12 < s.length then (0, false) else numFrom most 0 s
theorem num_dig (most : Nat) : ∀ (s : Str) (n : Nat), (∀ c ∈ s, dgOk c) → numFrom most n s = (valFrom n s, decide (valFrom n s ≤ most))
  | [], n, _ => rfl
  | c :: r, n, hd => by
    have hc := hd c (List.mem_cons_self ..)
    unfold dgOk at hc
    unfold numFrom
    rw [if_neg (by omega)]
    exact num_dig most r _ (fun x hx => hd x (List.mem_cons_of_mem _ hx))
theorem num_le (most : Nat) : ∀ (s : Str) (n : Nat), (numFrom most n s).2 = true → (numFrom most n s).1 ≤ most
  | [], n, h => by simpa [numFrom] using h
  | c :: r, n, h => by
    unfold numFrom at h ⊢
    split at h
    · simp at h
    · rename_i hc; rw [if_neg hc]; exact num_le most r _ h
theorem numR_dec {most u : Nat} (h : u ≤ most) (hl : u < 10 ^ 12) : numR most (Lib.decDigits u) = (u, true) := by
  unfold numR
  rw [if_neg (by
    rintro (e | e)
    · exact dec_ne u e
    · have := dec_len u 11 hl; omega), num_dig most _ 0 (dec_ok u), dec_val]
  simp [h]
theorem numR_le {most : Nat} {s : Str} (h : (numR most s).2 = true) : (numR most s).1 ≤ most := by
  unfold numR at h ⊢
  split at h
  · simp at h
  · rename_i hc; rw [if_neg hc]; exact num_le most _ _ h
/-! cutting at a byte -/
def at1 (c : UInt8) (s : Str) : Nat := s.findIdx fun x => x == c
theorem index_one (c : UInt8) : ∀ s : Str, Lib.index s [c] = if at1 c s < s.length then (at1 c s : Int) else -1
  | [] => by simp [Lib.index, at1]
  | b :: r => by
    have ih := index_one c r
    unfold Lib.index
    unfold at1 at ih ⊢
    rw [List.findIdx_cons]
    by_cases h : b = c
    · subst h
      simp [List.isPrefixOf]
    · have h1 : ([c].isPrefixOf (b :: r)) = false := by simp [List.isPrefixOf]; exact fun e => h e.symm
      have h2 : (b == c) = false := by simpa using h
      rw [if_neg (by rw [h1]; decide), ih, h2]
      simp only [cond_false, List.length_cons]
      by_cases h3 : List.findIdx (fun x => x == c) r < r.length
      · rw [if_pos h3, if_neg (by simp), if_pos (by omega)]; simp
      · rw [if_neg h3, if_pos (by decide), if_neg (by omega)]
theorem cut_one (c : UInt8) (s : Str) : Lib.cut s [c] = if at1 c s < s.length then (s.take (at1 c s), s.drop (at1 c s + 1), true) else (s, [], false) := by
  unfold Lib.cut
  rw [index_one]
  by_cases h : at1 c s < s.length
  · rw [if_pos h, if_pos h, if_pos (by omega)]; first | rfl | simp
  · rw [if_neg h, if_neg h, if_neg (by omega)]
theorem at1_app {c : UInt8} {a b : Str} (h : c ∉ a) : at1 c (a ++ c :: b) = a.length := by
  unfold at1
  rw [List.findIdx_append]
  have : ¬ List.findIdx (fun x => x == c) a < a.length := by
    intro hlt
    have := List.findIdx_getElem (w := hlt)
    have e : a[List.findIdx (fun x => x == c) a] = c := by simpa using this
    exact h (e ▸ List.getElem_mem hlt)
  rw [if_neg this]
  have : List.findIdx (fun x => x == c) (c :: b) = 0 := by rw [List.findIdx_cons]; simp
  rw [this]; simp
theorem cut_app {c : UInt8} {a b : Str} (h : c ∉ a) : Lib.cut (a ++ c :: b) [c] = (a, b, true) := by
  rw [cut_one, at1_app h, if_pos (by simp)]
  simp
/-! processes -/
def printP (p : Pid) : Str := Lib.decDigits p.1.toNat ++ 46 :: Lib.decDigits p.2.toNat
def pick2 (x y : Nat) (s : Str) : Option Pid := if printP ((x : Int), (y : Int)) = s then some ((x : Int), (y : Int)) else none
def parseP (s : Str) : Option Pid :=
  match Lib.parseUintB 16 (Lib.cut s [46]).1, Lib.parseUintB 32 (Lib.cut s [46]).2.1 with
  | .ok x, .ok y => pick2 x y s
  | _, _ => none
def refParseP (s : Str) : Option Pid :=
  if at1 46 s < s.length then
    if (numR 65535 (s.take (at1 46 s))).2 = true ∧ (numR 4294967295 (s.drop (at1 46 s + 1))).2 = true then pick2 (numR 65535 (s.take (at1 46 s))).1 (numR 4294967295 (s.drop (at1 46 s + 1))).1 s else none
  else none
theorem no_dot (u : Nat) : (46 : UInt8) ∉ Lib.decDigits u := fun h => by
  have := dec_ok u _ h
  unfold dgOk at this
  simp at this
theorem parse_print {x y : Nat} (hx : x ≤ 65535) (hy : y ≤ 4294967295) : parseP (printP ((x : Int), (y : Int))) = some ((x : Int), (y : Int)) := by
  have hc : Lib.cut (printP ((x : Int), (y : Int))) [46] = (Lib.decDigits x, Lib.decDigits y, true) := by
    unfold printP
    simp only [Int.toNat_natCast]
    exact cut_app (no_dot x)
  unfold parseP
  rw [hc]
  simp only [parseB_dec (B := 16) (by omega) (show x ≤ 2 ^ 16 - 1 by omega), parseB_dec (B := 32) (by omega) (show y ≤ 2 ^ 32 - 1 by omega)]
  unfold pick2
  rw [if_pos rfl]
theorem refParse_print {x y : Nat} (hx : x ≤ 65535) (hy : y ≤ 4294967295) : refParseP (printP ((x : Int), (y : Int))) = some ((x : Int), (y : Int)) := by
  have e : printP ((x : Int), (y : Int)) = Lib.decDigits x ++ 46 :: Lib.decDigits y := by unfold printP; simp
  have ha : at1 46 (printP ((x : Int), (y : Int))) = (Lib.decDigits x).length := by rw [e]; exact at1_app (no_dot x)
  have ht : (printP ((x : Int), (y : Int))).take (Lib.decDigits x).length = Lib.decDigits x := by rw [e]; simp
  have hd : (printP ((x : Int), (y : Int))).drop ((Lib.decDigits x).length + 1) = Lib.decDigits y := by rw [e]; simp
  unfold refParseP
  rw [ha, ht, hd, if_pos (by rw [e]; simp), numR_dec hx (by omega), numR_dec hy (by omega), if_pos ⟨rfl, rfl⟩]
  unfold pick2
  rw [if_pos rfl]
theorem pick_some {x y : Nat} {s : Str} {p : Pid} (h : pick2 x y s = some p) : p = ((x : Int), (y : Int)) ∧ s = printP ((x : Int), (y : Int)) := by
  unfold pick2 at h
  split at h
  · rename_i e; cases h; exact ⟨rfl, e.symm⟩
  · cases h
theorem parse_some {s : Str} {p : Pid} (h : parseP s = some p) : ∃ x y : Nat, x ≤ 65535 ∧ y ≤ 4294967295 ∧ p = ((x : Int), (y : Int)) ∧ s = printP ((x : Int), (y : Int)) := by
  unfold parseP at h
  split at h
  · rename_i x y hx hy
    obtain ⟨h1, h2⟩ := pick_some h
    have h3 := Lib.parseUintB_le hx
    have h4 := Lib.parseUintB_le hy
    exact ⟨x, y, by omega, by omega, h1, h2⟩
  · cases h
theorem refParse_some {s : Str} {p : Pid} (h : refParseP s = some p) : ∃ x y : Nat, x ≤ 65535 ∧ y ≤ 4294967295 ∧ p = ((x : Int), (y : Int)) ∧ s = printP ((x : Int), (y : Int)) := by
  unfold refParseP at h
  split at h
  · split at h
    · rename_i hc
      obtain ⟨h1, h2⟩ := pick_some h
      exact ⟨_, _, numR_le hc.1, numR_le hc.2, h1, h2⟩
    · cases h
  · cases h
theorem parse_eq (s : Str) : parseP s = refParseP s := by
  cases h : parseP s with
  | some p =>
    obtain ⟨x, y, hx, hy, rfl, rfl⟩ := parse_some h
    exact (refParse_print hx hy).symm
  | none =>
    cases h2 : refParseP s with
    | none => rfl
    | some p =>
      obtain ⟨x, y, hx, hy, rfl, rfl⟩ := refParse_some h2
      rw [parse_print hx hy] at h
      cases h
end Go.Proofs.YtppapeoainafbaaDoor

namespace Go.Proofs.YtppapeoainafbaaDoor
open Go.RowKit
/-! ### strconv.FormatUint and the reference's Digits -/
def TabOk (w : World) : Prop := Lib.TabIs Tryd.prog w "internal/strconv.uint64pow10" .u64 Lib.pow10Tab
theorem TabOk.ext {w w' : World} (h : TabOk w) (hb : Below w.heap.size w w') : TabOk w' := by
  have h0 := h
  unfold TabOk Lib.TabIs World.var? at h ⊢
  cases hg : Tryd.prog.globalNamed "internal/strconv.uint64pow10" with
  | none => simp [hg] at h
  | some g =>
    simp only [hg, Option.bind_some] at h ⊢
    cases hk : w.heap[g]? with
    | none => simp [hk] at h
    | some o =>
      have hlt : g < w.heap.size := (Array.getElem?_eq_some_iff.1 hk).1
      rw [hb.block g hlt]
      exact h
theorem small_any (i : Nat) (h : i < 100) (w : World) : Calls Tryd.prog 58 #[.int .i64 i] w fun e w' => e = .returned (.string ⟨(Lib.decDigits i).toArray⟩) ∧ w' = w := Any.internal_strconv_small Tryd.small i h w
theorem ndig_any (u : Nat) (h1 : 1 ≤ u) (h2 : u < 18446744073709551616) (w : World) (ht : TabOk w) : Calls Tryd.prog 59 #[.int .u64 u] w fun e w' => e = .returned (.int .i64 (Lib.nDigits u)) ∧ w' = w := Any.internal_strconv_numDigits Tryd.ndig u h1 h2 w ht
theorem fmtb_any (blk off cap u : Nat) (d : Array UInt8) (w : World) (hH : Go.Sort.Holds (fun (b : UInt8) => Value.int .u8 (b.toNat : Int)) w blk off d) (hu : u < 10 ^ d.size) (hu64 : u < 18446744073709551616) (hsz : d.size < 4611686018427387904) :
    Calls Tryd.prog 60 #[.slice (some ⟨blk, off, none⟩) d.size cap, .int .u64 u] w fun e w' =>
      e = .returned (.tuple #[]) ∧ ∃ (n v' : Nat) (dk : Array UInt8), w' = (Go.Sort.putRow (fun (b : UInt8) => Value.int .u8 (b.toNat : Int)) w blk off dk).drewN n ∧ Lib.FmtInv d.size u 0 v' dk := Any.internal_strconv_formatBase10 Tryd.fmtb blk off cap u d w hH hu hu64 hsz
set_option maxHeartbeats 3200000 in
set_option maxRecDepth 100000 in
theorem fmtI_any (u : Nat) (hu64 : u < 18446744073709551616) (w : World) (ht : TabOk w) :
    Calls Tryd.prog 33 #[.int .u64 u, .int .i64 10] w fun e w' => e = .returned (.string ⟨(Lib.decDigits u).toArray⟩) ∧ Below w.heap.size w w' := by
  by_cases hs : u < 100
  · have C1 := Lib.hid (small_any u hs w)
    have i1 : (u : Int) < 100 := by omega
    have i2 : decide ((u : Int) < 100) = true := decide_eq_true i1
    have i3 : IntKind.i64.wrap (u : Int) = u := by rw [IntKind.wrap_i64] <;> omega
    go_enter Tryd.func33, Tryd.ntmps33
    go_wp2_with fail
    (with_reducible refine C1.out.mono ?_)
    rintro e w3 ⟨rfl, rfl⟩
    go_wp2
    go_ret
    exact ⟨rfl, Below.refl _ _⟩
  · have hu1 : 1 ≤ u := by omega
    have i1 : ¬ (u : Int) < 100 := by omega
    have i2 : decide ((u : Int) < 100) = false := decide_eq_false i1
    have hnd20 : Lib.nDigits u ≤ 20 := by have := Lib.numDigits_eq u hu1 hu64; split at this <;> omega
    have hal : Tryd.prog.arrayLen 93 = 24 := by kernel_rfl
    have hsl : ∀ W, (Instr.sliceAt 93 (.pointer (some ⟨w.heap.size, 0, none⟩)) none (some (.int .i64 (Lib.nDigits u : Int))) none).run Tryd.prog W = .ok (.slice (some ⟨w.heap.size, 0, none⟩) (Lib.nDigits u) 24) W := fun W => by
      rw [run_sliceAt_array_h W 93 ⟨w.heap.size, 0, none⟩ (by kernel_rfl) .i64 (Lib.nDigits u : Int) (by omega) (by rw [hal]; omega)]
      rw [hal]
      go_simp
    have hH0 := Lib.holds_zero0 w 93 (Lib.nDigits u) (by omega)
    have hfmt := fmtb_any w.heap.size 0 24 u (Array.replicate (Lib.nDigits u) 0) (w.alloc (.cells Lib.zeros24 93)) hH0 (by rw [Array.size_replicate]; exact Lib.lt_pow_nDigits u) hu64 (by rw [Array.size_replicate]; omega)
    rw [Array.size_replicate] at hfmt
    have HH0 := Lib.hid hH0
    have HF := Lib.hid hfmt
    have C1 := Lib.hid (ndig_any u hu1 hu64 (w.alloc (.cells Lib.zeros24 93)) (ht.ext ((Below.refl _ _).alloc (Nat.le_refl _) _)))
    clear hH0 hal hfmt
    go_enter Tryd.func33, Tryd.ntmps33
    go_wp2_with fail
    (refine C1.out.mono ?_)
    rintro e w3 ⟨rfl, rfl⟩
    go_wp2_with fail
    (refine HF.out.mono ?_)
    rintro e w3 ⟨rfl, k, v', dk, rfl, hF⟩
    have hcv : (convert 35 9 (.slice (some ⟨w.heap.size, 0, none⟩) (Lib.nDigits u) 24)).run Tryd.prog ((Go.Sort.putRow (fun (b : UInt8) => Value.int .u8 (b.toNat : Int)) (w.alloc (.cells Lib.zeros24 93)) w.heap.size 0 dk).drewN k) = .ok (.string ⟨(Lib.decDigits u).toArray⟩) ((Go.Sort.putRow (fun (b : UInt8) => Value.int .u8 (b.toNat : Int)) (w.alloc (.cells Lib.zeros24 93)) w.heap.size 0 dk).drewN k) := by
      have h := run_convert_bytes_back (P := Tryd.prog) ((Go.Sort.putRow (fun (b : UInt8) => Value.int .u8 (b.toNat : Int)) (w.alloc (.cells Lib.zeros24 93)) w.heap.size 0 dk).drewN k) 35 9 5 ⟨w.heap.size, 0, none⟩ 24 (Lib.decDigits u) Tryd.underlying35 Tryd.underlying5 Tryd.underlying9 (fun j hj => by
        rw [Lib.row_is_numeral hF j hj, Lib.add_plain, World.cell?_drewN]
        exact Go.Sort.cell?_putRow (fun (b : UInt8) => Value.int .u8 (b.toNat : Int)) _ w.heap.size 0 _ dk HH0.out (by rw [hF.size, Array.size_replicate]) j (by rw [hF.size]; rw [Lib.decDigits_length] at hj; exact hj))
      rw [Lib.decDigits_length] at h
      exact h
    go_wp2
    go_ret
    obtain ⟨os, eo⟩ := Lib.fin_at w (.cells Lib.zeros24 93) dk k 0
    exact ⟨rfl, by rw [eo]; exact Lib.below_grow w.heap.size w (Nat.le_refl _) k os⟩
theorem fmt_any (u : Nat) (hu64 : u < 18446744073709551616) (w : World) (ht : TabOk w) :
    Calls Tryd.prog 17 #[.int .u64 u, .int .i64 10] w fun e w' => e = .returned (.string ⟨(Lib.decDigits u).toArray⟩) ∧ Below w.heap.size w w' := by
  have C1 := Lib.hid (fmtI_any u hu64 w ht)
  go_enter Tryd.func17, Tryd.ntmps17
  go_wp2_with fail
  (refine C1.out.mono ?_)
  rintro e w3 ⟨rfl, hb⟩
  have HB := Lib.hid hb
  clear hb
  go_wp2
  go_ret
  exact ⟨rfl, HB.out⟩
end Go.Proofs.YtppapeoainafbaaDoor

namespace Go.Proofs.YtppapeoainafbaaDoor
open Go.RowKit
open Go.Instr Go.MapKept

def bornOk (es : Array MapEntry) (clock : Nat) : Prop := (es.toList.map (·.born)).Nodup ∧ ∀ e ∈ es.toList, e.born < clock

def MapIs {α β : Type} (w : World) (r : Nat) (ke : α → Value) (ve : β → Value) (L : List (α × β)) : Prop :=
  ∃ es clock, w.heap[r]? = some (.map es clock) ∧ es.toList.map (fun e => (e.key, e.val)) = L.map (fun p => (ke p.1, ve p.2)) ∧ bornOk es clock

section
set_option linter.unusedSectionVars false
variable {α β : Type} [DecidableEq α] {ke : α → Value} {ve : β → Value} {P : Program} {K : TypeId}

theorem MapIs.lt {w : World} {r : Nat} {L : List (α × β)} (h : MapIs w r ke ve L) : r < w.heap.size := by
  obtain ⟨es, clock, hb, _⟩ := h
  exact (Array.getElem?_eq_some_iff.1 hb).1
theorem MapIs.same {w w' : World} {r : Nat} {L : List (α × β)} (h : MapIs w r ke ve L) (hb : w'.heap[r]? = w.heap[r]?) : MapIs w' r ke ve L := by
  obtain ⟨es, clock, h1, h2⟩ := h
  exact ⟨es, clock, hb.trans h1, h2⟩
theorem MapIs.ext {w w' : World} {r : Nat} {L : List (α × β)} (h : MapIs w r ke ve L) (hb : Below w.heap.size w w') : MapIs w' r ke ve L :=
  h.same (hb.block _ h.lt)
theorem MapIs.alloc {w : World} {r : Nat} {L : List (α × β)} (h : MapIs w r ke ve L) (o : Obj) : MapIs (w.alloc o) r ke ve L :=
  h.ext ((Below.refl _ _).alloc (Nat.le_refl _) _)
theorem MapIs.setCell {w : World} {r : Nat} {L : List (α × β)} (h : MapIs w r ke ve L) {p : Addr} (hp : r ≠ p.block) (u : Value) : MapIs (w.setCell p u) r ke ve L :=
  h.same (Below.heap_setCell _ _ _ _ hp)
/-- w' is w but for block r -/
structure But (r : Nat) (w w' : World) : Prop where
  os : w'.os = w.os
  tape : w'.tape = w.tape
  output : w'.output = w.output
  size : w'.heap.size = w.heap.size
  block : ∀ k, k ≠ r → w'.heap[k]? = w.heap[k]?
theorem But.below {r B : Nat} {w w' : World} (h : But r w w') (hB : B ≤ r) : Below B w w' :=
  ⟨h.os, h.tape, h.output, by rw [h.size]; exact Nat.le_refl _, fun k hk => h.block k (by omega)⟩
theorem But.cell {r : Nat} {w w' : World} (h : But r w w') {p : Addr} (hp : p.block ≠ r) : w'.cell? p = w.cell? p := World.cell?_of_block (w := w) (h.block p.block hp)
end

abbrev eU : Unit → Value := fun _ => .agg #[]
/-! ### the two key types -/
abbrev pidV (p : Pid) : Value := .agg #[.int .u16 p.1, .int .u32 p.2]
end Go.Proofs.YtppapeoainafbaaDoor

namespace Go.Proofs.YtppapeoainafbaaDoor
open Go.RowKit

/-- the set behind a pointer: its box at block s holds the map in block r -/
structure SetIs (w : World) (s r : Nat) (L : List (Pid × Unit)) : Prop where
  box : w.cell? ⟨s, 0, none⟩ = some (.map (some r))
  map : MapIs w r pidV eU L
theorem SetIs.lt {w : World} {s r : Nat} {L : List (Pid × Unit)} (h : SetIs w s r L) : s < w.heap.size := World.block_lt_of_cell? w _ h.box
theorem SetIs.ext {w w' : World} {s r : Nat} {L : List (Pid × Unit)} (h : SetIs w s r L) (hb : Below w.heap.size w w') : SetIs w' s r L :=
  ⟨by rw [hb.cell (by exact h.lt)]; exact h.box, h.map.ext hb⟩
theorem SetIs.alloc {w : World} {s r : Nat} {L : List (Pid × Unit)} (h : SetIs w s r L) (o : Obj) : SetIs (w.alloc o) s r L := h.ext ((Below.refl _ _).alloc (Nat.le_refl _) _)
theorem SetIs.drew {w : World} {s r : Nat} {L : List (Pid × Unit)} (h : SetIs w s r L) : SetIs w.drew s r L := h.ext (Below.refl _ _).drew

/-- w' is w, grown, but for the blocks of F -/
structure Mut (F : Nat → Prop) (w w' : World) : Prop where
  os : w'.os = w.os
  tape : w'.tape = w.tape
  output : w'.output = w.output
  size : w.heap.size ≤ w'.heap.size
  block : ∀ k, k < w.heap.size → ¬ F k → w'.heap[k]? = w.heap[k]?
theorem Mut.refl (F : Nat → Prop) (w : World) : Mut F w w := ⟨rfl, rfl, rfl, Nat.le_refl _, fun _ _ _ => rfl⟩
theorem Mut.trans {F : Nat → Prop} {a b c : World} (h : Mut F a b) (k : Mut F b c) : Mut F a c :=
  ⟨k.os.trans h.os, k.tape.trans h.tape, k.output.trans h.output, Nat.le_trans h.size k.size, fun i hi hf => (k.block i (Nat.lt_of_lt_of_le hi h.size) hf).trans (h.block i hi hf)⟩
theorem Mut.mono {F G : Nat → Prop} {w w' : World} (h : Mut F w w') (hFG : ∀ k, k < w.heap.size → F k → G k) : Mut G w w' :=
  ⟨h.os, h.tape, h.output, h.size, fun k hk hg => h.block k hk (fun hf => hg (hFG k hk hf))⟩
theorem Mut.below {F : Nat → Prop} {w w' : World} (h : Mut F w w') {B : Nat} (hB : B ≤ w.heap.size) (hF : ∀ k, F k → B ≤ k) : Below B w w' :=
  ⟨h.os, h.tape, h.output, h.size, fun k hk => h.block k (by omega) (fun hf => by have := hF k hf; omega)⟩
theorem Mut.cell {F : Nat → Prop} {w w' : World} (h : Mut F w w') {p : Addr} (hp : p.block < w.heap.size) (hf : ¬ F p.block) : w'.cell? p = w.cell? p := World.cell?_of_block (w := w) (h.block p.block hp hf)

end Go.Proofs.YtppapeoainafbaaDoor

namespace Go.Proofs.YtppapeoainafbaaDoor
open Go.RowKit

def pidCells (xs : List Pid) : List Value := xs.flatMap fun p => [.int .u16 p.1, .int .u32 p.2]
theorem pidCells_length : ∀ (xs : List Pid), (pidCells xs).length = xs.length * 2
  | [] => rfl
  | p :: l => by
    have := pidCells_length l
    unfold pidCells at this ⊢
    simp only [List.flatMap_cons, List.length_append, List.length_cons, List.length_nil, this]
    omega
theorem pidCells_get : ∀ (xs : List Pid) (i : Nat) (h : i < xs.length), (pidCells xs)[i * 2]? = some (.int .u16 xs[i].1) ∧ (pidCells xs)[i * 2 + 1]? = some (.int .u32 xs[i].2)
  | p :: l, 0, _ => by simp [pidCells]
  | p :: l, i + 1, h => by
    have := pidCells_get l i (by simpa using h)
    have e : pidCells (p :: l) = [.int .u16 p.1, .int .u32 p.2] ++ pidCells l := by simp [pidCells]
    rw [e, show (i + 1) * 2 = i * 2 + 2 by omega]
    constructor
    · rw [List.getElem?_append_right (by simp)]
      simpa using this.1
    · rw [List.getElem?_append_right (by simp)]
      simpa using this.2
theorem addr_add (b off n : Nat) : (⟨b, off, none⟩ : Addr).add n = ⟨b, off + n, none⟩ := by
  unfold Addr.add; split <;> simp_all
/-- the cells of a row, one by one -/
theorem PidRow.cells {w : World} {b off : Nat} {xs : List Pid} (hc : ∀ i (h : i < xs.length), w.cell? ⟨b, off + i * 2, none⟩ = some (.int .u16 xs[i].1) ∧ w.cell? ⟨b, off + i * 2 + 1, none⟩ = some (.int .u32 xs[i].2)) :
    ∀ j u, (pidCells xs)[j]? = some u → w.cell? ((⟨b, off, none⟩ : Addr).add j) = some u := by
  intro j u hu
  have hj : j < (pidCells xs).length := (List.getElem?_eq_some_iff.1 hu).1
  rw [pidCells_length] at hj
  rw [addr_add]
  have hi : j / 2 < xs.length := by omega
  obtain ⟨h1, h2⟩ := hc (j / 2) hi
  obtain ⟨g1, g2⟩ := pidCells_get xs (j / 2) hi
  rcases Nat.mod_two_eq_zero_or_one j with hm | hm
  · have e : j / 2 * 2 = j := by omega
    rw [e] at h1 g1
    rw [h1, ← g1, hu]
  · have e : j / 2 * 2 + 1 = j := by omega
    rw [e] at g2
    rw [show off + j = off + j / 2 * 2 + 1 by omega, h2, ← g2, hu]

/-- a slice value that owns a row of processes, from block base on -/
def OwnP (w : World) (base : Nat) (v : Value) (xs : List Pid) : Prop := w.ownsRow base 25 2 v xs.length (pidCells xs)
theorem OwnP.row {w : World} {base : Nat} {v : Value} {xs : List Pid} (h : OwnP w base v xs) : ∃ a c, v = .slice a xs.length c ∧ PidRow w a xs ∧ ∀ b off, a = some ⟨b, off, none⟩ → base ≤ b := by
  have hcells := fun g => World.ownsRow.cells (g := g) h
  rcases h.2 with ⟨rfl, hn⟩ | ⟨g, cap, cur, rfl, hb, hg, hnc, hcm, hcs, htake⟩
  · exact ⟨none, 0, by rw [hn], .inl (List.length_eq_zero_iff.1 hn), by simp⟩
  · refine ⟨_, cap, rfl, .inr ⟨g, 0, rfl, (Array.getElem?_eq_some_iff.1 hg).1, fun i hi => ?_⟩, fun b off e => by cases e; exact hb⟩
    obtain ⟨g1, g2⟩ := pidCells_get xs i hi
    have h1 := hcells g rfl _ _ g1
    have h2 := hcells g rfl _ _ g2
    rw [addr_add] at h1 h2
    exact ⟨h1, h2⟩
theorem OwnP.ext {w w' : World} {base : Nat} {v : Value} {xs : List Pid} (h : OwnP w base v xs) (hb : Below w.heap.size w w') : OwnP w' base v xs := by
  refine ⟨h.1, ?_⟩
  rcases h.2 with hn | ⟨g, cap, cur, rfl, hbb, hgg, rest⟩
  · exact .inl hn
  · exact .inr ⟨g, cap, cur, rfl, hbb, (hb.block g (Array.getElem?_eq_some_iff.1 hgg).1).trans hgg, rest⟩

end Go.Proofs.YtppapeoainafbaaDoor

namespace Go.Proofs.YtppapeoainafbaaDoor
open Go.RowKit

theorem PidRow.one (w : World) (x y : Int) : PidRow (w.alloc (.cells #[.int .u16 x, .int .u32 y] 25)) (some ⟨w.heap.size, 0, none⟩) [(x, y)] :=
  .inr ⟨_, 0, rfl, by simp, fun i hi => by
    have : i = 0 := by simpa using hi
    subst this
    exact ⟨by simp, by simp⟩⟩
theorem PidRow.drew {w : World} {a : Option Addr} {xs : List Pid} (h : PidRow w a xs) : PidRow w.drew a xs := h.ext (Below.refl _ _).drew

/-- a view in a box of its own -/
structure ViewBox (w : World) (b : Nat) (V : View) (am al ad : Option Addr) (cm cl cd : Nat) : Prop where
  c0 : w.cell? ⟨b, 0, none⟩ = some (.int .u64 V.id)
  c1 : w.cell? ⟨b, 1, none⟩ = some (.slice am V.ms.length cm)
  c2 : w.cell? ⟨b, 2, none⟩ = some (.slice al V.ls.length cl)
  c3 : w.cell? ⟨b, 3, none⟩ = some (.slice ad V.ds.length cd)
section
variable {w w' : World} {b : Nat} {V : View} {am al ad : Option Addr} {cm cl cd : Nat}
theorem ViewBox.lt (h : ViewBox w b V am al ad cm cl cd) : b < w.heap.size := World.block_lt_of_cell? w _ h.c0
theorem ViewBox.ext (h : ViewBox w b V am al ad cm cl cd) {B : Nat} (hb : Below B w w') (hB : b < B) : ViewBox w' b V am al ad cm cl cd :=
  ⟨by rw [hb.cell (by exact hB)]; exact h.c0, by rw [hb.cell (by exact hB)]; exact h.c1, by rw [hb.cell (by exact hB)]; exact h.c2, by rw [hb.cell (by exact hB)]; exact h.c3⟩
end
theorem ViewR.of (w : World) {am al ad : Option Addr} {V : View} (h : ViewR w am al ad V) (o : Obj) : ViewR (w.alloc o) am al ad V := h.ext ((Below.refl _ _).alloc (Nat.le_refl _) _)

end Go.Proofs.YtppapeoainafbaaDoor

namespace Go.Proofs.YtppapeoainafbaaDoor
open Go.RowKit

/-- w, grown -/
structure ExtW (w : World) where
  W : World
  h : Below w.heap.size w W
instance extW_some (w : World) : Nonempty (ExtW w) := ⟨⟨w, Below.refl _ _⟩⟩
theorem wp_region_ext {P : Program} {w wr : World} {id : Nat} {Q : Exit → Act → World → Prop} {a : Act} {l : List Oper} (hb : Below w.heap.size w wr) (hm : P.follows .mixedOrders = true) (hB : Region.lexB .any l.toArray = true)
    (h : wpQuiet P l.toArray (fun w' => ∃ U : ExtW w, w' = U.W) (fun a' => ∀ w', (∃ U : ExtW w, w' = U.W) → Q .normal a' w') l a) : (Code.region id l.toArray true).wp P Q a wr :=
  wp_region_quiet (C := fun w' => ∃ U : ExtW w, w' = U.W) hm hB ⟨⟨wr.drew, hb.drew⟩, rfl⟩ (by simpa using h)
end Go.Proofs.YtppapeoainafbaaDoor

namespace Go.Proofs.YtppapeoainafbaaDoor
open Go.RowKit
/-! ### Digits of the reference, Print of both -/
theorem run_dig (n : Nat) (h : n < 10) (W : World) : (Instr.slice 9 (.string ⟨#[48, 49, 50, 51, 52, 53, 54, 55, 56, 57]⟩) (some (.int .u64 (n : Int))) (some (.int .u64 ((n : Int) + 1))) none).run Tryd.prog W = .ok (.string ⟨(Lib.decDigits n).toArray⟩) W := by
  have hz : (⟨#[48, 49, 50, 51, 52, 53, 54, 55, 56, 57]⟩ : ByteArray).size = 10 := rfl
  rw [run_slice_string W 9 _ .u64 .u64 _ _ Tryd.underlying9 (by omega) (by omega) (by rw [hz]; omega), show ((n : Int)).toNat = n by omega, show ((n : Int) + 1).toNat = n + 1 by omega]
  congr 2
  rw [Lib.decDigits_one h]
  have : n = 0 ∨ n = 1 ∨ n = 2 ∨ n = 3 ∨ n = 4 ∨ n = 5 ∨ n = 6 ∨ n = 7 ∨ n = 8 ∨ n = 9 := by omega
  rcases this with rfl | rfl | rfl | rfl | rfl | rfl | rfl | rfl | rfl | rfl <;> first | rfl | decide +kernel
theorem cell_extY {w : World} {a : Addr} {v : Value} (h : w.cell? a = some v) : ∀ U : ExtW w, U.W.cell? a = some v := fun U => (U.h.cell (World.block_lt_of_cell? w _ h)).trans h
theorem run_cat (a b : Str) (ha : a.length ≤ 8000000) (hb : b.length ≤ 8000000) (W : World) : (Op.stringOp .add ⟨a.toArray⟩ ⟨b.toArray⟩).run Tryd.prog W = .ok (.string ⟨(a ++ b).toArray⟩) W :=
  run_string_add_lists W a b (by omega) (by omega)
set_option maxHeartbeats 1600000 in
theorem digits_any (n : Nat) : n < 18446744073709551616 → ∀ w : World, Calls Tryd.prog 21 #[.int .u64 n] w fun e w' => e = .returned (.string ⟨(Lib.decDigits n).toArray⟩) ∧ Below w.heap.size w w' := by
  induction n using Nat.strongRecOn with
  | _ n ih =>
    intro hn w
    by_cases h : n < 10
    · have U := run_dig n h
      have i1 : (n : Int) < 10 := by omega
      have i2 : decide ((n : Int) < 10) = true := decide_eq_true i1
      have i3 : IntKind.u64.wrap ((n : Int) + 1) = (n : Int) + 1 := by rw [IntKind.wrap_u64]; omega
      clear ih
      go_enter Tryd.func21, Tryd.ntmps21
      go_wp2
      go_ret
      exact ⟨rfl, Below.refl _ _⟩
    · have i1 : ¬ (n : Int) < 10 := by omega
      have i2 : decide ((n : Int) < 10) = false := decide_eq_false i1
      have U := run_dig (n % 10) (Nat.mod_lt _ (by omega))
      have e1 : ((n / 10 : Nat) : Int) = (n : Int) / 10 := by omega
      have hl1 := dec_len (n / 10) 19 (by omega)
      have hl2 := dec_len (n % 10) 19 (by omega)
      have hadd := run_cat (Lib.decDigits (n / 10)) (Lib.decDigits (n % 10)) (by omega) (by omega)
      clear hl1 hl2
      have e2 : ((n % 10 : Nat) : Int) = (n : Int) % 10 := by omega
      rw [e2] at U
      have CX : ∀ V : ExtW w, Calls Tryd.prog 21 #[.int .u64 ((n / 10 : Nat) : Int)] V.W fun e w' => e = .returned (.string ⟨(Lib.decDigits (n / 10)).toArray⟩) ∧ ∃ V' : ExtW w, w' = V'.W := fun V => by
        refine (ih (n / 10) (by omega) (by omega) V.W).mono ?_
        rintro e w' ⟨rfl, hb⟩
        exact ⟨rfl, ⟨_, V.h.trans (hb.mono V.h.size)⟩, rfl⟩
      rw [e1] at CX
      have CX := hid CX
      clear ih e1 e2
      go_enter Tryd.func21, Tryd.ntmps21
      go_wp2
      refine wp_region_ext (w := w) (Below.refl _ _) (by kernel_rfl) (by kernel_rfl) ?_
      repeat (go_big_quiet_step (with_reducible exact CX.out _))
      refine wpQuiet_nil ?_
      rintro w9 ⟨⟨_, hb9⟩, rfl⟩
      have HB9 := hid hb9
      have e : Lib.decDigits n = Lib.decDigits (n / 10) ++ Lib.decDigits (n % 10) := by
        rw [Lib.decDigits, dif_neg h, Lib.decDigits_one (Nat.mod_lt _ (by omega))]
      have HE := hid e
      clear hb9 CX U hadd
      go_wp2
      go_ret
      refine ⟨?_, HB9.out⟩
      rw [HE.out]; rfl
theorem printP_len {x y : Nat} (hx : x < 65536) (hy : y < 4294967296) : (Lib.decDigits x).length ≤ 20 ∧ (Lib.decDigits y).length ≤ 20 := ⟨dec_len x 19 (by omega), dec_len y 19 (by omega)⟩
set_option maxHeartbeats 1600000 in
theorem print_any {x y : Nat} (hx : x < 65536) (hy : y < 4294967296) (w : World) (ht : TabOk w) :
    Calls Tryd.prog 6 #[.agg #[.int .u16 x, .int .u32 y]] w fun e w' => e = .returned (.string ⟨(printP ((x : Int), (y : Int))).toArray⟩) ∧ Below w.heap.size w w' := by
  obtain ⟨wr, hwr⟩ : ∃ wr, w.alloc (.cells #[.int .u16 x, .int .u32 y] 25) = wr := ⟨_, rfl⟩
  have hB : Below w.heap.size w wr := by rw [← hwr]; exact (Below.refl _ _).alloc (Nat.le_refl _) _
  have k0 : wr.cell? ⟨w.heap.size, 0, none⟩ = some (.int .u16 x) := by rw [← hwr]; simp
  have k1 : wr.cell? ⟨w.heap.size, 1, none⟩ = some (.int .u32 y) := by rw [← hwr]; simp
  have f0 := cell_extY k0
  have f1 := cell_extY k1
  have CX : ∀ n : Nat, n < 18446744073709551616 → ∀ V : ExtW wr, Calls Tryd.prog 17 #[.int .u64 (n : Int), .int .i64 10] V.W fun e w' => e = .returned (.string ⟨(Lib.decDigits n).toArray⟩) ∧ ∃ V' : ExtW wr, w' = V'.W := fun n hn V => by
    refine (fmt_any n hn V.W ((ht.ext hB).ext V.h)).mono ?_
    rintro e w' ⟨rfl, hb⟩
    exact ⟨rfl, ⟨_, V.h.trans (hb.mono V.h.size)⟩, rfl⟩
  have C0 := hid (CX x (by omega))
  have C1 := hid (CX y (by omega))
  have i0 : IntKind.u64.wrap (x : Int) = x := by rw [IntKind.wrap_u64]; omega
  have i1 : IntKind.u64.wrap (y : Int) = y := by rw [IntKind.wrap_u64]; omega
  obtain ⟨l0, l1⟩ := printP_len hx hy
  have a0 := run_cat (Lib.decDigits x) [46] (by omega) (by simp)
  have a1 := run_cat (Lib.decDigits x ++ [46]) (Lib.decDigits y) (by simp; omega) (by omega)
  have HB := hid hB
  clear l0 l1 hB CX k0 k1
  go_enter Tryd.func6, Tryd.ntmps6
  go_wp2
  clear hwr
  refine wp_region_ext (w := wr) (Below.refl _ _) (by kernel_rfl) (by kernel_rfl) ?_
  repeat (go_big_quiet_step (first | with_reducible exact C0.out _ | with_reducible exact C1.out _))
  refine wpQuiet_nil ?_
  rintro w9 ⟨⟨_, hb9⟩, rfl⟩
  have HB9 := hid (HB.out.trans (hb9.mono HB.out.size))
  clear hb9 C0 C1 a0 a1 f0 f1
  go_wp2
  go_ret
  exact ⟨rfl, HB9.out⟩
set_option maxHeartbeats 1600000 in
theorem refPrint_any {x y : Nat} (hx : x < 65536) (hy : y < 4294967296) (w : World)  :
    Calls Tryd.prog 9 #[.agg #[.int .u16 x, .int .u32 y]] w fun e w' => e = .returned (.string ⟨(printP ((x : Int), (y : Int))).toArray⟩) ∧ Below w.heap.size w w' := by
  obtain ⟨wr, hwr⟩ : ∃ wr, w.alloc (.cells #[.int .u16 x, .int .u32 y] 25) = wr := ⟨_, rfl⟩
  have hB : Below w.heap.size w wr := by rw [← hwr]; exact (Below.refl _ _).alloc (Nat.le_refl _) _
  have k0 : wr.cell? ⟨w.heap.size, 0, none⟩ = some (.int .u16 x) := by rw [← hwr]; simp
  have k1 : wr.cell? ⟨w.heap.size, 1, none⟩ = some (.int .u32 y) := by rw [← hwr]; simp
  have f0 := cell_extY k0
  have f1 := cell_extY k1
  have CX : ∀ n : Nat, n < 18446744073709551616 → ∀ V : ExtW wr, Calls Tryd.prog 21 #[.int .u64 (n : Int)] V.W fun e w' => e = .returned (.string ⟨(Lib.decDigits n).toArray⟩) ∧ ∃ V' : ExtW wr, w' = V'.W := fun n hn V => by
    refine (digits_any n hn V.W).mono ?_
    rintro e w' ⟨rfl, hb⟩
    exact ⟨rfl, ⟨_, V.h.trans (hb.mono V.h.size)⟩, rfl⟩
  have C0 := hid (CX x (by omega))
  have C1 := hid (CX y (by omega))
  have i0 : IntKind.u64.wrap (x : Int) = x := by rw [IntKind.wrap_u64]; omega
  have i1 : IntKind.u64.wrap (y : Int) = y := by rw [IntKind.wrap_u64]; omega
  obtain ⟨l0, l1⟩ := printP_len hx hy
  have a0 := run_cat (Lib.decDigits x) [46] (by omega) (by simp)
  have a1 := run_cat (Lib.decDigits x ++ [46]) (Lib.decDigits y) (by simp; omega) (by omega)
  have HB := hid hB
  clear l0 l1 hB CX k0 k1
  go_enter Tryd.func9, Tryd.ntmps9
  go_wp2
  clear hwr
  refine wp_region_ext (w := wr) (Below.refl _ _) (by kernel_rfl) (by kernel_rfl) ?_
  repeat (go_big_quiet_step (first | with_reducible exact C0.out _ | with_reducible exact C1.out _))
  refine wpQuiet_nil ?_
  rintro w9 ⟨⟨_, hb9⟩, rfl⟩
  have HB9 := hid (HB.out.trans (hb9.mono HB.out.size))
  clear hb9 C0 C1 a0 a1 f0 f1
  go_wp2
  go_ret
  exact ⟨rfl, HB9.out⟩
end Go.Proofs.YtppapeoainafbaaDoor

namespace Go.Proofs.YtppapeoainafbaaDoor
open Go.RowKit
/-! ### strings.Cut, strconv.ParseUint, pid.Parse -/
theorem var_ext {w w' : World} {name : String} {v : Array Value} (h : w.var? Tryd.prog name = some v) (hb : Below w.heap.size w w') : w'.var? Tryd.prog name = some v := by
  unfold World.var? at h ⊢
  cases hg : Tryd.prog.globalNamed name with
  | none => simp [hg] at h
  | some g =>
    simp only [hg, Option.bind_some] at h ⊢
    cases hk : w.heap[g]? with
    | none => simp [hk] at h
    | some o =>
      have hlt : g < w.heap.size := (Array.getElem?_eq_some_iff.1 hk).1
      rw [hb.block g hlt]
      exact h
/-- what the library's variables hold -/
structure EnvOk (w : World) : Prop where
  tab : TabOk w
  syn : ∃ t p, w.var? Tryd.prog "strconv.ErrSyntax" = some #[.iface t p]
  rng : ∃ t p, w.var? Tryd.prog "strconv.ErrRange" = some #[.iface t p]
  max : ∃ m : Int, w.cell? ⟨Tryd.cut_ren.g 1, 0, none⟩ = some (.int .i64 m)
theorem EnvOk.ext {w w' : World} (h : EnvOk w) (hb : Below w.heap.size w w') : EnvOk w' := by
  obtain ⟨t1, p1, h1⟩ := h.syn
  obtain ⟨t2, p2, h2⟩ := h.rng
  obtain ⟨m, h3⟩ := h.max
  exact ⟨h.tab.ext hb, ⟨t1, p1, var_ext h1 hb⟩, ⟨t2, p2, var_ext h2 hb⟩, ⟨m, (hb.cell (World.block_lt_of_cell? w _ h3)).trans h3⟩⟩
theorem cut_any (s sep : Str) (hs : s.length ≤ 100000) (w : World) (he : EnvOk w) :
    Calls Tryd.prog 18 #[.string ⟨s.toArray⟩, .string ⟨sep.toArray⟩] w fun e w' => e = .returned (.tuple #[.string ⟨(Lib.cut s sep).1.toArray⟩, .string ⟨(Lib.cut s sep).2.1.toArray⟩, .bool (Lib.cut s sep).2.2]) ∧ Below w.heap.size w w' := by
  obtain ⟨m, hm⟩ := he.max
  have hz : (⟨s.toArray⟩ : ByteArray).size < 4294967281 := by show s.toArray.size < _; simp; omega
  have h := Any.strings_Cut Tryd.cut ⟨s.toArray⟩ ⟨sep.toArray⟩ m w hz hm
  refine Calls.mono h ?_
  rintro e w' ⟨rfl, n, rfl⟩
  exact ⟨by simp, ⟨rfl, rfl, rfl, Nat.le_refl _, fun _ _ => rfl⟩⟩
theorem bsz (s : Str) : (⟨s.toArray⟩ : ByteArray).size = s.length := by show s.toArray.size = _; simp
theorem bdl (s : Str) : (⟨s.toArray⟩ : ByteArray).data.toList = s := by simp
def isOk {α : Type} : Lib.NumEnd α → Bool
  | .ok _ => true
  | _ => false
theorem bw_below (w : World) (s : ByteArray) (t : TypeId) : Below w.heap.size w (Lib.bytesWorld w t s) := Lib.bytesWorld_below w t s
section
variable (s : Str) (hs : s.length ≤ 100000) (w : World) (he : EnvOk w)
theorem pu16_ok (n : Nat) (h : Lib.parseUintB 16 s = .ok n) (hs : s.length ≤ 100000) : Calls Tryd.prog 19 #[.string ⟨s.toArray⟩, .int .i64 10, .int .i64 16] w fun e w' => e = .returned (.tuple #[.int .u64 n, .nilIface]) ∧ Below w.heap.size w w' := by
  have h1 := Any.strconv_ParseUint_10_at16_ok Tryd.puint ⟨s.toArray⟩ (by rw [bsz]; omega) n (by rw [bdl]; exact h) w
  refine Calls.mono h1 ?_
  rintro e w' ⟨rfl, rfl | rfl⟩
  · exact ⟨rfl, Below.refl _ _⟩
  · exact ⟨rfl, bw_below _ _ _⟩
theorem pu32_ok (n : Nat) (h : Lib.parseUintB 32 s = .ok n) (hs : s.length ≤ 100000) : Calls Tryd.prog 19 #[.string ⟨s.toArray⟩, .int .i64 10, .int .i64 32] w fun e w' => e = .returned (.tuple #[.int .u64 n, .nilIface]) ∧ Below w.heap.size w w' := by
  have h1 := Any.strconv_ParseUint_10_at32_ok Tryd.puint ⟨s.toArray⟩ (by rw [bsz]; omega) n (by rw [bdl]; exact h) w
  refine Calls.mono h1 ?_
  rintro e w' ⟨rfl, rfl | rfl⟩
  · exact ⟨rfl, Below.refl _ _⟩
  · exact ⟨rfl, bw_below _ _ _⟩
theorem pu16_bad (h : isOk (Lib.parseUintB 16 s) = false) (hs : s.length ≤ 100000) (he : EnvOk w) : Calls Tryd.prog 19 #[.string ⟨s.toArray⟩, .int .i64 10, .int .i64 16] w fun e w' => ∃ (u : Int) (t : TypeId) (N : Nat), e = .returned (.tuple #[.int .u64 u, .iface t (.pointer (some ⟨N, 0, none⟩))]) ∧ Below w.heap.size w w' := by
  obtain ⟨t1, p1, h1⟩ := he.syn
  obtain ⟨t2, p2, h2⟩ := he.rng
  rcases hr : Lib.parseUintB 16 s with n | _ | _
  · rw [hr] at h; cases h
  · refine Calls.mono (Any.strconv_ParseUint_10_at16_syntax_var Tryd.puint ⟨s.toArray⟩ (by rw [bsz]; omega) (by rw [bdl]; exact hr) t1 p1 w h1) ?_
    rintro e w' ⟨N, rfl, -, -, hb⟩
    exact ⟨_, _, N, rfl, hb⟩
  · refine Calls.mono (Any.strconv_ParseUint_10_at16_range_var Tryd.puint ⟨s.toArray⟩ (by rw [bsz]; omega) (by rw [bdl]; exact hr) t2 p2 w h2) ?_
    rintro e w' ⟨N, rfl, -, -, hb⟩
    exact ⟨_, _, N, rfl, hb⟩
theorem pu32_bad (h : isOk (Lib.parseUintB 32 s) = false) (hs : s.length ≤ 100000) (he : EnvOk w) : Calls Tryd.prog 19 #[.string ⟨s.toArray⟩, .int .i64 10, .int .i64 32] w fun e w' => ∃ (u : Int) (t : TypeId) (N : Nat), e = .returned (.tuple #[.int .u64 u, .iface t (.pointer (some ⟨N, 0, none⟩))]) ∧ Below w.heap.size w w' := by
  obtain ⟨t1, p1, h1⟩ := he.syn
  obtain ⟨t2, p2, h2⟩ := he.rng
  rcases hr : Lib.parseUintB 32 s with n | _ | _
  · rw [hr] at h; cases h
  · refine Calls.mono (Any.strconv_ParseUint_10_at32_syntax_var Tryd.puint ⟨s.toArray⟩ (by rw [bsz]; omega) (by rw [bdl]; exact hr) t1 p1 w h1) ?_
    rintro e w' ⟨N, rfl, -, -, hb⟩
    exact ⟨_, _, N, rfl, hb⟩
  · refine Calls.mono (Any.strconv_ParseUint_10_at32_range_var Tryd.puint ⟨s.toArray⟩ (by rw [bsz]; omega) (by rw [bdl]; exact hr) t2 p2 w h2) ?_
    rintro e w' ⟨N, rfl, -, -, hb⟩
    exact ⟨_, _, N, rfl, hb⟩
end
end Go.Proofs.YtppapeoainafbaaDoor

namespace Go.Proofs.YtppapeoainafbaaDoor
open Go.RowKit
/-! ### pid.Parse -/
def parseV : Option Pid → Value
  | some p => .tuple #[.agg #[.int .u16 p.1, .int .u32 p.2], .int .i64 0]
  | none => .tuple #[.agg #[.int .u16 0, .int .u32 0], .int .i64 5]
def PuRes (B : Nat) (s : Str) (u : Int) (ev : Value) : Prop := (∃ n : Nat, Lib.parseUintB B s = .ok n ∧ u = n ∧ ev = .nilIface) ∨ (isOk (Lib.parseUintB B s) = false ∧ ∃ (t : TypeId) (N : Nat), ev = .iface t (.pointer (some ⟨N, 0, none⟩)))
theorem ok_cases (B : Nat) (s : Str) : (∃ n, Lib.parseUintB B s = .ok n) ∨ isOk (Lib.parseUintB B s) = false := by
  rcases h : Lib.parseUintB B s with n | _ | _
  · exact .inl ⟨n, rfl⟩
  · exact .inr rfl
  · exact .inr rfl
theorem pu16_any (s : Str) (hs : s.length ≤ 100000) (w : World) (he : EnvOk w) : Calls Tryd.prog 19 #[.string ⟨s.toArray⟩, .int .i64 10, .int .i64 16] w fun e w' => ∃ u ev, e = .returned (.tuple #[.int .u64 u, ev]) ∧ PuRes 16 s u ev ∧ Below w.heap.size w w' := by
  rcases ok_cases 16 s with ⟨n, h⟩ | h
  · refine Calls.mono (pu16_ok s w n h hs) ?_
    rintro e w' ⟨rfl, hb⟩
    exact ⟨_, _, rfl, .inl ⟨n, h, rfl, rfl⟩, hb⟩
  · refine Calls.mono (pu16_bad s w h hs he) ?_
    rintro e w' ⟨u, t, N, rfl, hb⟩
    exact ⟨_, _, rfl, .inr ⟨h, t, N, rfl⟩, hb⟩
theorem pu32_any (s : Str) (hs : s.length ≤ 100000) (w : World) (he : EnvOk w) : Calls Tryd.prog 19 #[.string ⟨s.toArray⟩, .int .i64 10, .int .i64 32] w fun e w' => ∃ u ev, e = .returned (.tuple #[.int .u64 u, ev]) ∧ PuRes 32 s u ev ∧ Below w.heap.size w w' := by
  rcases ok_cases 32 s with ⟨n, h⟩ | h
  · refine Calls.mono (pu32_ok s w n h hs) ?_
    rintro e w' ⟨rfl, hb⟩
    exact ⟨_, _, rfl, .inl ⟨n, h, rfl, rfl⟩, hb⟩
  · refine Calls.mono (pu32_bad s w h hs he) ?_
    rintro e w' ⟨u, t, N, rfl, hb⟩
    exact ⟨_, _, rfl, .inr ⟨h, t, N, rfl⟩, hb⟩
theorem put2 {w : World} {b : Nat} {v0 v1 : Value} (c0 : w.cell? ⟨b, 0, none⟩ = some v0) (c1 : w.cell? ⟨b, 1, none⟩ = some v1) (u0 u1 : Value) : ((w.setCell ⟨b, 0, none⟩ u0).setCell ⟨b, 1, none⟩ u1).cell? ⟨b, 0, none⟩ = some u0 ∧ ((w.setCell ⟨b, 0, none⟩ u0).setCell ⟨b, 1, none⟩ u1).cell? ⟨b, 1, none⟩ = some u1 := by
  refine ⟨?_, ?_⟩
  · rw [World.cell?_setCell_other _ _ _ _ (by simp)]
    exact World.cell?_setCell_same _ _ _ c0
  · have h1 : (w.setCell ⟨b, 0, none⟩ u0).cell? ⟨b, 1, none⟩ = some v1 := by
      rw [World.cell?_setCell_other _ _ _ _ (by simp)]
      exact c1
    exact World.cell?_setCell_same _ _ _ h1
theorem below_put2 {B : Nat} {w W : World} {b : Nat} {u0 u1 : Value} (h : Below B w W) (hb : B ≤ b) : Below B w ((W.setCell ⟨b, 0, none⟩ u0).setCell ⟨b, 1, none⟩ u1) :=
  (h.setCell (p := ⟨b, 0, none⟩) hb u0).setCell (p := ⟨b, 1, none⟩) hb u1
set_option maxHeartbeats 3200000 in
theorem parse_any (s : Str) (hs : s.length ≤ 100000) (w : World) (he : EnvOk w) {r : Option Pid} (hr : Hid (parseP s = r)) :
    Calls Tryd.prog 7 #[.string ⟨s.toArray⟩] w fun e w' => e = .returned (parseV r) ∧ Below w.heap.size w w' := by
  obtain ⟨W1, hW1⟩ : ∃ W1, w.alloc (.cells #[.int .u16 0, .int .u32 0] 25) = W1 := ⟨_, rfl⟩
  have hb1 : Below w.heap.size w W1 := by rw [← hW1]; exact (Below.refl _ _).alloc (Nat.le_refl _) _
  have hc : W1.cell? ⟨w.heap.size, 0, none⟩ = some (.int .u16 0) ∧ W1.cell? ⟨w.heap.size, 1, none⟩ = some (.int .u32 0) ∧ W1.frozen? ⟨w.heap.size, 0, none⟩ = false ∧ W1.frozen? ⟨w.heap.size, 1, none⟩ = false := by rw [← hW1]; simp
  obtain ⟨A, hA⟩ : ∃ A, (Lib.cut s [46]).1 = A := ⟨_, rfl⟩
  obtain ⟨B, hB⟩ : ∃ B, (Lib.cut s [46]).2.1 = B := ⟨_, rfl⟩
  obtain ⟨F, hF⟩ : ∃ F, (Lib.cut s [46]).2.2 = F := ⟨_, rfl⟩
  have hlen : A.length ≤ 100000 ∧ B.length ≤ 100000 := by
    rw [cut_one] at hA hB
    split at hA
    · rename_i h
      rw [if_pos h] at hB
      rw [← hA, ← hB]
      simp; omega
    · rename_i h
      rw [if_neg h] at hB
      rw [← hA, ← hB]
      simp; omega
  have C1 := hid (cut_any s [46] hs W1 (he.ext hb1))
  rw [hA, hB, hF] at C1
  have hres := hr.out
  unfold parseP at hres
  rw [hA, hB] at hres
  have HE1 := hid (he.ext hb1)
  have HB1 := hid hb1
  have HLEN := hid hlen
  have HRES := hid hres
  have HC : Hid (∀ X, Below W1.heap.size W1 X → X.cell? ⟨w.heap.size, 0, none⟩ = some (.int .u16 0) ∧ X.cell? ⟨w.heap.size, 1, none⟩ = some (.int .u32 0) ∧ X.frozen? ⟨w.heap.size, 0, none⟩ = false ∧ X.frozen? ⟨w.heap.size, 1, none⟩ = false) := hid fun X h => by
    have hl := World.block_lt_of_cell? W1 _ hc.1
    have hfr : ∀ j, X.frozen? ⟨w.heap.size, j, none⟩ = W1.frozen? ⟨w.heap.size, j, none⟩ := fun j => by
      unfold World.frozen?
      rw [h.block w.heap.size hl]
    exact ⟨(h.cell (p := ⟨w.heap.size, 0, none⟩) hl).trans hc.1, (h.cell (p := ⟨w.heap.size, 1, none⟩) hl).trans hc.2.1, (hfr 0).trans hc.2.2.1, (hfr 1).trans hc.2.2.2⟩
  clear hb1 hc hA hB hF hlen hres he
  go_enter Tryd.func7, Tryd.ntmps7
  go_wp2_with fail
  (refine C1.out.mono ?_)
  rintro e w3 ⟨rfl, hb3⟩
  have HB3 := hid hb3
  have C2 := hid (pu16_any A HLEN.out.1 w3 (HE1.out.ext hb3))
  clear hb3 C1 hW1
  go_wp2_with fail
  (refine C2.out.mono ?_)
  rintro e w4 ⟨u, ev, rfl, hpu, hb4⟩
  have HB4 := hid (HB3.out.trans (hb4.mono HB3.out.size))
  have HP1 := hid hpu
  have C3 := hid (pu32_any B HLEN.out.2 w4 (HE1.out.ext HB4.out))
  clear hb4 C2 hpu
  go_wp2_with fail
  (refine C3.out.mono ?_)
  rintro e w5 ⟨u', ev', rfl, hpu, hb5⟩
  have HB5 := hid (HB4.out.trans (hb5.mono HB4.out.size))
  have HP2 := hid hpu
  clear hb5 C3 hpu
  have bad : ∀ (P : Prop), (isOk (Lib.parseUintB 16 A) = false ∨ isOk (Lib.parseUintB 32 B) = false) → r = none := fun _ h => by
    rw [← HRES.out]
    rcases h with h | h
    · rcases hr1 : Lib.parseUintB 16 A with n | _ | _
      · rw [hr1] at h; cases h
      · rfl
      · rfl
    · rcases hr1 : Lib.parseUintB 16 A with n | _ | _
      · rcases hr2 : Lib.parseUintB 32 B with n2 | _ | _
        · rw [hr2] at h; cases h
        · rfl
        · rfl
      · rfl
      · rfl
  rcases HP1.out with ⟨x, hx, rfl, rfl⟩ | ⟨hx, t1, N1, rfl⟩
  · rcases HP2.out with ⟨y, hy, rfl, rfl⟩ | ⟨hy, t2, N2, rfl⟩
    · have hx1 := Lib.parseUintB_le hx
      have hy1 := Lib.parseUintB_le hy
      have i0 : IntKind.u16.wrap (x : Int) = x := by rw [IntKind.wrap_u16]; omega
      have i1 : IntKind.u32.wrap (y : Int) = y := by rw [IntKind.wrap_u32]; omega
      obtain ⟨W6, hW6⟩ : ∃ W6, w5.alloc (.cells #[.int .u16 x, .int .u32 y] 25) = W6 := ⟨_, rfl⟩
      have hb6 : Below w5.heap.size w5 W6 := by rw [← hW6]; exact (Below.refl _ _).alloc (Nat.le_refl _) _
      have k0 : W6.cell? ⟨w5.heap.size, 0, none⟩ = some (.int .u16 x) := by rw [← hW6]; simp
      have k1 : W6.cell? ⟨w5.heap.size, 1, none⟩ = some (.int .u32 y) := by rw [← hW6]; simp
      have HB6 := hid (HB5.out.trans (hb6.mono HB5.out.size))
      have C4 := hid (print_any (x := x) (y := y) (by omega) (by omega) W6 (HE1.out.ext HB6.out).tab)
      clear hb6
      go_wp2_with fail
      (refine C4.out.mono ?_)
      rintro e w7 ⟨rfl, hb7⟩
      have HB7 := hid (HB6.out.trans (hb7.mono HB6.out.size))
      clear C4 hW6
      by_cases hps : printP ((x : Int), (y : Int)) = s
      · have u1 : (printP ((x : Int), (y : Int)) == s) = true := by simp [hps]
        have HPS := hid hps
        have k0' := (hb7.cell (p := ⟨w5.heap.size, 0, none⟩) (World.block_lt_of_cell? W6 _ k0)).trans k0
        have k1' := (hb7.cell (p := ⟨w5.heap.size, 1, none⟩) (World.block_lt_of_cell? W6 _ k1)).trans k1
        clear hps hb7 k0 k1
        obtain ⟨d0, d1, g0, g1⟩ := HC.out _ HB7.out
        have DD := hid (put2 d0 d1 (.int .u16 x) (.int .u32 y))
        have HF := hid (below_put2 (b := w.heap.size) (u0 := .int .u16 x) (u1 := .int .u32 y) (HB1.out.trans (HB7.out.mono HB1.out.size)) (Nat.le_refl _))
        have HR : Hid (r = some ((x : Int), (y : Int))) := hid (by rw [← HRES.out, hx, hy]; show pick2 x y s = _; unfold pick2; rw [if_pos HPS.out])
        go_wp2_with fail
        obtain ⟨q0, q1⟩ := DD.out
        refine bodyPost_ret (v := .tuple #[.agg #[.int .u16 x, .int .u32 y], .int .i64 0]) (by simp [results, Tryd.results7, go_sem, q0, q1]) rfl ⟨by rw [HR.out]; rfl, HF.out⟩
      · have u1 : (printP ((x : Int), (y : Int)) == s) = false := by simpa using hps
        have HPS := hid hps
        clear hps hb7 k0 k1
        obtain ⟨d0, d1, g0, g1⟩ := HC.out _ HB7.out
        have DD := hid (put2 d0 d1 (.int .u16 0) (.int .u32 0))
        have HF := hid (below_put2 (b := w.heap.size) (u0 := .int .u16 0) (u1 := .int .u32 0) (HB1.out.trans (HB7.out.mono HB1.out.size)) (Nat.le_refl _))
        have HR : Hid (r = none) := hid (by rw [← HRES.out, hx, hy]; show pick2 x y s = _; unfold pick2; rw [if_neg HPS.out])
        go_wp2_with fail
        obtain ⟨q0, q1⟩ := DD.out
        refine bodyPost_ret (v := .tuple #[.agg #[.int .u16 0, .int .u32 0], .int .i64 5]) (by simp [results, Tryd.results7, go_sem, q0, q1]) rfl ⟨by rw [HR.out]; rfl, HF.out⟩
    · obtain ⟨W6, hW6⟩ : ∃ W6, w5.alloc (.cells #[.int .u16 (IntKind.u16.wrap (x : Int)), .int .u32 (u' % 4294967296)] 25) = W6 := ⟨_, rfl⟩
      have hb6 : Below w5.heap.size w5 W6 := by rw [← hW6]; exact (Below.refl _ _).alloc (Nat.le_refl _) _
      have HB6 := hid (HB5.out.trans (hb6.mono HB5.out.size))
      clear hb6
      obtain ⟨d0, d1, g0, g1⟩ := HC.out _ HB6.out
      have DD := hid (put2 d0 d1 (.int .u16 0) (.int .u32 0))
      have HF := hid (below_put2 (b := w.heap.size) (u0 := .int .u16 0) (u1 := .int .u32 0) (HB1.out.trans (HB6.out.mono HB1.out.size)) (Nat.le_refl _))
      have HR : Hid (r = none) := hid (bad True (.inr hy))
      go_wp2_with fail
      obtain ⟨q0, q1⟩ := DD.out
      refine bodyPost_ret (v := .tuple #[.agg #[.int .u16 0, .int .u32 0], .int .i64 5]) (by simp [results, Tryd.results7, go_sem, q0, q1]) rfl ⟨by rw [HR.out]; rfl, HF.out⟩
  · obtain ⟨W6, hW6⟩ : ∃ W6, w5.alloc (.cells #[.int .u16 (IntKind.u16.wrap u), .int .u32 (u' % 4294967296)] 25) = W6 := ⟨_, rfl⟩
    have hb6 : Below w5.heap.size w5 W6 := by rw [← hW6]; exact (Below.refl _ _).alloc (Nat.le_refl _) _
    have HB6 := hid (HB5.out.trans (hb6.mono HB5.out.size))
    clear hb6
    obtain ⟨d0, d1, g0, g1⟩ := HC.out _ HB6.out
    have DD := hid (put2 d0 d1 (.int .u16 0) (.int .u32 0))
    have HF := hid (below_put2 (b := w.heap.size) (u0 := .int .u16 0) (u1 := .int .u32 0) (HB1.out.trans (HB6.out.mono HB1.out.size)) (Nat.le_refl _))
    have HR : Hid (r = none) := hid (bad True (.inl hx))
    go_wp2_with fail
    obtain ⟨q0, q1⟩ := DD.out
    refine bodyPost_ret (v := .tuple #[.agg #[.int .u16 0, .int .u32 0], .int .i64 5]) (by simp [results, Tryd.results7, go_sem, q0, q1]) rfl ⟨by rw [HR.out]; rfl, HF.out⟩
end Go.Proofs.YtppapeoainafbaaDoor

namespace Go.Proofs.YtppapeoainafbaaDoor
open Go.RowKit
/-! ### the reference's number and Parse -/
theorem num_drop (most n : Nat) {s : Str} {k : Nat} (h : k < s.length) : numFrom most n (s.drop k) = if s[k].toNat < 48 ∨ 57 < s[k].toNat then (0, false) else numFrom most (n * 10 + (s[k].toNat - 48)) (s.drop (k + 1)) := by
  rw [List.drop_eq_getElem_cons h]; rfl
set_option maxHeartbeats 1600000 in
theorem refNum_any (s : Str) (hs : s.length ≤ 100000) (most : Nat) (hm : most < 18446744073709551616) (w : World) {r : Nat × Bool} (hr : Hid (numR most s = r)) :
    Calls Tryd.prog 20 #[.string ⟨s.toArray⟩, .int .u64 most] w fun e w' => e = .returned (.tuple #[.int .u64 r.1, .bool r.2]) ∧ Below w.heap.size w w' := by
  by_cases hbad : s = [] ∨ 12 < s.length
  · have hres : r = (0, false) := by rw [← hr.out]; unfold numR; rw [if_pos hbad]
    subst hres
    rcases (show s = [] ∨ (s ≠ [] ∧ 12 < s.length) by by_cases e : s = []; exact .inl e; exact .inr ⟨e, hbad.resolve_left e⟩) with rfl | ⟨h0, h12⟩
    · clear hbad hs
      go_enter Tryd.func20, Tryd.ntmps20
      go_wp2
      exact bodyPost_ret (v := .tuple #[.int .u64 0, .bool false]) (by simp [results, Tryd.results20, go_sem]) rfl ⟨rfl, Below.refl _ _⟩
    · have e1 : s.isEmpty = false := by cases s <;> simp at h0 ⊢
      have e2 : ¬ (s.length : Int) ≤ 12 := by omega
      have e3 : decide ((s.length : Int) > 12) = true := decide_eq_true (by omega)
      clear hbad
      go_enter Tryd.func20, Tryd.ntmps20
      go_wp2
      exact bodyPost_ret (v := .tuple #[.int .u64 0, .bool false]) (by simp [results, Tryd.results20, go_sem]) rfl ⟨rfl, Below.refl _ _⟩
  · have h0 : s ≠ [] := fun e => hbad (.inl e)
    have h12 : s.length ≤ 12 := by omega
    have e1 : s.isEmpty = false := by cases s <;> simp at h0 ⊢
    have e2 : (s.length : Int) ≤ 12 := by omega
    have e3 : decide ((s.length : Int) > 12) = false := decide_eq_false (by omega)
    have hres : numFrom most 0 s = r := by rw [← hr.out]; unfold numR; rw [if_neg hbad]
    have HRES := hid hres
    clear hres hbad h0 hs
    go_enter Tryd.func20, Tryd.ntmps20
    go_wp2
    clear e2 e3 e1
    go_loopw [6, 7] (fun vn i wr => ∃ n k : Nat, vn = .int .u64 n ∧ i = .int .i64 k ∧ k ≤ s.length ∧ n < 10 ^ k ∧ Hid (numFrom most n (s.drop k) = r) ∧ wr = w) (fun _ i _ => s.length - (intOf i).toNat)
    case atStart => exact ⟨0, 0, rfl, rfl, Nat.zero_le _, by simp, HRES.out, rfl⟩
    case round =>
      obtain ⟨n, k, rfl, rfl, hk, hn, hf, rfl⟩ := hrel
      by_cases hlt : k < s.length
      · have hp : 10 ^ k ≤ 10 ^ 11 := Nat.pow_le_pow_right (by omega) (by omega)
        have hd := num_drop most n hlt
        obtain ⟨c, hc⟩ : ∃ c, s[k] = c := ⟨_, rfl⟩
        rw [hc] at hd
        have hi : (⟨s.toArray⟩ : ByteArray)[k]'(by show k < s.toArray.size; simpa using hlt) = c := by rw [← hc]; rfl
        by_cases h48 : c.toNat < 48
        · have i1 : (c.toNat : Int) < 48 := by omega
          rw [if_pos (.inl h48)] at hd
          have HR := hid (hf.out.symm.trans hd)
          clear hd hf hc h48
          go_wp2
          rw [HR.out]
          exact bodyPost_ret (v := .tuple #[.int .u64 0, .bool false]) (by simp [results, Tryd.results20, go_sem]) rfl ⟨rfl, Below.refl _ _⟩
        · have i1 : ¬ (c.toNat : Int) < 48 := by omega
          have i1' : (48 : Int) ≤ (c.toNat : Int) := by omega
          by_cases h57 : 57 < c.toNat
          · have i2 : ¬ (c.toNat : Int) ≤ 57 := by omega
            have i3 : (57 : Int) < (c.toNat : Int) := by omega
            rw [if_pos (.inr h57)] at hd
            have HR := hid (hf.out.symm.trans hd)
            clear hd hf hc h48 h57
            go_wp2
            rw [HR.out]
            exact bodyPost_ret (v := .tuple #[.int .u64 0, .bool false]) (by simp [results, Tryd.results20, go_sem]) rfl ⟨rfl, Below.refl _ _⟩
          · have i2 : (c.toNat : Int) ≤ 57 := by omega
            rw [if_neg (by omega)] at hd
            have HR := hid (hd.symm.trans hf.out)
            have hn2 : n * 10 + (c.toNat - 48) < 10 ^ (k + 1) := by rw [Nat.pow_succ]; omega
            have hcast : ((n * 10 + (c.toNat - 48) : Nat) : Int) = (n : Int) * 10 + ((c.toNat : Int) - 48) := by omega
            have HN2 := hid hn2
            have HCA := hid hcast
            clear hd hf hc hn2 hcast
            go_wp2
            go_roundw
            case rel => exact ⟨n * 10 + (c.toNat - 48), k + 1, by rw [HCA.out], by go_num, by omega, HN2.out, HR.out, trivial⟩
            case measure => simp [intOf]; omega
      · have hk2 : s.drop k = [] := List.drop_eq_nil_of_le (by omega)
        rw [hk2] at hf
        have hr2 : r = (n, decide (n ≤ most)) := hf.out.symm
        by_cases hle : n ≤ most
        · have i1 : (n : Int) ≤ (most : Int) := by omega
          have HR : Hid (r = (n, true)) := hid (by rw [hr2]; simp [hle])
          clear hr2 hf
          go_wp2
          rw [HR.out]
          exact bodyPost_ret (v := .tuple #[.int .u64 n, .bool true]) (by simp [results, Tryd.results20, go_sem]) rfl ⟨rfl, Below.refl _ _⟩
        · have i1 : ¬ (n : Int) ≤ (most : Int) := by omega
          have HR : Hid (r = (n, false)) := hid (by rw [hr2]; simp [hle])
          clear hr2 hf
          go_wp2
          rw [HR.out]
          exact bodyPost_ret (v := .tuple #[.int .u64 n, .bool false]) (by simp [results, Tryd.results20, go_sem]) rfl ⟨rfl, Below.refl _ _⟩
end Go.Proofs.YtppapeoainafbaaDoor

namespace Go.Proofs.YtppapeoainafbaaDoor
open Go.RowKit
/-! ### the reference's Parse -/
theorem at1_drop {c : UInt8} {s : Str} {k : Nat} (h : k < s.length) : at1 c (s.drop k) = if s[k] = c then 0 else at1 c (s.drop (k + 1)) + 1 := by
  rw [List.drop_eq_getElem_cons h]
  unfold at1
  rw [List.findIdx_cons]
  by_cases e : s[k] = c
  · rw [if_pos e]; simp [e]
  · rw [if_neg e]; have : (s[k] == c) = false := by simpa using e
    rw [this]; rfl
theorem run_upto (s : Str) (k : Nat) (h : k ≤ s.length) (W : World) : (Instr.slice 9 (.string ⟨s.toArray⟩) none (some (.int .i64 (k : Int))) none).run Tryd.prog W = .ok (.string ⟨(s.take k).toArray⟩) W := by
  have hz : (⟨s.toArray⟩ : ByteArray).size = s.length := by show s.toArray.size = _; simp
  rw [run_slice_string_to_if W 9 _ .i64 _ Tryd.underlying9, if_pos (by rw [hz]; omega)]
  rw [Int.toNat_natCast, Lib.Pa.extract_upto]
def refTest (a b : Nat) (x y : Bool) (s : Str) : Option Pid := if x = true ∧ y = true then pick2 a b s else none
theorem refParse_at {s : Str} {k : Nat} (h : at1 46 s = k) (hk : k < s.length) : refParseP s = refTest (numR 65535 (s.take k)).1 (numR 4294967295 (s.drop (k + 1))).1 (numR 65535 (s.take k)).2 (numR 4294967295 (s.drop (k + 1))).2 s := by
  subst h
  unfold refParseP refTest
  rw [if_pos hk]
theorem refParse_no {s : Str} (h : at1 46 s = s.length) : refParseP s = none := by
  unfold refParseP
  rw [if_neg (by omega)]
set_option maxHeartbeats 3200000 in
theorem refParse_any (s : Str) (hs : s.length ≤ 100000) (w : World) {r : Option Pid} (hr : Hid (refParseP s = r)) :
    Calls Tryd.prog 8 #[.string ⟨s.toArray⟩] w fun e w' => e = .returned (parseV r) ∧ Below w.heap.size w w' := by
  obtain ⟨W1, hW1⟩ : ∃ W1, w.alloc (.cells #[.int .u16 0, .int .u32 0] 25) = W1 := ⟨_, rfl⟩
  have hb1 : Below w.heap.size w W1 := by rw [← hW1]; exact (Below.refl _ _).alloc (Nat.le_refl _) _
  have hc : W1.cell? ⟨w.heap.size, 0, none⟩ = some (.int .u16 0) ∧ W1.cell? ⟨w.heap.size, 1, none⟩ = some (.int .u32 0) ∧ W1.frozen? ⟨w.heap.size, 0, none⟩ = false ∧ W1.frozen? ⟨w.heap.size, 1, none⟩ = false := by rw [← hW1]; simp
  have HB1 := hid hb1
  have HC : Hid (∀ X, Below W1.heap.size W1 X → X.cell? ⟨w.heap.size, 0, none⟩ = some (.int .u16 0) ∧ X.cell? ⟨w.heap.size, 1, none⟩ = some (.int .u32 0) ∧ X.frozen? ⟨w.heap.size, 0, none⟩ = false ∧ X.frozen? ⟨w.heap.size, 1, none⟩ = false) := hid fun X h => by
    have hl := World.block_lt_of_cell? W1 _ hc.1
    have hfr : ∀ j, X.frozen? ⟨w.heap.size, j, none⟩ = W1.frozen? ⟨w.heap.size, j, none⟩ := fun j => by
      unfold World.frozen?
      rw [h.block w.heap.size hl]
    exact ⟨(h.cell (p := ⟨w.heap.size, 0, none⟩) hl).trans hc.1, (h.cell (p := ⟨w.heap.size, 1, none⟩) hl).trans hc.2.1, (hfr 0).trans hc.2.2.1, (hfr 1).trans hc.2.2.2⟩
  clear hb1 hc
  go_enter Tryd.func8, Tryd.ntmps8
  go_wp2_with fail
  clear hW1
  go_loopw [4] (fun i wr => ∃ k : Nat, i = .int .i64 k ∧ k ≤ s.length ∧ Hid (at1 46 s = k + at1 46 (s.drop k)) ∧ wr = W1) (fun i _ => s.length - (intOf i).toNat)
  case atStart => exact ⟨0, rfl, Nat.zero_le _, hid (by simp), rfl⟩
  case round =>
    obtain ⟨k, rfl, hk, hf, hw⟩ := hrel
    have hw' := hw.symm
    subst hw'
    clear hw
    by_cases hlt : k < s.length
    · obtain ⟨c, hc⟩ : ∃ c, s[k] = c := ⟨_, rfl⟩
      have hi : (⟨s.toArray⟩ : ByteArray)[k]'(by show k < s.toArray.size; simpa using hlt) = c := by rw [← hc]; rfl
      have hd := at1_drop (c := 46) hlt
      rw [hc] at hd
      by_cases h46 : c = 46
      · subst h46
        rw [if_pos rfl] at hd
        have hat : at1 46 s = k := by rw [hf.out, hd]; rfl
        obtain ⟨x, hx⟩ : ∃ x, numR 65535 (s.take k) = x := ⟨_, rfl⟩
        obtain ⟨y, hy⟩ : ∃ y, numR 4294967295 (s.drop (k + 1)) = y := ⟨_, rfl⟩
        have hres := hr.out.symm.trans (refParse_at hat hlt)
        have lx := numR_le (most := 65535) (s := s.take k)
        have ly := numR_le (most := 4294967295) (s := s.drop (k + 1))
        rw [hx] at lx
        rw [hy] at ly
        rw [hx, hy] at hres
        obtain ⟨a, p⟩ := x
        obtain ⟨b, q⟩ := y
        have U1 := run_upto s k hk
        have U2 : (⟨s.toArray⟩ : ByteArray).extract (k + 1) s.length = ⟨(s.drop (k + 1)).toArray⟩ := by
          have := Lib.Pa.extract_from ⟨s.toArray⟩ (k + 1)
          rw [show (⟨s.toArray⟩ : ByteArray).size = s.length by show s.toArray.size = _; simp] at this
          exact this
        have C1 := hid (refNum_any (s.take k) (by simp; omega) 65535 (by omega) W1 (hid hx))
        have HRES := hid hres
        have LX := hid lx
        have LY := hid ly
        have HY := hid hy
        have i1 : IntKind.i64.wrap ((k : Int) + 1) = ((k + 1 : Nat) : Int) := by rw [IntKind.wrap_i64]; omega
        clear hd hf hc hx hy hres lx ly hat
        go_wp2_with fail
        (refine C1.out.mono ?_)
        rintro e w2 ⟨rfl, hb2⟩
        have HB2 := hid hb2
        have C2 := hid (refNum_any (s.drop (k + 1)) (by simp; omega) 4294967295 (by omega) w2 HY.out)
        clear hb2 C1
        go_wp2_with fail
        (refine C2.out.mono ?_)
        rintro e w5 ⟨rfl, hb3⟩
        have HB5 := hid (HB2.out.trans (hb3.mono HB2.out.size))
        clear hb3 C2
        have LXY : p = true → q = true → a ≤ 65535 ∧ b ≤ 4294967295 := fun h1 h2 => ⟨LX.out h1, LY.out h2⟩
        by_cases hpq : p = true ∧ q = true
        · obtain ⟨rfl, rfl⟩ := hpq
          obtain ⟨la, lb⟩ := LXY rfl rfl
          have j0 : IntKind.u16.wrap (a : Int) = a := by rw [IntKind.wrap_u16]; omega
          have j1 : IntKind.u32.wrap (b : Int) = b := by rw [IntKind.wrap_u32]; omega
          obtain ⟨W6, hW6⟩ : ∃ W6, w5.alloc (.cells #[.int .u16 a, .int .u32 b] 25) = W6 := ⟨_, rfl⟩
          have hb6 : Below w5.heap.size w5 W6 := by rw [← hW6]; exact (Below.refl _ _).alloc (Nat.le_refl _) _
          have k0 : W6.cell? ⟨w5.heap.size, 0, none⟩ = some (.int .u16 a) := by rw [← hW6]; simp
          have k1 : W6.cell? ⟨w5.heap.size, 1, none⟩ = some (.int .u32 b) := by rw [← hW6]; simp
          have HB6 := hid (HB5.out.trans (hb6.mono HB5.out.size))
          have C4 := hid (refPrint_any (x := a) (y := b) (by omega) (by omega) W6)
          clear hb6 LXY
          go_wp2_with fail
          (refine C4.out.mono ?_)
          rintro e w7 ⟨rfl, hb7⟩
          have HB7 := hid (HB6.out.trans (hb7.mono HB6.out.size))
          clear C4 hW6
          by_cases hps : printP ((a : Int), (b : Int)) = s
          · have u1 : (printP ((a : Int), (b : Int)) == s) = true := by simp [hps]
            have HPS := hid hps
            have k0' := (hb7.cell (p := ⟨w5.heap.size, 0, none⟩) (World.block_lt_of_cell? W6 _ k0)).trans k0
            have k1' := (hb7.cell (p := ⟨w5.heap.size, 1, none⟩) (World.block_lt_of_cell? W6 _ k1)).trans k1
            clear hps hb7 k0 k1
            obtain ⟨d0, d1, g0, g1⟩ := HC.out _ HB7.out
            have DD := hid (put2 d0 d1 (.int .u16 a) (.int .u32 b))
            have HF := hid (below_put2 (b := w.heap.size) (u0 := .int .u16 a) (u1 := .int .u32 b) (HB1.out.trans (HB7.out.mono HB1.out.size)) (Nat.le_refl _))
            have HR : Hid (r = some ((a : Int), (b : Int))) := hid (by rw [HRES.out]; unfold refTest pick2; rw [if_pos ⟨rfl, rfl⟩, if_pos HPS.out])
            go_wp2_with fail
            obtain ⟨q0, q1⟩ := DD.out
            refine bodyPost_ret (v := .tuple #[.agg #[.int .u16 a, .int .u32 b], .int .i64 0]) (by simp [results, Tryd.results8, go_sem, q0, q1]) rfl ⟨by rw [HR.out]; rfl, HF.out⟩
          · have u1 : (printP ((a : Int), (b : Int)) == s) = false := by simpa using hps
            have HPS := hid hps
            clear hps hb7 k0 k1
            obtain ⟨d0, d1, g0, g1⟩ := HC.out _ HB7.out
            have DD := hid (put2 d0 d1 (.int .u16 0) (.int .u32 0))
            have HF := hid (below_put2 (b := w.heap.size) (u0 := .int .u16 0) (u1 := .int .u32 0) (HB1.out.trans (HB7.out.mono HB1.out.size)) (Nat.le_refl _))
            have HR : Hid (r = none) := hid (by rw [HRES.out]; unfold refTest pick2; rw [if_pos ⟨rfl, rfl⟩, if_neg HPS.out])
            go_wp2_with fail
            obtain ⟨q0, q1⟩ := DD.out
            refine bodyPost_ret (v := .tuple #[.agg #[.int .u16 0, .int .u32 0], .int .i64 5]) (by simp [results, Tryd.results8, go_sem, q0, q1]) rfl ⟨by rw [HR.out]; rfl, HF.out⟩
        · obtain ⟨W6, hW6⟩ : ∃ W6, w5.alloc (.cells #[.int .u16 (IntKind.u16.wrap (a : Int)), .int .u32 ((a : Int) * 0 + (b : Int) % 4294967296)] 25) = W6 := ⟨_, rfl⟩
          rw [Int.mul_zero, Int.zero_add] at hW6
          have hb6 : Below w5.heap.size w5 W6 := by rw [← hW6]; exact (Below.refl _ _).alloc (Nat.le_refl _) _
          have HB6 := hid (HB5.out.trans (hb6.mono HB5.out.size))
          clear hb6 LXY
          obtain ⟨d0, d1, g0, g1⟩ := HC.out _ HB6.out
          have DD := hid (put2 d0 d1 (.int .u16 0) (.int .u32 0))
          have HF := hid (below_put2 (b := w.heap.size) (u0 := .int .u16 0) (u1 := .int .u32 0) (HB1.out.trans (HB6.out.mono HB1.out.size)) (Nat.le_refl _))
          have HR : Hid (r = none) := hid (by rw [HRES.out]; unfold refTest; rw [if_neg hpq])
          have hpq' : (p && q) = false := by cases p <;> cases q <;> simp at hpq ⊢
          clear hpq
          cases p
          · go_wp2_with fail
            obtain ⟨q0, q1⟩ := DD.out
            refine bodyPost_ret (v := .tuple #[.agg #[.int .u16 0, .int .u32 0], .int .i64 5]) (by simp [results, Tryd.results8, go_sem, q0, q1]) rfl ⟨by rw [HR.out]; rfl, HF.out⟩
          · cases q
            · go_wp2_with fail
              obtain ⟨q0, q1⟩ := DD.out
              refine bodyPost_ret (v := .tuple #[.agg #[.int .u16 0, .int .u32 0], .int .i64 5]) (by simp [results, Tryd.results8, go_sem, q0, q1]) rfl ⟨by rw [HR.out]; rfl, HF.out⟩
            · cases hpq'
      · rw [if_neg h46] at hd
        have i1 : ¬ (c.toNat : Int) = 46 := fun e => h46 (by apply UInt8.toNat_inj.1; show c.toNat = 46; omega)
        have i2 : c.toNat ≠ 46 := by omega
        have HF : Hid (at1 46 s = k + 1 + at1 46 (s.drop (k + 1))) := hid (by rw [hf.out, hd]; omega)
        clear hd hf hc
        go_wp2
        go_roundw
        case rel => exact ⟨k + 1, by go_num, by omega, HF.out, trivial⟩
        case measure => simp [intOf]; omega
    · have hke : k = s.length := by omega
      have hat : at1 46 s = s.length := by rw [hf.out, hke]; simp [at1]
      have HR := hid (hr.out.symm.trans (refParse_no hat))
      clear hat hf
      obtain ⟨d0, d1, g0, g1⟩ := HC.out _ (Below.refl _ _)
      have DD := hid (put2 d0 d1 (.int .u16 0) (.int .u32 0))
      have HF := hid (below_put2 (b := w.heap.size) (u0 := .int .u16 0) (u1 := .int .u32 0) HB1.out (Nat.le_refl _))
      go_wp2
      obtain ⟨q0, q1⟩ := DD.out
      refine bodyPost_ret (v := .tuple #[.agg #[.int .u16 0, .int .u32 0], .int .i64 5]) (by simp [results, Tryd.results8, go_sem, q0, q1]) rfl ⟨by rw [HR.out]; rfl, HF.out⟩
end Go.Proofs.YtppapeoainafbaaDoor

namespace Go.Proofs.YtppapeoainafbaaDoor
open Go.RowKit
/-! ### awake of layer 3, the law PidTexts -/
theorem ret_u64N {a b : Int} (h : a = b) : Ending.returned (.int .u64 a) = .returned (.int .u64 b) := by rw [h]
theorem extP_of {P : Program} {f : FuncId} {args : Array Value} {w0 : World} {U : ExtW w0} {v v' : Value} (h : Calls P f args U.W fun e w' => e = .returned v ∧ Below U.W.heap.size U.W w') (hv : v = v') :
    Calls P f args U.W fun e w' => e = .returned v' ∧ ∃ U' : ExtW w0, w' = U'.W := by
  subst hv
  refine h.mono ?_
  rintro e w' ⟨rfl, hb⟩
  exact ⟨rfl, ⟨_, U.h.trans (hb.mono U.h.size)⟩, rfl⟩
theorem u64_or32N (x y : Int) (hy₀ : 0 ≤ y) (hy : y < 4294967296) (hx₀ : 0 ≤ x) (hx : x % 4294967296 = 0) (hx₁ : x < 18446744073709551616) : bits .or .u64 x y = x + y :=
  bits_join .u64 64 (by decide) wraps_u64 32 x y hx₀ hx hx₁ hy₀ hy (by omega)
def numN (p : Pid) : Int := p.1 * 4294967296 + p.2
def okN (p : Pid) : Prop := 0 ≤ p.1 ∧ p.1 < 65536 ∧ 0 ≤ p.2 ∧ p.2 < 4294967296

set_option maxHeartbeats 400000 in
theorem numP_any (x y : Int) (w : World) (h : okN (x, y)) : Calls Tryd.prog 15 #[.agg #[.int .u16 x, .int .u32 y]] w fun e w' => e = .returned (.int .u64 (numN (x, y))) ∧ Below w.heap.size w w' := by
  obtain ⟨hx, hx2, hy, hy2⟩ := h
  simp only at hx hx2 hy hy2
  have hB : Below w.heap.size w (w.alloc (.cells #[.int .u16 x, .int .u32 y] 25)) := (Below.refl _ _).alloc (Nat.le_refl _) _
  go_enter Tryd.func15, Tryd.ntmps15
  go_wp2
  go_ret
  exact ⟨ret_u64N (u64_or32N _ _ hy hy2 (by omega) (by omega) (by omega)), hB⟩

def aheadN (p q : Pid) : Bool := decide (numN p < numN q)
set_option maxHeartbeats 400000 in
theorem aheadP_any (a b c d : Int) (w : World) (h1 : okN (a, b)) (h2 : okN (c, d)) : Calls Tryd.prog 16 #[.agg #[.int .u16 a, .int .u32 b], .agg #[.int .u16 c, .int .u32 d]] w fun e w' => e = .returned (.bool (aheadN (a, b) (c, d))) ∧ Below w.heap.size w w' := by
  have hB : Below w.heap.size w ((w.alloc (.cells #[.int .u16 a, .int .u32 b] 25)).alloc (.cells #[.int .u16 c, .int .u32 d] 25)) := ((Below.refl _ _).alloc (Nat.le_refl _) _).alloc (by simp) _
  have hz : w.heap.size ≤ ((w.alloc (.cells #[.int .u16 a, .int .u32 b] 25)).alloc (.cells #[.int .u16 c, .int .u32 d] 25)).heap.size := by simp; omega
  have k0 : ((w.alloc (.cells #[.int .u16 a, .int .u32 b] 25)).alloc (.cells #[.int .u16 c, .int .u32 d] 25)).cell? ⟨w.heap.size, 0, none⟩ = some (.int .u16 a) := by simp
  have k1 : ((w.alloc (.cells #[.int .u16 a, .int .u32 b] 25)).alloc (.cells #[.int .u16 c, .int .u32 d] 25)).cell? ⟨w.heap.size, 1, none⟩ = some (.int .u32 b) := by simp
  have k2 : ((w.alloc (.cells #[.int .u16 a, .int .u32 b] 25)).alloc (.cells #[.int .u16 c, .int .u32 d] 25)).cell? ⟨w.heap.size + 1, 0, none⟩ = some (.int .u16 c) := by simp
  have k3 : ((w.alloc (.cells #[.int .u16 a, .int .u32 b] 25)).alloc (.cells #[.int .u16 c, .int .u32 d] 25)).cell? ⟨w.heap.size + 1, 1, none⟩ = some (.int .u32 d) := by simp
  go_enter Tryd.func16, Tryd.ntmps16
  go_wp2
  revert hB hz k0 k1 k2 k3
  generalize (w.alloc (.cells #[.int .u16 a, .int .u32 b] 25)).alloc (.cells #[.int .u16 c, .int .u32 d] 25) = wr
  intro hB hz k0 k1 k2 k3
  have f0 := cell_extY k0
  have f1 := cell_extY k1
  have f2 := cell_extY k2
  have f3 := cell_extY k3
  clear k0 k1 k2 k3
  have n1 : ∀ U : ExtW wr, Calls Tryd.prog 15 #[.agg #[.int .u16 a, .int .u32 b]] U.W fun e w' => e = .returned (.int .u64 (numN (a, b))) ∧ ∃ U' : ExtW wr, w' = U'.W := fun U => extP_of (numP_any a b U.W h1) rfl
  have n2 : ∀ U : ExtW wr, Calls Tryd.prog 15 #[.agg #[.int .u16 c, .int .u32 d]] U.W fun e w' => e = .returned (.int .u64 (numN (c, d))) ∧ ∃ U' : ExtW wr, w' = U'.W := fun U => extP_of (numP_any c d U.W h2) rfl
  have hs : aheadN (a, b) (c, d) = decide (numN (a, b) < numN (c, d)) := rfl
  have HS := hid hs
  clear hs
  revert n1 n2 HS
  generalize numN (a, b) = A
  generalize numN (c, d) = B
  intro n1 n2 HS
  refine wp_region_ext (w := wr) (Below.refl _ _) (by kernel_rfl) (by kernel_rfl) ?_
  repeat (go_big_quiet_step (first | (go_at_call_of 15 c; exact n2 _) | exact n1 _))
  refine wpQuiet_nil ?_
  rintro w9 ⟨⟨_, hb9⟩, rfl⟩
  go_wp2
  go_ret
  exact ⟨ret_bool HS.out.symm, hB.trans (hb9.mono hz)⟩
theorem relP {P : Program} {f : FuncId} {args : Array Value} {w0 W : World} {v v' : Value} (hb : Below w0.heap.size w0 W) (h : Calls P f args W fun e w' => e = .returned v ∧ Below W.heap.size W w') (hv : v = v') : Calls P f args W fun e w' => e = .returned v' ∧ Below w0.heap.size w0 w' := by
  refine h.mono ?_
  rintro e w' ⟨rfl, h2⟩
  exact ⟨by rw [hv], hb.trans (h2.mono hb.size)⟩
theorem cell_toP {w wr : World} {a : Addr} {v : Value} (h : w.cell? a = some v) (hb : Below w.heap.size w wr) : wr.cell? a = some v := (hb.cell (World.block_lt_of_cell? w _ h)).trans h
theorem print31 : printP (((3 : Nat) : Int), ((1 : Nat) : Int)) = [51, 46, 49] := by
  unfold printP
  simp only [Int.toNat_natCast]
  rw [Lib.decDigits_one (by omega), Lib.decDigits_one (by omega)]
  rfl
set_option maxHeartbeats 1600000 in
theorem awakeP_any (w : World) (ht : TabOk w) : Calls Tryd.prog 5 #[] w fun e w' => e = .returned (.bool true) ∧ Below w.heap.size w w' := by
  have hB : Below w.heap.size w (w.alloc (.cells #[.int .u16 3, .int .u32 1] 25)) := (Below.refl _ _).alloc (Nat.le_refl _) _
  have hz : w.heap.size ≤ (w.alloc (.cells #[.int .u16 3, .int .u32 1] 25)).heap.size := by simp
  have k0 : (w.alloc (.cells #[.int .u16 3, .int .u32 1] 25)).cell? ⟨w.heap.size, 0, none⟩ = some (.int .u16 3) := by simp
  have k1 : (w.alloc (.cells #[.int .u16 3, .int .u32 1] 25)).cell? ⟨w.heap.size, 1, none⟩ = some (.int .u32 1) := by simp
  obtain ⟨wr, hwr⟩ : ∃ wr, w.alloc (.cells #[.int .u16 3, .int .u32 1] 25) = wr := ⟨_, rfl⟩
  rw [hwr] at hB hz k0 k1
  have ht' := ht.ext hB
  have o1 : okN (3, 1) := by unfold okN; decide
  have o2 : okN (3, 2) := by unfold okN; decide
  have o3 : okN (4, 1) := by unfold okN; decide
  have F : ∀ W, Below wr.heap.size wr W → W.cell? ⟨w.heap.size, 0, none⟩ = some (.int .u16 3) ∧ W.cell? ⟨w.heap.size, 1, none⟩ = some (.int .u32 1) := fun W h => ⟨cell_toP k0 h, cell_toP k1 h⟩
  have H0 : Below wr.heap.size wr wr := Below.refl _ _
  have n1 : ∀ W, Below wr.heap.size wr W → Calls Tryd.prog 15 #[.agg #[.int .u16 3, .int .u32 1]] W fun e w' => e = .returned (.int .u64 12884901889) ∧ Below wr.heap.size wr w' := fun W h => relP h (numP_any 3 1 W o1) (by kernel_rfl)
  have n2 : ∀ W, Below wr.heap.size wr W → Calls Tryd.prog 6 #[.agg #[.int .u16 3, .int .u32 1]] W fun e w' => e = .returned (.string ⟨#[51, 46, 49]⟩) ∧ Below wr.heap.size wr w' := fun W h => relP h (print_any (x := 3) (y := 1) (by omega) (by omega) W (ht'.ext h)) (by rw [print31])
  have n3 : ∀ W, Below wr.heap.size wr W → Calls Tryd.prog 16 #[.agg #[.int .u16 3, .int .u32 1], .agg #[.int .u16 3, .int .u32 2]] W fun e w' => e = .returned (.bool true) ∧ Below wr.heap.size wr w' := fun W h => relP h (aheadP_any 3 1 3 2 W o1 o2) (by kernel_rfl)
  have n4 : ∀ W, Below wr.heap.size wr W → Calls Tryd.prog 16 #[.agg #[.int .u16 4, .int .u32 1], .agg #[.int .u16 3, .int .u32 1]] W fun e w' => e = .returned (.bool false) ∧ Below wr.heap.size wr w' := fun W h => relP h (aheadP_any 4 1 3 1 W o3 o1) (by kernel_rfl)
  have N1 := hid n1
  have N2 := hid n2
  have N3 := hid n3
  have N4 := hid n4
  have HF := hid F
  have HW := hid hwr
  clear n1 n2 n3 n4 F hwr ht ht'
  go_enter Tryd.func5, Tryd.ntmps5
  go_wp2_with (first
    | (go_at_call 15; rw [HW.out]; refine (N1.out _ (by assumption)).mono ?_; rintro e w3 ⟨rfl, hb3⟩; obtain ⟨q0, q1⟩ := HF.out _ hb3)
    | (go_at_call 6; refine (N2.out _ (by assumption)).mono ?_; rintro e w3 ⟨rfl, hb3⟩; obtain ⟨q0, q1⟩ := HF.out _ hb3)
    | (go_at_call 16; (first | (with_reducible refine (N3.out _ ?_).mono ?_) | (with_reducible refine (N4.out _ ?_).mono ?_)); assumption; rintro e w3 ⟨rfl, hb3⟩; obtain ⟨q0, q1⟩ := HF.out _ hb3))
  go_ret
  exact ⟨rfl, hB.trans (Below.mono (by assumption) hz)⟩
end Go.Proofs.YtppapeoainafbaaDoor

namespace Go.Proofs.YtppapeoainafbaaDoor
open Go.RowKit
/-! ### the law PidTexts -/
theorem parseP_tuple (r : Option Pid) : ∃ a b c : Int, parseV r = .tuple #[.agg #[.int .u16 a, .int .u32 b], .int .i64 c] := by
  cases r with
  | none => exact ⟨0, 0, 5, rfl⟩
  | some p => exact ⟨p.1, p.2, 0, rfl⟩
set_option maxHeartbeats 3200000 in
theorem pidTexts_law {x y : Nat} (s : Str) (hx : x < 65536) (hy : y < 4294967296) (w : World) (he : EnvOk w) :
    Calls Tryd.prog 3 #[.agg #[.int .u16 x, .int .u32 y], .string ⟨s.toArray⟩] w fun e w' => e = .returned (.bool true) ∧ Below w.heap.size w w' := by
  obtain ⟨W1, hW1⟩ : ∃ W1, w.alloc (.cells #[.int .u16 x, .int .u32 y] 25) = W1 := ⟨_, rfl⟩
  have hb1 : Below w.heap.size w W1 := by rw [← hW1]; exact (Below.refl _ _).alloc (Nat.le_refl _) _
  have k0 : W1.cell? ⟨w.heap.size, 0, none⟩ = some (.int .u16 x) := by rw [← hW1]; simp
  have k1 : W1.cell? ⟨w.heap.size, 1, none⟩ = some (.int .u32 y) := by rw [← hW1]; simp
  have HB1 := hid hb1
  by_cases hs : 2000 < s.length
  · have i1 : decide ((s.length : Int) > 2000) = true := decide_eq_true (by omega)
    have i2 : ¬ (s.length : Int) ≤ 2000 := by omega
    have i3 : (2000 : Int) < s.length := by omega
    have C0 := hid (awakeP_any W1 (he.ext hb1).tab)
    clear hb1 k0 k1
    go_enter Tryd.func3, Tryd.ntmps3
    go_wp2_with fail
    (refine C0.out.mono ?_)
    rintro e w2 ⟨rfl, hb2⟩
    have HB2 := hid (HB1.out.trans (hb2.mono HB1.out.size))
    clear hb2 C0 hW1
    go_wp2_with fail
    go_ret
    exact ⟨rfl, HB2.out⟩
  · have i1 : decide ((s.length : Int) > 2000) = false := decide_eq_false (by omega)
    have i2 : (s.length : Int) ≤ 2000 := by omega
    have i3 : ¬ (2000 : Int) < s.length := by omega
    obtain ⟨t, ht⟩ : ∃ t, printP ((x : Int), (y : Int)) = t := ⟨_, rfl⟩
    have htl : t.length ≤ 100000 := by
      rw [← ht]
      obtain ⟨l0, l1⟩ := printP_len hx hy
      unfold printP
      simp
      omega
    have hpt : parseP t = some ((x : Int), (y : Int)) := by rw [← ht]; exact parse_print (by omega) (by omega)
    have HPT := hid hpt
    obtain ⟨a, b, c, habc⟩ := parseP_tuple (parseP s)
    have HA := hid habc
    have HL := hid htl
    have HE := hid he
    have C1 := hid (print_any hx hy W1 (he.ext hb1).tab)
    rw [ht] at C1
    have HT := hid ht
    clear hb1 hpt habc htl ht hs he
    have CP : Hid (∀ W, Below w.heap.size w W → Calls Tryd.prog 7 #[.string ⟨s.toArray⟩] W fun e w' => e = .returned (.tuple #[.agg #[.int .u16 a, .int .u32 b], .int .i64 c]) ∧ Below W.heap.size W w') := hid fun W h => by
      have := parse_any s (by omega) W (HE.out.ext h) (hid rfl)
      rw [HA.out] at this
      exact this
    have CR : Hid (∀ W, Below w.heap.size w W → Calls Tryd.prog 8 #[.string ⟨s.toArray⟩] W fun e w' => e = .returned (.tuple #[.agg #[.int .u16 a, .int .u32 b], .int .i64 c]) ∧ Below W.heap.size W w') := hid fun W h => by
      have := refParse_any s (by omega) W (hid rfl)
      rw [← parse_eq, HA.out] at this
      exact this
    go_enter Tryd.func3, Tryd.ntmps3
    go_wp2_with fail
    (refine C1.out.mono ?_)
    rintro e w2 ⟨rfl, hb2⟩
    have HB2 := hid (HB1.out.trans (hb2.mono HB1.out.size))
    have k0 := cell_toP k0 hb2
    have k1 := cell_toP k1 hb2
    have C2 := hid (parse_any t HL.out w2 (HE.out.ext HB2.out) HPT)
    clear hb2 C1 hW1
    go_wp2_with fail
    (refine C2.out.mono ?_)
    rintro e w3 ⟨rfl, hb3⟩
    have HB3 := hid (HB2.out.trans (hb3.mono HB2.out.size))
    have k0 := cell_toP k0 hb3
    have k1 := cell_toP k1 hb3
    clear hb3 C2
    unfold parseV
    obtain ⟨W4, hW4⟩ : ∃ W4, w3.alloc (.cells #[.int .u16 x, .int .u32 y] 25) = W4 := ⟨_, rfl⟩
    have hb4 : Below w3.heap.size w3 W4 := by rw [← hW4]; exact (Below.refl _ _).alloc (Nat.le_refl _) _
    have l0 : W4.cell? ⟨w3.heap.size, 0, none⟩ = some (.int .u16 x) := by rw [← hW4]; simp
    have l1 : W4.cell? ⟨w3.heap.size, 1, none⟩ = some (.int .u32 y) := by rw [← hW4]; simp
    have k0 := cell_toP k0 hb4
    have k1 := cell_toP k1 hb4
    have HB4 := hid (HB3.out.trans (hb4.mono HB3.out.size))
    clear hb4
    go_wp2_with fail
    (refine (CP.out _ HB4.out).mono ?_)
    rintro e w5 ⟨rfl, hb5⟩
    have HB5 := hid (HB4.out.trans (hb5.mono HB4.out.size))
    have k0 := cell_toP k0 hb5
    have k1 := cell_toP k1 hb5
    have l0 := cell_toP l0 hb5
    have l1 := cell_toP l1 hb5
    clear hb5 hW4 CP
    obtain ⟨W6, hW6⟩ : ∃ W6, w5.alloc (.cells #[.int .u16 a, .int .u32 b] 25) = W6 := ⟨_, rfl⟩
    have hb6 : Below w5.heap.size w5 W6 := by rw [← hW6]; exact (Below.refl _ _).alloc (Nat.le_refl _) _
    have m0 : W6.cell? ⟨w5.heap.size, 0, none⟩ = some (.int .u16 a) := by rw [← hW6]; simp
    have m1 : W6.cell? ⟨w5.heap.size, 1, none⟩ = some (.int .u32 b) := by rw [← hW6]; simp
    have k0 := cell_toP k0 hb6
    have k1 := cell_toP k1 hb6
    have l0 := cell_toP l0 hb6
    have l1 := cell_toP l1 hb6
    have HB6 := hid (HB5.out.trans (hb6.mono HB5.out.size))
    clear hb6
    go_wp2_with fail
    (refine (CR.out _ HB6.out).mono ?_)
    rintro e w7 ⟨rfl, hb7⟩
    have HB7 := hid (HB6.out.trans (hb7.mono HB6.out.size))
    have k0 := cell_toP k0 hb7
    have k1 := cell_toP k1 hb7
    have l0 := cell_toP l0 hb7
    have l1 := cell_toP l1 hb7
    have m0 := cell_toP m0 hb7
    have m1 := cell_toP m1 hb7
    clear hb7 hW6 CR
    obtain ⟨wr, hwr⟩ : ∃ wr, w7.alloc (.cells #[.int .u16 a, .int .u32 b] 25) = wr := ⟨_, rfl⟩
    have hb8 : Below w7.heap.size w7 wr := by rw [← hwr]; exact (Below.refl _ _).alloc (Nat.le_refl _) _
    have n0 : wr.cell? ⟨w7.heap.size, 0, none⟩ = some (.int .u16 a) := by rw [← hwr]; simp
    have n1 : wr.cell? ⟨w7.heap.size, 1, none⟩ = some (.int .u32 b) := by rw [← hwr]; simp
    have k0 := cell_toP k0 hb8
    have k1 := cell_toP k1 hb8
    have l0 := cell_toP l0 hb8
    have l1 := cell_toP l1 hb8
    have m0 := cell_toP m0 hb8
    have m1 := cell_toP m1 hb8
    have HB8 := hid (HB7.out.trans (hb8.mono HB7.out.size))
    have HF : Hid (∀ W, Below wr.heap.size wr W → W.cell? ⟨w.heap.size, 0, none⟩ = some (.int .u16 x) ∧ W.cell? ⟨w.heap.size, 1, none⟩ = some (.int .u32 y) ∧ W.cell? ⟨w3.heap.size, 0, none⟩ = some (.int .u16 x) ∧ W.cell? ⟨w3.heap.size, 1, none⟩ = some (.int .u32 y) ∧ W.cell? ⟨w5.heap.size, 0, none⟩ = some (.int .u16 a) ∧ W.cell? ⟨w5.heap.size, 1, none⟩ = some (.int .u32 b) ∧ W.cell? ⟨w7.heap.size, 0, none⟩ = some (.int .u16 a) ∧ W.cell? ⟨w7.heap.size, 1, none⟩ = some (.int .u32 b)) := hid fun W h => ⟨cell_toP k0 h, cell_toP k1 h, cell_toP l0 h, cell_toP l1 h, cell_toP m0 h, cell_toP m1 h, cell_toP n0 h, cell_toP n1 h⟩
    have CA : Hid (∀ W, Below wr.heap.size wr W → Calls Tryd.prog 5 #[] W fun e w' => e = .returned (.bool true) ∧ Below wr.heap.size wr w') := hid fun W h => relP h (awakeP_any W ((HE.out.ext HB8.out).ext h).tab) rfl
    have CQ : Hid (∀ W, Below wr.heap.size wr W → Calls Tryd.prog 9 #[.agg #[.int .u16 x, .int .u32 y]] W fun e w' => e = .returned (.string ⟨t.toArray⟩) ∧ Below wr.heap.size wr w') := hid fun W h => relP h (refPrint_any hx hy W) (by rw [HT.out])
    have H0 : Below wr.heap.size wr wr := Below.refl _ _
    have q1 := fun W => eql_pid (x : Int) (y : Int) (x : Int) (y : Int) W
    have q2 := fun W => eql_pid a b a b W
    simp only [decide_true] at q1 q2
    clear hb8
    go_wp2_with (first
      | (go_at_call 9; refine (CQ.out _ (by assumption)).mono ?_; rintro e w9 ⟨rfl, hb9⟩; obtain ⟨k0, k1, l0, l1, m0, m1, n0, n1⟩ := HF.out _ hb9)
      | (go_at_call 5; refine (CA.out _ (by assumption)).mono ?_; rintro e w10 ⟨rfl, hb10⟩))
    go_ret
    exact ⟨rfl, HB8.out.trans (Below.mono (by assumption) HB8.out.size)⟩
end Go.Proofs.YtppapeoainafbaaDoor

