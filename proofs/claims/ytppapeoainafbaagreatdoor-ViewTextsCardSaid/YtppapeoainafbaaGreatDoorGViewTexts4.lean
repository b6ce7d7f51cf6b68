/- Parts of the proof: XO ShelfV ShelfT Y1 Y2 Y3 Y4 Y5 A1 Z4 Z9 Z10 G1 G3. -/
import Derived.Deep.Slices
import Derived.Lib.SmallJoins
import Derived.SizedLaws
import Derived.ProofKit
import Derived.OpenShut
import Derived.Shelf.Small.Wraps
import Derived.Shelf.Strings.Split
import Derived.Shelf.Strconv.AtoiAll
import Derived.Shelf.Strconv.ErrVarAll
import Derived.Shelf.Pu.ErrVarParseUint
import Derived.Shelf.Strings.Cut
import Derived.Shelf.Strconv.Itoa2
import Derived.Lib.ItoaNum
import Derived.Lib.IndexMore
import Derived.Lib.ParseIntBCases
import Derived.Shelf.Strconv.Itoa1
import Derived.Lib.ItoaMem
import Derived.Lib.AppendIntMem
import Derived.Lib.ItoaWalk
import Derived.Lib.LaidTab
import Derived.Lib.Walk
import Derived.BigCall
import Derived.BigGuard
import Derived.Laws.BytesString
import Derived.Lib.SplitLaws
import Derived.Lib.AtoiAllCases
import Derived.Test.YtppapeoainafbaaGreatDoorX22
namespace Go.Proofs.YtppapeoainafbaaGreatDoor
open Go.RowKit Go.Deep Go.Joins Go.ChangeShapes

/-! ### from the row's reading to processes, views, bytes, commands -/
/-- every slice and string in a datum is within the form's reach -/
def Sz {H : Type} (t : TypeId) (d : DataW H) : Prop := ∀ n ∈ d.weights Tryz.prog t, n ≤ reachBytes
theorem Sz.arg {H : Type} {ts : List TypeId} {ds : List (DataW H)} (h : (DataW.weightsEach Tryz.prog ts ds).all (· ≤ reachBytes) = true) {j : Nat} {t : TypeId} {d : DataW H} (ht : ts[j]? = some t) (hd : ds[j]? = some d) : Sz t d := by
  intro n hn
  have := List.all_eq_true.1 h _ (DataW.weights_mem_each ht hd n hn)
  simpa using this
theorem mem_weightsAll {H : Type} {e : TypeId} {d : DataW H} : ∀ {l : List (DataW H)}, d ∈ l → ∀ n ∈ d.weights Tryz.prog e, n ∈ DataW.weightsAll Tryz.prog e l
  | x :: l, h, n, hn => by
    simp only [DataW.weightsAll, List.mem_append]
    rcases List.mem_cons.1 h with rfl | h
    · exact .inl hn
    · exact .inr (mem_weightsAll h n hn)
theorem Sz.slice {H : Type} {t e : TypeId} {elems spare : List (DataW H)} (h : Sz t (.slice elems spare)) (ht : Tryz.prog.underlying t = some (.slice e)) :
    (elems.length + spare.length) * Tryz.prog.bytesOf e ≤ reachBytes ∧ (∀ d ∈ elems, Sz e d) := by
  have hw : ∀ n, n ∈ (DataW.slice elems spare).weights Tryz.prog t ↔ n = (elems.length + spare.length) * Tryz.prog.bytesOf e ∨ n ∈ DataW.weightsAll Tryz.prog e elems ∨ n ∈ DataW.weightsAll Tryz.prog e spare := by
    intro n; simp [DataW.weights, ht]
  exact ⟨h _ ((hw _).2 (.inl rfl)), fun d hd n hn => h n ((hw _).2 (.inr (.inl (mem_weightsAll hd n hn))))⟩
theorem bytesPid : Tryz.prog.bytesOf 25 = 8 := by kernel_rfl
theorem bytesPids : Tryz.prog.bytesOf 30 = 24 := by kernel_rfl
theorem cellsPid : Tryz.prog.cellsOf 25 = 2 := by kernel_rfl
theorem cellsU16 : Tryz.prog.cellsOf 22 = 1 := by kernel_rfl
theorem cellsU32 : Tryz.prog.cellsOf 23 = 1 := by kernel_rfl
theorem cellsU64 : Tryz.prog.cellsOf 26 = 1 := by kernel_rfl
theorem cellsPids : Tryz.prog.cellsOf 30 = 1 := by kernel_rfl
theorem cellsLeaves : Tryz.prog.cellsOf 31 = 1 := by kernel_rfl
theorem cellsView : Tryz.prog.cellsOf 33 = 4 := by kernel_rfl
theorem list4 {α : Type} {cs : List α} (h : cs.length = 4) : ∃ c0 c1 c2 c3, cs = [c0, c1, c2, c3] := by
  match cs, h with
  | [c0, c1, c2, c3], _ => exact ⟨c0, c1, c2, c3, rfl⟩
theorem list2 {α : Type} {cs : List α} (h : cs.length = 2) : ∃ c0 c1, cs = [c0, c1] := by
  match cs, h with
  | [c0, c1], _ => exact ⟨c0, c1, rfl⟩
section
variable {H : Type} {enc : TypeId × Value → H} {w : World}
theorem open_pid {n : Nat} {cs : List Value} {x : DataW H × List MemPlace} (h : DataW.trod enc Tryz.prog w 0 (fun _ => true) true n 25 cs = some x) :
    ∃ i c : Int, cs = [.int .u16 i, .int .u32 c] ∧ 0 ≤ i ∧ i < 65536 ∧ 0 ≤ c ∧ c < 4294967296 := by
  obtain ⟨y0, y1, m, _, hl, h0, h1⟩ := trod_struct2 Tryz.underlying25 h
  rw [cellsPid] at hl
  obtain ⟨c0, c1, rfl⟩ := list2 hl
  have e0 : (([c0, c1] : List Value).drop 0).take (Tryz.prog.cellsOf 22) = [c0] := by rw [cellsU16]; rfl
  have e1 : (([c0, c1] : List Value).drop 1).take (Tryz.prog.cellsOf 23) = [c1] := by rw [cellsU32]; rfl
  obtain ⟨i, hi, _, wi⟩ := DataW.trod_int Tryz.underlying22 (e0 ▸ h0)
  obtain ⟨c, hc, _, wc⟩ := DataW.trod_int Tryz.underlying23 (e1 ▸ h1)
  cases hi; cases hc
  have b0 := bounds_u16 wi
  have b1 := bounds_u32 wc
  exact ⟨i, c, rfl, b0.1, by omega, b1.1, by omega⟩

theorem open_pids {n : Nat} {cs : List Value} {x : DataW H × List MemPlace} (h : DataW.trod enc Tryz.prog w 0 (fun _ => true) true n 30 cs = some x) (hs : Sz 30 x.1) :
    ∃ (a : Option Addr) (c : Nat) (xs : List Pid), cs = [.slice a xs.length c] ∧ PidRow w a xs ∧ WfPids xs ∧ xs.length ≤ 17592186044416 := by
  rcases open_slice Tryz.underlying30 h with ⟨hv, _⟩ | ⟨a, len, cap, m, k, D, Pl, hv, _, hl, hm, hmm, hx, hel⟩
  · exact ⟨none, 0, [], hv, .inl rfl, (by intro p hp; cases hp), by simp⟩
  · simp only [if_true] at hmm
    subst hmm
    rw [cellsPid] at hel
    have hex : ∀ i, ∃ p : Pid, i < len → (w.cell? (a.add (i * 2)) = some (.int .u16 p.1) ∧ w.cell? ((a.add (i * 2)).add 1) = some (.int .u32 p.2) ∧ 0 ≤ p.1 ∧ p.1 < 65536 ∧ 0 ≤ p.2 ∧ p.2 < 4294967296) := by
      intro i
      by_cases hi : i < len
      · obtain ⟨cs', h1, h2⟩ := hel i (by omega)
        obtain ⟨pi, pc, rfl, b0, b1, b2, b3⟩ := open_pid h2
        obtain ⟨_, _, hc⟩ := World.cells?_some h1
        exact ⟨(pi, pc), fun _ => ⟨by simpa [Addr.add] using hc 0 (by omega), by simpa using hc 1 (by omega), b0, b1, b2, b3⟩⟩
      · exact ⟨(0, 0), fun h => absurd h hi⟩
    obtain ⟨f, hf⟩ := Classical.axiomOfChoice hex
    rw [hx] at hs
    obtain ⟨hw, _⟩ := hs.slice Tryz.underlying30
    rw [bytesPid] at hw
    simp only [List.length_map, List.length_range] at hw
    have hlen : len ≤ 17592186044416 := by unfold reachBytes at hw; omega
    refine ⟨some a, m, (List.range len).map f, by rw [hv]; simp, ?_, ?_, by simpa using hlen⟩
    · by_cases h0 : len = 0
      · subst h0; exact .inl rfl
      · have ha := (hf 0 (by omega)).1
        have hsp : a.spot = none := by simpa [Addr.add] using World.cell?_spot ha
        obtain ⟨b, off, sp⟩ := a
        simp only at hsp
        subst hsp
        refine .inr ⟨b, off, rfl, ?_, fun i hi => ?_⟩
        · have := World.block_lt_of_cell? w _ ha
          simpa [addr_add] using this
        · have hi' : i < len := by simpa using hi
          obtain ⟨g1, g2, _⟩ := hf i hi'
          rw [addr_add, addr_add] at g2
          rw [addr_add] at g1
          simpa using ⟨g1, g2⟩
    · intro p hp
      obtain ⟨i, hi, rfl⟩ := List.mem_map.1 hp
      obtain ⟨_, _, g⟩ := hf i (by simpa using hi)
      exact g

theorem open_leaves {n : Nat} {v : Value} {x : DataW H × List MemPlace} (h : DataW.trod enc Tryz.prog w 0 (fun _ => true) true n 31 [v] = some x) (hs : Sz 31 x.1) :
    ∃ (a : Option Addr) (c : Nat) (ls : List (List Pid)), v = .slice a ls.length c ∧ LeafRow w a ls ∧ (∀ l ∈ ls, WfPids l) ∧ ls.length ≤ 17592186044416 ∧ ∀ l ∈ ls, l.length ≤ 17592186044416 := by
  rcases open_slice1 Tryz.underlying31 cellsPids h with ⟨hv, _⟩ | ⟨a, len, cap, m, k, Vs, D, Pl, hv, _, hl, hm, hmm, hx, hel⟩
  · cases hv
    exact ⟨none, 0, [], rfl, .inl rfl, (by intro p hp; cases hp), by simp, by intro p hp; cases hp⟩
  · cases hv
    simp only [if_true] at hmm
    subst hmm
    rw [hx] at hs
    obtain ⟨hw, hel2⟩ := hs.slice Tryz.underlying31
    rw [bytesPids] at hw
    simp only [List.length_map, List.length_range] at hw
    have hlen : len ≤ 17592186044416 := by unfold reachBytes at hw; omega
    have hex : ∀ i, ∃ l : List Pid, i < len → ∃ ai ci, (w.cell? (a.add i) = some (.slice ai l.length ci) ∧ PidRow w ai l ∧ WfPids l ∧ l.length ≤ 17592186044416) := by
      intro i
      by_cases hi : i < len
      · obtain ⟨h1, h2⟩ := hel i (by omega)
        obtain ⟨ai, ci, l, hv, hr, hw, hb⟩ := open_pids h2 (hel2 _ (List.mem_map.2 ⟨i, by simpa using hi, rfl⟩))
        have hv := List.cons.inj hv
        exact ⟨l, fun _ => ⟨ai, ci, by rw [h1, hv.1], hr, hw, hb⟩⟩
      · exact ⟨[], fun h => absurd h hi⟩
    obtain ⟨f, hf⟩ := Classical.axiomOfChoice hex
    refine ⟨some a, m, (List.range len).map f, by simp, ?_, ?_, by simpa using hlen, ?_⟩
    · by_cases h0 : len = 0
      · subst h0; exact .inl rfl
      · obtain ⟨_, _, ha, _⟩ := hf 0 (by omega)
        have hsp : a.spot = none := by simpa [Addr.add] using World.cell?_spot ha
        obtain ⟨b, off, sp⟩ := a
        simp only at hsp
        subst hsp
        refine .inr ⟨b, off, rfl, ?_, fun i hi => ?_⟩
        · have := World.block_lt_of_cell? w _ ha
          simpa [addr_add] using this
        · have hi' : i < len := by simpa using hi
          obtain ⟨ai, ci, g1, g2, _⟩ := hf i hi'
          rw [addr_add] at g1
          exact ⟨ai, ci, by simpa using g1, by simpa using g2⟩
    · intro l hl
      obtain ⟨i, hi, rfl⟩ := List.mem_map.1 hl
      obtain ⟨_, _, _, _, g, _⟩ := hf i (by simpa using hi)
      exact g
    · intro l hl
      obtain ⟨i, hi, rfl⟩ := List.mem_map.1 hl
      obtain ⟨_, _, _, _, _, g⟩ := hf i (by simpa using hi)
      exact g

/-- a view that is plain data -/
structure WfView (V : View) : Prop where
  id : 0 ≤ V.id ∧ V.id < 18446744073709551616
  ms : WfPids V.ms
  ls : ∀ l ∈ V.ls, WfPids l
  ds : WfPids V.ds
set_option maxRecDepth 100000 in
theorem open_viewL {n : Nat} {cs : List Value} {x : DataW H × List MemPlace} (h : DataW.trod enc Tryz.prog w 0 (fun _ => true) true n 33 cs = some x) (hs : Sz 33 x.1) :
    ∃ (V : View) (am al ad : Option Addr) (cm cl cd : Nat), cs = [.int .u64 V.id, .slice am V.ms.length cm, .slice al V.ls.length cl, .slice ad V.ds.length cd] ∧ ViewR w am al ad V ∧ WfView V := by
  obtain ⟨y0, y1, y2, y3, m, hx, hl, h0, h1, h2, h3⟩ := trod_struct4 Tryz.underlying33 h
  rw [cellsView] at hl
  obtain ⟨v0, v1, v2, v3, rfl⟩ := list4 hl
  have e0 : (([v0, v1, v2, v3] : List Value).drop 0).take (Tryz.prog.cellsOf 26) = [v0] := by rw [cellsU64]; rfl
  have e1 : (([v0, v1, v2, v3] : List Value).drop 1).take (Tryz.prog.cellsOf 30) = [v1] := by rw [cellsPids]; rfl
  have e2 : (([v0, v1, v2, v3] : List Value).drop 2).take (Tryz.prog.cellsOf 31) = [v2] := by rw [cellsLeaves]; rfl
  have e3 : (([v0, v1, v2, v3] : List Value).drop 3).take (Tryz.prog.cellsOf 30) = [v3] := by rw [cellsPids]; rfl
  have h0 := e0 ▸ h0
  have h1 := e1 ▸ h1
  have h2 := e2 ▸ h2
  have h3 := e3 ▸ h3
  have hw : ∀ k, (k ∈ y1.1.weights Tryz.prog 30 ∨ k ∈ y2.1.weights Tryz.prog 31 ∨ k ∈ y3.1.weights Tryz.prog 30) → k ≤ reachBytes := by
    intro k hk
    refine hs k ?_
    have e : x.1.weights Tryz.prog 33 = y0.1.weights Tryz.prog 26 ++ (y1.1.weights Tryz.prog 30 ++ (y2.1.weights Tryz.prog 31 ++ (y3.1.weights Tryz.prog 30 ++ []))) := by
      rw [hx]; simp [DataW.weights, Tryz.underlying33, DataW.weightsEach]
    rw [e]
    simp only [List.mem_append, List.append_nil]
    rcases hk with hk | hk | hk
    · exact .inr (.inl hk)
    · exact .inr (.inr (.inl hk))
    · exact .inr (.inr (.inr hk))
  obtain ⟨i, hi, _, wi⟩ := DataW.trod_int Tryz.underlying26 h0
  cases hi
  obtain ⟨am, cm, ms, hv1, rm, wm, bm⟩ := open_pids h1 (fun k hk => hw k (.inl hk))
  obtain ⟨al, cl, ls, rfl, rl, wl, bl, bl2⟩ := open_leaves h2 (fun k hk => hw k (.inr (.inl hk)))
  obtain ⟨ad, cd, ds, hv3, rd, wd, bd⟩ := open_pids h3 (fun k hk => hw k (.inr (.inr hk)))
  cases hv1; cases hv3
  have b0 := bounds_u64 wi
  exact ⟨⟨i, ms, ls, ds⟩, am, al, ad, cm, cl, cd, rfl, ⟨rm, rl, rd, by simp only; omega, by simp only; omega, by simp only; omega, fun l hl => by have := bl2 l hl; omega⟩, ⟨⟨b0.1, by simp only; omega⟩, wm, wl, wd⟩⟩
set_option maxRecDepth 100000 in
theorem open_view {base : Nat} {v : Value} {d : DataW H} {p : List MemPlace} (hv : Value.okWide Tryz.prog w .any base 33 v) (h : DataW.Trod enc Tryz.prog w 0 (fun _ => true) true 33 v d p) (hs : Sz 33 d) :
    ∃ (V : View) (am al ad : Option Addr) (cm cl cd : Nat), v = .agg #[.int .u64 V.id, .slice am V.ms.length cm, .slice al V.ls.length cl, .slice ad V.ds.length cd] ∧ ViewR w am al ad V ∧ WfView V := by
  obtain ⟨cs, rfl, hsz⟩ := Go.WideShapes.okWide_struct Tryz.underlying33 hv
  obtain ⟨fuel, hf⟩ := h
  obtain ⟨V, am, al, ad, cm, cl, cd, hcs, hR, hwf⟩ := open_viewL (x := (d, p)) hf hs
  exact ⟨V, am, al, ad, cm, cl, cd, by rw [← Array.toArray_toList (xs := cs)]; simp only [Value.cells] at hcs; rw [hcs], hR, hwf⟩
end
section
variable {H : Type} {enc : TypeId × Value → H} {w : World}
end
section
variable {H : Type} {enc : TypeId × Value → H} {w : World}
end
end Go.Proofs.YtppapeoainafbaaGreatDoor

/-
  DERIVED: THE SHELF's CONTRACTS AT THIS DUMP, IN PLAIN WORDS (tools/lay-plain.mjs out of 'YtppapeoainafbaaGreatDoorShelfVRaw.lean', which tools/lay-shelf.mjs wrote): THE SAME DECLARATIONS UNDER THE SAME NAMES: 'import', 'namespace', 'open', 'def', 'theorem' AND NOTHING ELSE: no command of the shelf's: FOR A HAND-IN. Each laying: the table of numbers ('.._ren') and one theorem, a field a fact of the dump's own or the kernel's comparison; each contract: ONE APPLICATION.
-/
namespace Go.Proofs
open Go.Shelf
def Tryz.cutsuf_ren : Go.Shelf.Ren := ⟨fun | 104 => 96 | 211 => 126 | 207 => 145 | n => n, fun | 9 => 9 | 4 => 4 | 24 => 132 | 3 => 3 | n => n, fun | n => n⟩
theorem Tryz.cutsuf : Go.Proofs.Lays.n104 Tryz.prog Tryz.cutsuf_ren := {
  mixed := by kernel_rfl
  f104 := Tryz.func96.trans (congrArg some (by kernel_rfl))
  f207 := Tryz.func145.trans (congrArg some (by kernel_rfl))
  f211 := Tryz.func126.trans (congrArg some (by kernel_rfl))
  t3 := Tryz.underlying3
  a3 := Tryz.isAgg3
  z3 := Tryz.sizeOf3
  v3 := Tryz.zeroValue3
  t4 := Tryz.underlying4
  a4 := Tryz.isAgg4
  z4 := Tryz.sizeOf4
  v4 := Tryz.zeroValue4
  t9 := Tryz.underlying9
  a9 := Tryz.isAgg9
  z9 := Tryz.sizeOf9
  v9 := Tryz.zeroValue9
  t24 := Tryz.underlying132
  a24 := Tryz.isAgg132
  z24 := Tryz.sizeOf132
  v24 := Tryz.zeroValue132 }
def Tryz.split_ren : Go.Shelf.Ren := ⟨fun | 146 => 48 | 221 => 93 | 268 => 117 | 138 => 118 | 143 => 119 | 195 => 139 | 197 => 140 | 218 => 141 | 219 => 142 | 260 => 152 | 217 => 153 | 225 => 154 | 224 => 155 | 267 => 156 | 266 => 159 | 314 => 160 | n => n, fun | 9 => 9 | 31 => 71 | 3 => 3 | 4 => 4 | 0 => 0 | 105 => 175 | 21 => 21 | 5 => 5 | 46 => 62 | 119 => 195 | 139 => 198 | 138 => 197 | 146 => 199 | 51 => 23 | n => n, fun | 1 => 3 | 3 => 4 | 4 => 5 | n => n⟩
theorem Tryz.split : Go.Proofs.Lays.n146 Tryz.prog Tryz.split_ren := {
  mixed := by kernel_rfl
  f138 := Tryz.func118.trans (congrArg some (by kernel_rfl))
  f143 := Tryz.func119.trans (congrArg some (by kernel_rfl))
  f146 := Tryz.func48.trans (congrArg some (by kernel_rfl))
  f195 := Tryz.func139.trans (congrArg some (by kernel_rfl))
  f197 := Tryz.func140.trans (congrArg some (by kernel_rfl))
  f217 := Tryz.func153.trans (congrArg some (by kernel_rfl))
  f218 := Tryz.func141.trans (congrArg some (by kernel_rfl))
  f219 := Tryz.func142.trans (congrArg some (by kernel_rfl))
  f221 := Tryz.func93.trans (congrArg some (by kernel_rfl))
  f224 := Tryz.func155.trans (congrArg some (by kernel_rfl))
  f225 := Tryz.func154.trans (congrArg some (by kernel_rfl))
  f260 := Tryz.func152.trans (congrArg some (by kernel_rfl))
  f266 := Tryz.func159.trans (congrArg some (by kernel_rfl))
  f267 := Tryz.func156.trans (congrArg some (by kernel_rfl))
  f268 := Tryz.func117.trans (congrArg some (by kernel_rfl))
  f314 := Tryz.func160.trans (congrArg some (by kernel_rfl))
  t0 := Tryz.underlying0
  a0 := Tryz.isAgg0
  z0 := Tryz.sizeOf0
  v0 := Tryz.zeroValue0
  t3 := Tryz.underlying3
  a3 := Tryz.isAgg3
  z3 := Tryz.sizeOf3
  v3 := Tryz.zeroValue3
  t4 := Tryz.underlying4
  a4 := Tryz.isAgg4
  z4 := Tryz.sizeOf4
  v4 := Tryz.zeroValue4
  t5 := Tryz.underlying5
  a5 := Tryz.isAgg5
  z5 := Tryz.sizeOf5
  v5 := Tryz.zeroValue5
  t9 := Tryz.underlying9
  a9 := Tryz.isAgg9
  z9 := Tryz.sizeOf9
  v9 := Tryz.zeroValue9
  t21 := Tryz.underlying21
  a21 := Tryz.isAgg21
  z21 := Tryz.sizeOf21
  v21 := Tryz.zeroValue21
  t31 := Tryz.underlying71
  a31 := Tryz.isAgg71
  z31 := Tryz.sizeOf71
  v31 := Tryz.zeroValue71
  t46 := Tryz.underlying62
  a46 := Tryz.isAgg62
  z46 := Tryz.sizeOf62
  v46 := Tryz.zeroValue62
  t51 := Tryz.underlying23
  a51 := Tryz.isAgg23
  z51 := Tryz.sizeOf23
  v51 := Tryz.zeroValue23
  t105 := Tryz.underlying175
  a105 := Tryz.isAgg175
  z105 := Tryz.sizeOf175
  v105 := Tryz.zeroValue175
  t119 := Tryz.underlying195
  a119 := Tryz.isAgg195
  z119 := Tryz.sizeOf195
  t138 := Tryz.underlying197
  a138 := Tryz.isAgg197
  z138 := Tryz.sizeOf197
  v138 := Tryz.zeroValue197
  t139 := Tryz.underlying198
  a139 := Tryz.isAgg198
  z139 := Tryz.sizeOf198
  v139 := Tryz.zeroValue198
  t146 := Tryz.underlying199
  a146 := Tryz.isAgg199
  z146 := Tryz.sizeOf199
  v146 := Tryz.zeroValue199
  g1 := by kernel_rfl
  g3 := by kernel_rfl
  g4 := by kernel_rfl }
def Tryz.atoi_ren : Go.Shelf.Ren := ⟨fun | 172 => 99 | 244 => 128 | 245 => 95 | 247 => 146 | 279 => 122 | 280 => 123 | 281 => 124 | 282 => 125 | 287 => 94 | 316 => 143 | 171 => 57 | 205 => 144 | 321 => 120 | 322 => 121 | 243 => 103 | 246 => 134 | 283 => 130 | 284 => 131 | 285 => 132 | 286 => 133 | 129 => 148 | 317 => 147 | 318 => 149 | 319 => 150 | 320 => 151 | 337 => 157 | 338 => 158 | n => n, fun | 9 => 9 | 3 => 3 | 75 => 82 | 76 => 96 | 4 => 4 | 5 => 5 | 167 => 158 | 37 => 29 | 0 => 0 | 85 => 183 | 2 => 2 | 168 => 161 | 53 => 26 | 175 => 83 | 46 => 62 | 210 => 180 | 127 => 140 | 145 => 193 | 143 => 191 | 21 => 21 | 171 => 166 | 173 => 169 | 212 => 187 | 51 => 23 | 20 => 20 | 213 => 188 | 232 => 201 | 233 => 202 | 80 => 101 | n => n, fun | 15 => 0 | 16 => 1 | 17 => 2 | 18 => 6 | 19 => 7 | n => n⟩
theorem Tryz.atoi : Go.Proofs.LaysC.n172 Tryz.prog Tryz.atoi_ren := {
  mixed := by kernel_rfl
  f129 := Tryz.func148.trans (congrArg some (by kernel_rfl))
  f171 := Tryz.func57.trans (congrArg some (by kernel_rfl))
  f172 := Tryz.func99.trans (congrArg some (by kernel_rfl))
  f205 := Tryz.func144.trans (congrArg some (by kernel_rfl))
  f243 := Tryz.func103.trans (congrArg some (by kernel_rfl))
  f244 := Tryz.func128.trans (congrArg some (by kernel_rfl))
  f245 := Tryz.func95.trans (congrArg some (by kernel_rfl))
  f246 := Tryz.func134.trans (congrArg some (by kernel_rfl))
  f247 := Tryz.func146.trans (congrArg some (by kernel_rfl))
  f279 := Tryz.func122.trans (congrArg some (by kernel_rfl))
  f280 := Tryz.func123.trans (congrArg some (by kernel_rfl))
  f281 := Tryz.func124.trans (congrArg some (by kernel_rfl))
  f282 := Tryz.func125.trans (congrArg some (by kernel_rfl))
  f283 := Tryz.func130.trans (congrArg some (by kernel_rfl))
  f284 := Tryz.func131.trans (congrArg some (by kernel_rfl))
  f285 := Tryz.func132.trans (congrArg some (by kernel_rfl))
  f286 := Tryz.func133.trans (congrArg some (by kernel_rfl))
  f287 := Tryz.func94.trans (congrArg some (by kernel_rfl))
  f316 := Tryz.func143.trans (congrArg some (by kernel_rfl))
  f317 := Tryz.func147.trans (congrArg some (by kernel_rfl))
  f318 := Tryz.func149.trans (congrArg some (by kernel_rfl))
  f319 := Tryz.func150.trans (congrArg some (by kernel_rfl))
  f320 := Tryz.func151.trans (congrArg some (by kernel_rfl))
  f321 := Tryz.func120.trans (congrArg some (by kernel_rfl))
  f322 := Tryz.func121.trans (congrArg some (by kernel_rfl))
  f337 := Tryz.func157.trans (congrArg some (by kernel_rfl))
  f338 := Tryz.func158.trans (congrArg some (by kernel_rfl))
  t0 := Tryz.underlying0
  a0 := Tryz.isAgg0
  z0 := Tryz.sizeOf0
  v0 := Tryz.zeroValue0
  t2 := Tryz.underlying2
  a2 := Tryz.isAgg2
  z2 := Tryz.sizeOf2
  v2 := Tryz.zeroValue2
  t3 := Tryz.underlying3
  a3 := Tryz.isAgg3
  z3 := Tryz.sizeOf3
  v3 := Tryz.zeroValue3
  t4 := Tryz.underlying4
  a4 := Tryz.isAgg4
  z4 := Tryz.sizeOf4
  v4 := Tryz.zeroValue4
  t5 := Tryz.underlying5
  a5 := Tryz.isAgg5
  z5 := Tryz.sizeOf5
  v5 := Tryz.zeroValue5
  t9 := Tryz.underlying9
  a9 := Tryz.isAgg9
  z9 := Tryz.sizeOf9
  v9 := Tryz.zeroValue9
  t20 := Tryz.underlying20
  a20 := Tryz.isAgg20
  z20 := Tryz.sizeOf20
  v20 := Tryz.zeroValue20
  t21 := Tryz.underlying21
  a21 := Tryz.isAgg21
  z21 := Tryz.sizeOf21
  v21 := Tryz.zeroValue21
  t37 := Tryz.underlying29
  a37 := Tryz.isAgg29
  z37 := Tryz.sizeOf29
  v37 := Tryz.zeroValue29
  t46 := Tryz.underlying62
  a46 := Tryz.isAgg62
  z46 := Tryz.sizeOf62
  v46 := Tryz.zeroValue62
  t51 := Tryz.underlying23
  a51 := Tryz.isAgg23
  z51 := Tryz.sizeOf23
  v51 := Tryz.zeroValue23
  t53 := Tryz.underlying26
  a53 := Tryz.isAgg26
  z53 := Tryz.sizeOf26
  v53 := Tryz.zeroValue26
  t75 := Tryz.underlying82
  a75 := Tryz.isAgg82
  z75 := Tryz.sizeOf82
  v75 := Tryz.zeroValue82
  t76 := Tryz.underlying96
  a76 := Tryz.isAgg96
  z76 := Tryz.sizeOf96
  v76 := Tryz.zeroValue96
  t85 := Tryz.underlying183
  a85 := Tryz.isAgg183
  z85 := Tryz.sizeOf183
  v85 := Tryz.zeroValue183
  t127 := Tryz.underlying140
  a127 := Tryz.isAgg140
  z127 := Tryz.sizeOf140
  v127 := Tryz.zeroValue140
  t143 := Tryz.underlying191
  a143 := Tryz.isAgg191
  z143 := Tryz.sizeOf191
  v143 := Tryz.zeroValue191
  t145 := Tryz.underlying193
  a145 := Tryz.isAgg193
  z145 := Tryz.sizeOf193
  v145 := Tryz.zeroValue193
  t167 := Tryz.underlying158
  a167 := Tryz.isAgg158
  z167 := Tryz.sizeOf158
  v167 := Tryz.zeroValue158
  t168 := Tryz.underlying161
  a168 := Tryz.isAgg161
  z168 := Tryz.sizeOf161
  v168 := Tryz.zeroValue161
  t171 := Tryz.underlying166
  a171 := Tryz.isAgg166
  z171 := Tryz.sizeOf166
  v171 := Tryz.zeroValue166
  t173 := Tryz.underlying169
  a173 := Tryz.isAgg169
  z173 := Tryz.sizeOf169
  v173 := Tryz.zeroValue169
  t175 := Tryz.underlying83
  a175 := Tryz.isAgg83
  z175 := Tryz.sizeOf83
  v175 := Tryz.zeroValue83
  t210 := Tryz.underlying180
  a210 := Tryz.isAgg180
  z210 := Tryz.sizeOf180
  v210 := Tryz.zeroValue180
  t212 := Tryz.underlying187
  a212 := Tryz.isAgg187
  z212 := Tryz.sizeOf187
  v212 := Tryz.zeroValue187
  t213 := Tryz.underlying188
  a213 := Tryz.isAgg188
  z213 := Tryz.sizeOf188
  t232 := Tryz.underlying201
  a232 := Tryz.isAgg201
  z232 := Tryz.sizeOf201
  v232 := Tryz.zeroValue201
  t233 := Tryz.underlying202
  a233 := Tryz.isAgg202
  z233 := Tryz.sizeOf202
  v233 := Tryz.zeroValue202
  g15 := by kernel_rfl
  g16 := by kernel_rfl
  g17 := by kernel_rfl
  g18 := by kernel_rfl
  g19 := by kernel_rfl
  t80 := Tryz.underlying101
  a80 := Tryz.isAgg101
  z80 := Tryz.sizeOf101
  v80 := Tryz.zeroValue101
  i0 := by kernel_rfl
  i2 := by kernel_rfl
  i3 := by kernel_rfl
  i4 := by kernel_rfl
  i5 := by kernel_rfl
  i9 := by kernel_rfl
  i20 := by kernel_rfl
  i21 := by kernel_rfl
  i37 := by kernel_rfl
  i46 := by kernel_rfl
  i51 := by kernel_rfl
  i53 := by kernel_rfl
  i75 := by kernel_rfl
  i76 := by kernel_rfl
  i80 := by kernel_rfl
  i85 := by kernel_rfl
  i127 := by kernel_rfl
  i143 := by kernel_rfl
  i145 := by kernel_rfl
  i167 := by kernel_rfl
  i168 := by kernel_rfl
  i171 := by kernel_rfl
  i173 := by kernel_rfl
  i175 := by kernel_rfl
  i210 := by kernel_rfl
  i212 := by kernel_rfl
  i232 := by kernel_rfl
  i233 := by kernel_rfl
  m15 := by kernel_rfl
  m16 := by kernel_rfl
  m17 := by kernel_rfl
  m18 := by kernel_rfl
  m19 := by kernel_rfl
  c0 := by kernel_rfl
  c2 := by kernel_rfl
  c3 := by kernel_rfl
  c4 := by kernel_rfl
  c5 := by kernel_rfl
  c9 := by kernel_rfl
  c20 := by kernel_rfl
  c21 := by kernel_rfl
  c37 := by kernel_rfl
  c46 := by kernel_rfl
  c51 := by kernel_rfl
  c53 := by kernel_rfl
  c75 := by kernel_rfl
  c76 := by kernel_rfl
  c80 := by kernel_rfl
  c85 := by kernel_rfl
  c127 := by kernel_rfl
  c143 := by kernel_rfl
  c145 := by kernel_rfl
  c167 := by kernel_rfl
  c168 := by kernel_rfl
  c171 := by kernel_rfl
  c173 := by kernel_rfl
  c175 := by kernel_rfl
  c210 := by kernel_rfl
  c212 := by kernel_rfl
  c213 := by kernel_rfl
  c232 := by kernel_rfl
  c233 := by kernel_rfl }
end Go.Proofs

/-
  DERIVED: THE SHELF's CONTRACTS AT THIS DUMP, IN PLAIN WORDS (tools/lay-plain.mjs out of 'YtppapeoainafbaaGreatDoorShelfTRaw.lean', which tools/lay-shelf.mjs wrote): THE SAME DECLARATIONS UNDER THE SAME NAMES: 'import', 'namespace', 'open', 'def', 'theorem' AND NOTHING ELSE: no command of the shelf's: FOR A HAND-IN. Each laying: the table of numbers ('.._ren') and one theorem, a field a fact of the dump's own or the kernel's comparison; each contract: ONE APPLICATION.
-/
namespace Go.Proofs
open Go.Shelf
def Tryz.puint_ren : Go.Shelf.Ren := ⟨fun | 14 => 49 | 16 => 94 | 17 => 95 | 19 => 120 | 20 => 121 | 21 => 122 | 22 => 123 | 23 => 124 | 24 => 125 | 25 => 143 | 27 => 57 | 26 => 144 | 28 => 103 | 29 => 134 | 30 => 130 | 31 => 131 | 32 => 132 | 33 => 133 | 35 => 148 | 34 => 147 | 36 => 149 | 37 => 150 | 38 => 151 | 39 => 157 | 40 => 158 | n => n, fun | 9 => 9 | 3 => 3 | 22 => 26 | 24 => 82 | 25 => 83 | 4 => 4 | 34 => 158 | 5 => 5 | 36 => 62 | 37 => 29 | 0 => 0 | 39 => 161 | 21 => 21 | 44 => 180 | 47 => 140 | 50 => 193 | 48 => 191 | 2 => 2 | 52 => 166 | 55 => 169 | 59 => 187 | 60 => 23 | 20 => 20 | 61 => 188 | 65 => 201 | 66 => 202 | 67 => 101 | n => n, fun | 0 => 0 | 1 => 1 | 2 => 2 | 3 => 6 | 4 => 7 | n => n⟩
theorem Tryz.puint : Go.Proofs.LaysPu.n14 Tryz.prog Tryz.puint_ren := {
  mixed := by kernel_rfl
  f14 := Tryz.func49.trans (congrArg some (by kernel_rfl))
  f16 := Tryz.func94.trans (congrArg some (by kernel_rfl))
  f17 := Tryz.func95.trans (congrArg some (by kernel_rfl))
  f19 := Tryz.func120.trans (congrArg some (by kernel_rfl))
  f20 := Tryz.func121.trans (congrArg some (by kernel_rfl))
  f21 := Tryz.func122.trans (congrArg some (by kernel_rfl))
  f22 := Tryz.func123.trans (congrArg some (by kernel_rfl))
  f23 := Tryz.func124.trans (congrArg some (by kernel_rfl))
  f24 := Tryz.func125.trans (congrArg some (by kernel_rfl))
  f25 := Tryz.func143.trans (congrArg some (by kernel_rfl))
  f26 := Tryz.func144.trans (congrArg some (by kernel_rfl))
  f27 := Tryz.func57.trans (congrArg some (by kernel_rfl))
  f28 := Tryz.func103.trans (congrArg some (by kernel_rfl))
  f29 := Tryz.func134.trans (congrArg some (by kernel_rfl))
  f30 := Tryz.func130.trans (congrArg some (by kernel_rfl))
  f31 := Tryz.func131.trans (congrArg some (by kernel_rfl))
  f32 := Tryz.func132.trans (congrArg some (by kernel_rfl))
  f33 := Tryz.func133.trans (congrArg some (by kernel_rfl))
  f34 := Tryz.func147.trans (congrArg some (by kernel_rfl))
  f35 := Tryz.func148.trans (congrArg some (by kernel_rfl))
  f36 := Tryz.func149.trans (congrArg some (by kernel_rfl))
  f37 := Tryz.func150.trans (congrArg some (by kernel_rfl))
  f38 := Tryz.func151.trans (congrArg some (by kernel_rfl))
  f39 := Tryz.func157.trans (congrArg some (by kernel_rfl))
  f40 := Tryz.func158.trans (congrArg some (by kernel_rfl))
  t0 := Tryz.underlying0
  a0 := Tryz.isAgg0
  z0 := Tryz.sizeOf0
  v0 := Tryz.zeroValue0
  i0 := by kernel_rfl
  t2 := Tryz.underlying2
  a2 := Tryz.isAgg2
  z2 := Tryz.sizeOf2
  v2 := Tryz.zeroValue2
  i2 := by kernel_rfl
  t3 := Tryz.underlying3
  a3 := Tryz.isAgg3
  z3 := Tryz.sizeOf3
  v3 := Tryz.zeroValue3
  i3 := by kernel_rfl
  t4 := Tryz.underlying4
  a4 := Tryz.isAgg4
  z4 := Tryz.sizeOf4
  v4 := Tryz.zeroValue4
  i4 := by kernel_rfl
  t5 := Tryz.underlying5
  a5 := Tryz.isAgg5
  z5 := Tryz.sizeOf5
  v5 := Tryz.zeroValue5
  i5 := by kernel_rfl
  t9 := Tryz.underlying9
  a9 := Tryz.isAgg9
  z9 := Tryz.sizeOf9
  v9 := Tryz.zeroValue9
  i9 := by kernel_rfl
  t20 := Tryz.underlying20
  a20 := Tryz.isAgg20
  z20 := Tryz.sizeOf20
  v20 := Tryz.zeroValue20
  i20 := by kernel_rfl
  t21 := Tryz.underlying21
  a21 := Tryz.isAgg21
  z21 := Tryz.sizeOf21
  v21 := Tryz.zeroValue21
  i21 := by kernel_rfl
  t22 := Tryz.underlying26
  a22 := Tryz.isAgg26
  z22 := Tryz.sizeOf26
  v22 := Tryz.zeroValue26
  i22 := by kernel_rfl
  t24 := Tryz.underlying82
  a24 := Tryz.isAgg82
  z24 := Tryz.sizeOf82
  v24 := Tryz.zeroValue82
  i24 := by kernel_rfl
  t25 := Tryz.underlying83
  a25 := Tryz.isAgg83
  z25 := Tryz.sizeOf83
  v25 := Tryz.zeroValue83
  i25 := by kernel_rfl
  t34 := Tryz.underlying158
  a34 := Tryz.isAgg158
  z34 := Tryz.sizeOf158
  v34 := Tryz.zeroValue158
  i34 := by kernel_rfl
  c34 := by kernel_rfl
  t36 := Tryz.underlying62
  a36 := Tryz.isAgg62
  z36 := Tryz.sizeOf62
  v36 := Tryz.zeroValue62
  i36 := by kernel_rfl
  t37 := Tryz.underlying29
  a37 := Tryz.isAgg29
  z37 := Tryz.sizeOf29
  v37 := Tryz.zeroValue29
  i37 := by kernel_rfl
  t39 := Tryz.underlying161
  a39 := Tryz.isAgg161
  z39 := Tryz.sizeOf161
  v39 := Tryz.zeroValue161
  i39 := by kernel_rfl
  t44 := Tryz.underlying180
  a44 := Tryz.isAgg180
  z44 := Tryz.sizeOf180
  v44 := Tryz.zeroValue180
  i44 := by kernel_rfl
  t47 := Tryz.underlying140
  a47 := Tryz.isAgg140
  z47 := Tryz.sizeOf140
  v47 := Tryz.zeroValue140
  i47 := by kernel_rfl
  t48 := Tryz.underlying191
  a48 := Tryz.isAgg191
  z48 := Tryz.sizeOf191
  v48 := Tryz.zeroValue191
  i48 := by kernel_rfl
  t50 := Tryz.underlying193
  a50 := Tryz.isAgg193
  z50 := Tryz.sizeOf193
  v50 := Tryz.zeroValue193
  i50 := by kernel_rfl
  t52 := Tryz.underlying166
  a52 := Tryz.isAgg166
  z52 := Tryz.sizeOf166
  v52 := Tryz.zeroValue166
  i52 := by kernel_rfl
  t55 := Tryz.underlying169
  a55 := Tryz.isAgg169
  z55 := Tryz.sizeOf169
  v55 := Tryz.zeroValue169
  i55 := by kernel_rfl
  t59 := Tryz.underlying187
  a59 := Tryz.isAgg187
  z59 := Tryz.sizeOf187
  v59 := Tryz.zeroValue187
  i59 := by kernel_rfl
  t60 := Tryz.underlying23
  a60 := Tryz.isAgg23
  z60 := Tryz.sizeOf23
  v60 := Tryz.zeroValue23
  i60 := by kernel_rfl
  t61 := Tryz.underlying188
  a61 := Tryz.isAgg188
  z61 := Tryz.sizeOf188
  t65 := Tryz.underlying201
  a65 := Tryz.isAgg201
  z65 := Tryz.sizeOf201
  v65 := Tryz.zeroValue201
  i65 := by kernel_rfl
  t66 := Tryz.underlying202
  a66 := Tryz.isAgg202
  z66 := Tryz.sizeOf202
  v66 := Tryz.zeroValue202
  i66 := by kernel_rfl
  t67 := Tryz.underlying101
  a67 := Tryz.isAgg101
  z67 := Tryz.sizeOf101
  v67 := Tryz.zeroValue101
  i67 := by kernel_rfl
  g0 := by kernel_rfl
  m0 := by kernel_rfl
  g1 := by kernel_rfl
  m1 := by kernel_rfl
  g2 := by kernel_rfl
  m2 := by kernel_rfl
  g3 := by kernel_rfl
  m3 := by kernel_rfl
  g4 := by kernel_rfl
  m4 := by kernel_rfl }
def Tryz.cut_ren : Go.Shelf.Ren := ⟨fun | 145 => 97 | 220 => 127 | 219 => 142 | 217 => 153 | 225 => 154 | 224 => 155 | 267 => 156 | 266 => 159 | 314 => 160 | n => n, fun | 9 => 9 | 4 => 4 | 59 => 134 | 3 => 3 | 5 => 5 | 46 => 62 | 146 => 199 | 51 => 23 | n => n, fun | 1 => 3 | n => n⟩
theorem Tryz.cut : Go.Proofs.Lays.n145 Tryz.prog Tryz.cut_ren := {
  mixed := by kernel_rfl
  f145 := Tryz.func97.trans (congrArg some (by kernel_rfl))
  f217 := Tryz.func153.trans (congrArg some (by kernel_rfl))
  f219 := Tryz.func142.trans (congrArg some (by kernel_rfl))
  f220 := Tryz.func127.trans (congrArg some (by kernel_rfl))
  f224 := Tryz.func155.trans (congrArg some (by kernel_rfl))
  f225 := Tryz.func154.trans (congrArg some (by kernel_rfl))
  f266 := Tryz.func159.trans (congrArg some (by kernel_rfl))
  f267 := Tryz.func156.trans (congrArg some (by kernel_rfl))
  f314 := Tryz.func160.trans (congrArg some (by kernel_rfl))
  t3 := Tryz.underlying3
  a3 := Tryz.isAgg3
  z3 := Tryz.sizeOf3
  v3 := Tryz.zeroValue3
  t4 := Tryz.underlying4
  a4 := Tryz.isAgg4
  z4 := Tryz.sizeOf4
  v4 := Tryz.zeroValue4
  t5 := Tryz.underlying5
  a5 := Tryz.isAgg5
  z5 := Tryz.sizeOf5
  v5 := Tryz.zeroValue5
  t9 := Tryz.underlying9
  a9 := Tryz.isAgg9
  z9 := Tryz.sizeOf9
  v9 := Tryz.zeroValue9
  t46 := Tryz.underlying62
  a46 := Tryz.isAgg62
  z46 := Tryz.sizeOf62
  v46 := Tryz.zeroValue62
  t51 := Tryz.underlying23
  a51 := Tryz.isAgg23
  z51 := Tryz.sizeOf23
  v51 := Tryz.zeroValue23
  t59 := Tryz.underlying134
  a59 := Tryz.isAgg134
  z59 := Tryz.sizeOf134
  v59 := Tryz.zeroValue134
  t146 := Tryz.underlying199
  a146 := Tryz.isAgg199
  z146 := Tryz.sizeOf199
  v146 := Tryz.zeroValue199
  g1 := by kernel_rfl }
def Tryz.small_ren : Go.Shelf.Ren := ⟨fun | 283 => 130 | n => n, fun | 3 => 3 | 9 => 9 | 4 => 4 | n => n, fun | n => n⟩
theorem Tryz.small : Go.Proofs.Lays.n283 Tryz.prog Tryz.small_ren := {
  mixed := by kernel_rfl
  f283 := Tryz.func130.trans (congrArg some (by kernel_rfl))
  t3 := Tryz.underlying3
  a3 := Tryz.isAgg3
  z3 := Tryz.sizeOf3
  v3 := Tryz.zeroValue3
  t4 := Tryz.underlying4
  a4 := Tryz.isAgg4
  z4 := Tryz.sizeOf4
  v4 := Tryz.zeroValue4
  t9 := Tryz.underlying9
  a9 := Tryz.isAgg9
  z9 := Tryz.sizeOf9
  v9 := Tryz.zeroValue9 }
def Tryz.ndig_ren : Go.Shelf.Ren := ⟨fun | 284 => 131 | 129 => 148 | 317 => 147 | 318 => 149 | n => n, fun | 53 => 26 | 3 => 3 | 212 => 187 | 0 => 0 | 4 => 4 | 46 => 62 | 5 => 5 | 9 => 9 | n => n, fun | 17 => 2 | n => n⟩
theorem Tryz.ndig : Go.Proofs.LaysM.n284 Tryz.prog Tryz.ndig_ren := {
  mixed := by kernel_rfl
  f129 := Tryz.func148.trans (congrArg some (by kernel_rfl))
  f284 := Tryz.func131.trans (congrArg some (by kernel_rfl))
  f317 := Tryz.func147.trans (congrArg some (by kernel_rfl))
  f318 := Tryz.func149.trans (congrArg some (by kernel_rfl))
  t0 := Tryz.underlying0
  a0 := Tryz.isAgg0
  z0 := Tryz.sizeOf0
  v0 := Tryz.zeroValue0
  t3 := Tryz.underlying3
  a3 := Tryz.isAgg3
  z3 := Tryz.sizeOf3
  v3 := Tryz.zeroValue3
  t4 := Tryz.underlying4
  a4 := Tryz.isAgg4
  z4 := Tryz.sizeOf4
  v4 := Tryz.zeroValue4
  t5 := Tryz.underlying5
  a5 := Tryz.isAgg5
  z5 := Tryz.sizeOf5
  v5 := Tryz.zeroValue5
  t9 := Tryz.underlying9
  a9 := Tryz.isAgg9
  z9 := Tryz.sizeOf9
  v9 := Tryz.zeroValue9
  t46 := Tryz.underlying62
  a46 := Tryz.isAgg62
  z46 := Tryz.sizeOf62
  v46 := Tryz.zeroValue62
  t53 := Tryz.underlying26
  a53 := Tryz.isAgg26
  z53 := Tryz.sizeOf26
  v53 := Tryz.zeroValue26
  t212 := Tryz.underlying187
  a212 := Tryz.isAgg187
  z212 := Tryz.sizeOf187
  v212 := Tryz.zeroValue187
  g17 := by kernel_rfl
  i0 := by kernel_rfl
  i3 := by kernel_rfl
  i4 := by kernel_rfl
  i5 := by kernel_rfl
  i9 := by kernel_rfl
  i46 := by kernel_rfl
  i53 := by kernel_rfl
  i212 := by kernel_rfl
  m17 := by kernel_rfl }
def Tryz.fmtb_ren : Go.Shelf.Ren := ⟨fun | 285 => 132 | n => n, fun | 37 => 29 | 53 => 26 | 3 => 3 | 4 => 4 | 51 => 23 | 9 => 9 | 5 => 5 | 0 => 0 | n => n, fun | n => n⟩
theorem Tryz.fmtb : Go.Proofs.Lays.n285 Tryz.prog Tryz.fmtb_ren := {
  mixed := by kernel_rfl
  f285 := Tryz.func132.trans (congrArg some (by kernel_rfl))
  t0 := Tryz.underlying0
  a0 := Tryz.isAgg0
  z0 := Tryz.sizeOf0
  v0 := Tryz.zeroValue0
  t3 := Tryz.underlying3
  a3 := Tryz.isAgg3
  z3 := Tryz.sizeOf3
  v3 := Tryz.zeroValue3
  t4 := Tryz.underlying4
  a4 := Tryz.isAgg4
  z4 := Tryz.sizeOf4
  v4 := Tryz.zeroValue4
  t5 := Tryz.underlying5
  a5 := Tryz.isAgg5
  z5 := Tryz.sizeOf5
  v5 := Tryz.zeroValue5
  t9 := Tryz.underlying9
  a9 := Tryz.isAgg9
  z9 := Tryz.sizeOf9
  v9 := Tryz.zeroValue9
  t37 := Tryz.underlying29
  a37 := Tryz.isAgg29
  z37 := Tryz.sizeOf29
  v37 := Tryz.zeroValue29
  t51 := Tryz.underlying23
  a51 := Tryz.isAgg23
  z51 := Tryz.sizeOf23
  v51 := Tryz.zeroValue23
  t53 := Tryz.underlying26
  a53 := Tryz.isAgg26
  z53 := Tryz.sizeOf26
  v53 := Tryz.zeroValue26 }
end Go.Proofs

namespace Go.Proofs.YtppapeoainafbaaGreatDoor
open Go.RowKit
/-! ### texts of processes, in plain words -/
abbrev Str := List UInt8
def dgOk (c : UInt8) : Prop := 48 ≤ c.toNat ∧ c.toNat ≤ 57
def valFrom (n : Nat) (s : Str) : Nat := s.foldl (fun n c => n * 10 + (c.toNat - 48)) n
theorem dgChar {d : Nat} (h : d < 10) : (UInt8.ofNat (48 + d)).toNat = 48 + d := by
  simp [UInt8.toNat_ofNat']; omega
theorem dec_ok (u : Nat) : ∀ c ∈ Lib.decDigits u, dgOk c := by
  induction u using Nat.strongRecOn with
  | _ u ih =>
    intro c hc
    rw [Lib.decDigits] at hc
    by_cases h : u < 10
    · rw [dif_pos h] at hc
      have := List.mem_singleton.1 hc
      subst this
      unfold dgOk; rw [dgChar h]; omega
    · rw [dif_neg h] at hc
      rcases List.mem_append.1 hc with hc | hc
      · exact ih (u / 10) (by omega) c hc
      · have := List.mem_singleton.1 hc
        subst this
        unfold dgOk; rw [dgChar (by omega)]; omega
theorem dec_val (u : Nat) : valFrom 0 (Lib.decDigits u) = u := by
  induction u using Nat.strongRecOn with
  | _ u ih =>
    rw [Lib.decDigits]
    by_cases h : u < 10
    · rw [dif_pos h]
      show 0 * 10 + ((UInt8.ofNat (48 + u)).toNat - 48) = u
      rw [dgChar h]; omega
    · rw [dif_neg h]
      unfold valFrom at ih ⊢
      rw [List.foldl_append, ih (u / 10) (by omega)]
      show u / 10 * 10 + ((UInt8.ofNat (48 + u % 10)).toNat - 48) = u
      rw [dgChar (by omega)]; omega
theorem dec_ne (u : Nat) : Lib.decDigits u ≠ [] := by
  rw [Lib.decDigits]
  split
  · simp
  · simp
theorem dec_len (u k : Nat) (h : u < 10 ^ (k + 1)) : (Lib.decDigits u).length ≤ k + 1 := by
  induction k generalizing u with
  | zero => rw [Lib.decDigits, dif_pos (by simpa using h)]; simp
  | succ k ih =>
    rw [Lib.decDigits]
    split
    · simp
    · rw [List.length_append]
      have := ih (u / 10) (by rw [Nat.div_lt_iff_lt_mul (by omega)]; rw [Nat.pow_succ] at h; exact h)
      simp; omega
theorem val_ge : ∀ (s : Str) (n : Nat), n ≤ valFrom n s
  | [], n => Nat.le_refl _
  | c :: r, n => by
    have := val_ge r (n * 10 + (c.toNat - 48))
    show n ≤ valFrom (n * 10 + (c.toNat - 48)) r
    omega
theorem parse_dig (M : Nat) (hM : M < 18446744073709551616) : ∀ (s : Str) (n : Nat), (∀ c ∈ s, dgOk c) → valFrom n s ≤ M → Lib.parseUintM M n s = .ok (valFrom n s)
  | [], n, _, _ => rfl
  | c :: r, n, hd, hv => by
    have hc : 48 ≤ c.toNat ∧ c.toNat ≤ 57 := hd c (List.mem_cons_self ..)
    have h1 : valFrom n (c :: r) = valFrom (n * 10 + (c.toNat - 48)) r := rfl
    rw [h1] at hv ⊢
    have h2 := val_ge r (n * 10 + (c.toNat - 48))
    unfold Lib.parseUintM
    rw [if_pos hc, if_neg (by omega), if_neg (by omega)]
    exact parse_dig M hM r _ (fun x hx => hd x (List.mem_cons_of_mem _ hx)) hv
theorem parseB_dec {B u : Nat} (hB : B ≤ 64) (h : u ≤ 2 ^ B - 1) : Lib.parseUintB B (Lib.decDigits u) = .ok u := by
  unfold Lib.parseUintB
  rw [if_neg (dec_ne u)]
  have hp : 2 ^ B ≤ 2 ^ 64 := Nat.pow_le_pow_right (by omega) hB
  have := parse_dig (2 ^ B - 1) (by omega) (Lib.decDigits u) 0 (dec_ok u) (by rw [dec_val]; exact h)
  rw [dec_val] at this
  exact this
/-! the reference's number -/
def numFrom (most n : Nat) : Str → Nat × Bool
  | [] => (n, decide (n ≤ most))
  | c :: r => if c.toNat < 48 ∨ 57 < c.toNat then (0, false) else numFrom most (n * 10 + (c.toNat - 48)) r
def numR (most : Nat) (s : Str) : Nat × Bool := if s = [] ∨ 12 < s.length then (0, false) else numFrom most 0 s
theorem num_dig (most : Nat) : ∀ (s : Str) (n : Nat), (∀ c ∈ s, dgOk c) → numFrom most n s = (valFrom n s, decide (valFrom n s ≤ most))
  | [], n, _ => rfl
  | c :: r, n, hd => by
    have hc := hd c (List.mem_cons_self ..)
    unfold dgOk at hc
    unfold numFrom
    rw [if_neg (by omega)]
    exact num_dig most r _ (fun x hx => hd x (List.mem_cons_of_mem _ hx))
theorem num_le (most : Nat) : ∀ (s : Str) (n : Nat), (numFrom most n s).2 = true → (numFrom most n s).1 ≤ most
  | [], n, h => by simpa [numFrom] using h
  | c :: r, n, h => by
    unfold numFrom at h ⊢
    split at h
    · simp at h
    · rename_i hc; rw [if_neg hc]; exact num_le most r _ h
theorem numR_dec {most u : Nat} (h : u ≤ most) (hl : u < 10 ^ 12) : numR most (Lib.decDigits u) = (u, true) := by
  unfold numR
  rw [if_neg (by
    rintro (e | e)
    · exact dec_ne u e
    · have := dec_len u 11 hl; omega), num_dig most _ 0 (dec_ok u), dec_val]
  simp [h]
theorem numR_le {most : Nat} {s : Str} (h : (numR most s).2 = true) : (numR most s).1 ≤ most := by
  unfold numR at h ⊢
  split at h
  · simp at h
  · rename_i hc; rw [if_neg hc]; exact num_le most _ _ h
/-! cutting at a byte -/
def at1 (c : UInt8) (s : Str) : Nat := s.findIdx fun x => x == c
theorem index_one (c : UInt8) : ∀ s : Str, Lib.index s [c] = if at1 c s < s.length then (at1 c s : Int) else -1
  | [] => by simp [Lib.index, at1]
  | b :: r => by
    have ih := index_one c r
    unfold Lib.index
    unfold at1 at ih ⊢
    rw [List.findIdx_cons]
    by_cases h : b = c
    · subst h
      simp [List.isPrefixOf]
    · have h1 : ([c].isPrefixOf (b :: r)) = false := by simp [List.isPrefixOf]; exact fun e => h e.symm
      have h2 : (b == c) = false := by simpa using h
      rw [if_neg (by rw [h1]; decide), ih, h2]
      simp only [cond_false, List.length_cons]
      by_cases h3 : List.findIdx (fun x => x == c) r < r.length
      · rw [if_pos h3, if_neg (by simp), if_pos (by omega)]; simp
      · rw [if_neg h3, if_pos (by decide), if_neg (by omega)]
theorem cut_one (c : UInt8) (s : Str) : Lib.cut s [c] = if at1 c s < s.length then (s.take (at1 c s), s.drop (at1 c s + 1), true) else (s, [], false) := by
  unfold Lib.cut
  rw [index_one]
  by_cases h : at1 c s < s.length
  · rw [if_pos h, if_pos h, if_pos (by omega)]; first | rfl | simp
  · rw [if_neg h, if_neg h, if_neg (by omega)]
theorem at1_app {c : UInt8} {a b : Str} (h : c ∉ a) : at1 c (a ++ c :: b) = a.length := by
  unfold at1
  rw [List.findIdx_append]
  have : ¬ List.findIdx (fun x => x == c) a < a.length := by
    intro hlt
    have := List.findIdx_getElem (w := hlt)
    have e : a[List.findIdx (fun x => x == c) a] = c := by simpa using this
    exact h (e ▸ List.getElem_mem hlt)
  rw [if_neg this]
  have : List.findIdx (fun x => x == c) (c :: b) = 0 := by rw [List.findIdx_cons]; simp
  rw [this]; simp
theorem cut_app {c : UInt8} {a b : Str} (h : c ∉ a) : Lib.cut (a ++ c :: b) [c] = (a, b, true) := by
  rw [cut_one, at1_app h, if_pos (by simp)]
  simp
/-! processes -/
def printP (p : Pid) : Str := Lib.decDigits p.1.toNat ++ 46 :: Lib.decDigits p.2.toNat
def pick2 (x y : Nat) (s : Str) : Option Pid := if printP ((x : Int), (y : Int)) = s then some ((x : Int), (y : Int)) else none
def parseP (s : Str) : Option Pid :=
  match Lib.parseUintB 16 (Lib.cut s [46]).1, Lib.parseUintB 32 (Lib.cut s [46]).2.1 with
  | .ok x, .ok y => pick2 x y s
  | _, _ => none
def refParseP (s : Str) : Option Pid :=
  if at1 46 s < s.length then
    if (numR 65535 (s.take (at1 46 s))).2 = true ∧ (numR 4294967295 (s.drop (at1 46 s + 1))).2 = true then pick2 (numR 65535 (s.take (at1 46 s))).1 (numR 4294967295 (s.drop (at1 46 s + 1))).1 s else none
  else none
theorem no_dot (u : Nat) : (46 : UInt8) ∉ Lib.decDigits u := fun h => by
  have := dec_ok u _ h
  unfold dgOk at this
  simp at this
theorem parse_print {x y : Nat} (hx : x ≤ 65535) (hy : y ≤ 4294967295) : parseP (printP ((x : Int), (y : Int))) = some ((x : Int), (y : Int)) := by
  have hc : Lib.cut (printP ((x : Int), (y : Int))) [46] = (Lib.decDigits x, Lib.decDigits y, true) := by
    unfold printP
    simp only [Int.toNat_natCast]
    exact cut_app (no_dot x)
  unfold parseP
  rw [hc]
  simp only [parseB_dec (B := 16) (by omega) (show x ≤ 2 ^ 16 - 1 by omega), parseB_dec (B := 32) (by omega) (show y ≤ 2 ^ 32 - 1 by omega)]
  unfold pick2
  rw [if_pos rfl]
theorem refParse_print {x y : Nat} (hx : x ≤ 65535) (hy : y ≤ 4294967295) : refParseP (printP ((x : Int), (y : Int))) = some ((x : Int), (y : Int)) := by
  have e : printP ((x : Int), (y : Int)) = Lib.decDigits x ++ 46 :: Lib.decDigits y := by unfold printP; simp
  have ha : at1 46 (printP ((x : Int), (y : Int))) = (Lib.decDigits x).length := by rw [e]; exact at1_app (no_dot x)
  have ht : (printP ((x : Int), (y : Int))).take (Lib.decDigits x).length = Lib.decDigits x := by rw [e]; simp
  have hd : (printP ((x : Int), (y : Int))).drop ((Lib.decDigits x).length + 1) = Lib.decDigits y := by rw [e]; simp
  unfold refParseP
  rw [ha, ht, hd, if_pos (by rw [e]; simp), numR_dec hx (by omega), numR_dec hy (by omega), if_pos ⟨rfl, rfl⟩]
  unfold pick2
  rw [if_pos rfl]
theorem pick_some {x y : Nat} {s : Str} {p : Pid} (h : pick2 x y s = some p) : p = ((x : Int), (y : Int)) ∧ s = printP ((x : Int), (y : Int)) := by
  unfold pick2 at h
  split at h
  · rename_i e; cases h; exact ⟨rfl, e.symm⟩
  · cases h
theorem parse_some {s : Str} {p : Pid} (h : parseP s = some p) : ∃ x y : Nat, x ≤ 65535 ∧ y ≤ 4294967295 ∧ p = ((x : Int), (y : Int)) ∧ s = printP ((x : Int), (y : Int)) := by
  unfold parseP at h
  split at h
  · rename_i x y hx hy
    obtain ⟨h1, h2⟩ := pick_some h
    have h3 := Lib.parseUintB_le hx
    have h4 := Lib.parseUintB_le hy
    exact ⟨x, y, by omega, by omega, h1, h2⟩
  · cases h
theorem refParse_some {s : Str} {p : Pid} (h : refParseP s = some p) : ∃ x y : Nat, x ≤ 65535 ∧ y ≤ 4294967295 ∧ p = ((x : Int), (y : Int)) ∧ s = printP ((x : Int), (y : Int)) := by
  unfold refParseP at h
  split at h
  · split at h
    · rename_i hc
      obtain ⟨h1, h2⟩ := pick_some h
      exact ⟨_, _, numR_le hc.1, numR_le hc.2, h1, h2⟩
    · cases h
  · cases h
theorem parse_eq (s : Str) : parseP s = refParseP s := by
  cases h : parseP s with
  | some p =>
    obtain ⟨x, y, hx, hy, rfl, rfl⟩ := parse_some h
    exact (refParse_print hx hy).symm
  | none =>
    cases h2 : refParseP s with
    | none => rfl
    | some p =>
      obtain ⟨x, y, hx, hy, rfl, rfl⟩ := refParse_some h2
      rw [parse_print hx hy] at h
      cases h
end Go.Proofs.YtppapeoainafbaaGreatDoor

namespace Go.Proofs.YtppapeoainafbaaGreatDoor
open Go.RowKit
/-! ### strconv.FormatUint and the reference's Digits -/
def TabOk (w : World) : Prop := Lib.TabIs Tryz.prog w "internal/strconv.uint64pow10" .u64 Lib.pow10Tab
theorem TabOk.ext {w w' : World} (h : TabOk w) (hb : Below w.heap.size w w') : TabOk w' := by
  have h0 := h
  unfold TabOk Lib.TabIs World.var? at h ⊢
  cases hg : Tryz.prog.globalNamed "internal/strconv.uint64pow10" with
  | none => simp [hg] at h
  | some g =>
    simp only [hg, Option.bind_some] at h ⊢
    cases hk : w.heap[g]? with
    | none => simp [hk] at h
    | some o =>
      have hlt : g < w.heap.size := (Array.getElem?_eq_some_iff.1 hk).1
      rw [hb.block g hlt]
      exact h
theorem smallI_any (i : Nat) (h : i < 100) (w : World) : Calls Tryz.prog 130 #[.int .i64 i] w fun e w' => e = .returned (.string ⟨(Lib.decDigits i).toArray⟩) ∧ w' = w := Any.internal_strconv_small Tryz.small i h w
theorem ndig_any (u : Nat) (h1 : 1 ≤ u) (h2 : u < 18446744073709551616) (w : World) (ht : TabOk w) : Calls Tryz.prog 131 #[.int .u64 u] w fun e w' => e = .returned (.int .i64 (Lib.nDigits u)) ∧ w' = w := Any.internal_strconv_numDigits Tryz.ndig u h1 h2 w ht
theorem fmtb_any (blk off cap u : Nat) (d : Array UInt8) (w : World) (hH : Go.Sort.Holds (fun (b : UInt8) => Value.int .u8 (b.toNat : Int)) w blk off d) (hu : u < 10 ^ d.size) (hu64 : u < 18446744073709551616) (hsz : d.size < 4611686018427387904) :
    Calls Tryz.prog 132 #[.slice (some ⟨blk, off, none⟩) d.size cap, .int .u64 u] w fun e w' =>
      e = .returned (.tuple #[]) ∧ ∃ (n v' : Nat) (dk : Array UInt8), w' = (Go.Sort.putRow (fun (b : UInt8) => Value.int .u8 (b.toNat : Int)) w blk off dk).drewN n ∧ Lib.FmtInv d.size u 0 v' dk := Any.internal_strconv_formatBase10 Tryz.fmtb blk off cap u d w hH hu hu64 hsz
set_option maxHeartbeats 3200000 in
set_option maxRecDepth 100000 in
theorem fmtI_any (u : Nat) (hu64 : u < 18446744073709551616) (w : World) (ht : TabOk w) :
    Calls Tryz.prog 102 #[.int .u64 u, .int .i64 10] w fun e w' => e = .returned (.string ⟨(Lib.decDigits u).toArray⟩) ∧ Below w.heap.size w w' := by
  by_cases hs : u < 100
  · have C1 := Lib.hid (smallI_any u hs w)
    have i1 : (u : Int) < 100 := by omega
    have i2 : decide ((u : Int) < 100) = true := decide_eq_true i1
    have i3 : IntKind.i64.wrap (u : Int) = u := by rw [IntKind.wrap_i64] <;> omega
    go_enter Tryz.func102, Tryz.ntmps102
    go_wp2_with fail
    (with_reducible refine C1.out.mono ?_)
    rintro e w3 ⟨rfl, rfl⟩
    go_wp2
    go_ret
    exact ⟨rfl, Below.refl _ _⟩
  · have hu1 : 1 ≤ u := by omega
    have i1 : ¬ (u : Int) < 100 := by omega
    have i2 : decide ((u : Int) < 100) = false := decide_eq_false i1
    have hnd20 : Lib.nDigits u ≤ 20 := by have := Lib.numDigits_eq u hu1 hu64; split at this <;> omega
    have hal : Tryz.prog.arrayLen 166 = 24 := by kernel_rfl
    have hsl : ∀ W, (Instr.sliceAt 166 (.pointer (some ⟨w.heap.size, 0, none⟩)) none (some (.int .i64 (Lib.nDigits u : Int))) none).run Tryz.prog W = .ok (.slice (some ⟨w.heap.size, 0, none⟩) (Lib.nDigits u) 24) W := fun W => by
      rw [run_sliceAt_array_h W 166 ⟨w.heap.size, 0, none⟩ (by kernel_rfl) .i64 (Lib.nDigits u : Int) (by omega) (by rw [hal]; omega)]
      rw [hal]
      go_simp
    have hH0 := Lib.holds_zero0 w 166 (Lib.nDigits u) (by omega)
    have hfmt := fmtb_any w.heap.size 0 24 u (Array.replicate (Lib.nDigits u) 0) (w.alloc (.cells Lib.zeros24 166)) hH0 (by rw [Array.size_replicate]; exact Lib.lt_pow_nDigits u) hu64 (by rw [Array.size_replicate]; omega)
    rw [Array.size_replicate] at hfmt
    have HH0 := Lib.hid hH0
    have HF := Lib.hid hfmt
    have C1 := Lib.hid (ndig_any u hu1 hu64 (w.alloc (.cells Lib.zeros24 166)) (ht.ext ((Below.refl _ _).alloc (Nat.le_refl _) _)))
    clear hH0 hal hfmt
    go_enter Tryz.func102, Tryz.ntmps102
    go_wp2_with fail
    (refine C1.out.mono ?_)
    rintro e w3 ⟨rfl, rfl⟩
    go_wp2_with fail
    (refine HF.out.mono ?_)
    rintro e w3 ⟨rfl, k, v', dk, rfl, hF⟩
    have hcv : (convert 29 9 (.slice (some ⟨w.heap.size, 0, none⟩) (Lib.nDigits u) 24)).run Tryz.prog ((Go.Sort.putRow (fun (b : UInt8) => Value.int .u8 (b.toNat : Int)) (w.alloc (.cells Lib.zeros24 166)) w.heap.size 0 dk).drewN k) = .ok (.string ⟨(Lib.decDigits u).toArray⟩) ((Go.Sort.putRow (fun (b : UInt8) => Value.int .u8 (b.toNat : Int)) (w.alloc (.cells Lib.zeros24 166)) w.heap.size 0 dk).drewN k) := by
      have h := run_convert_bytes_back (P := Tryz.prog) ((Go.Sort.putRow (fun (b : UInt8) => Value.int .u8 (b.toNat : Int)) (w.alloc (.cells Lib.zeros24 166)) w.heap.size 0 dk).drewN k) 29 9 5 ⟨w.heap.size, 0, none⟩ 24 (Lib.decDigits u) Tryz.underlying29 Tryz.underlying5 Tryz.underlying9 (fun j hj => by
        rw [Lib.row_is_numeral hF j hj, Lib.add_plain, World.cell?_drewN]
        exact Go.Sort.cell?_putRow (fun (b : UInt8) => Value.int .u8 (b.toNat : Int)) _ w.heap.size 0 _ dk HH0.out (by rw [hF.size, Array.size_replicate]) j (by rw [hF.size]; rw [Lib.decDigits_length] at hj; exact hj))
      rw [Lib.decDigits_length] at h
      exact h
    go_wp2
    go_ret
    obtain ⟨os, eo⟩ := Lib.fin_at w (.cells Lib.zeros24 166) dk k 0
    exact ⟨rfl, by rw [eo]; exact Lib.below_grow w.heap.size w (Nat.le_refl _) k os⟩
theorem fmt_any (u : Nat) (hu64 : u < 18446744073709551616) (w : World) (ht : TabOk w) :
    Calls Tryz.prog 56 #[.int .u64 u, .int .i64 10] w fun e w' => e = .returned (.string ⟨(Lib.decDigits u).toArray⟩) ∧ Below w.heap.size w w' := by
  have C1 := Lib.hid (fmtI_any u hu64 w ht)
  go_enter Tryz.func56, Tryz.ntmps56
  go_wp2_with fail
  (refine C1.out.mono ?_)
  rintro e w3 ⟨rfl, hb⟩
  have HB := Lib.hid hb
  clear hb
  go_wp2
  go_ret
  exact ⟨rfl, HB.out⟩
end Go.Proofs.YtppapeoainafbaaGreatDoor

namespace Go.Proofs.YtppapeoainafbaaGreatDoor
open Go.RowKit
/-! ### Digits of the reference, Print of both -/
theorem run_dig (n : Nat) (h : n < 10) (W : World) : (Instr.slice 9 (.string ⟨#[48, 49, 50, 51, 52, 53, 54, 55, 56, 57]⟩) (some (.int .u64 (n : Int))) (some (.int .u64 ((n : Int) + 1))) none).run Tryz.prog W = .ok (.string ⟨(Lib.decDigits n).toArray⟩) W := by
  have hz : (⟨#[48, 49, 50, 51, 52, 53, 54, 55, 56, 57]⟩ : ByteArray).size = 10 := rfl
  rw [run_slice_string W 9 _ .u64 .u64 _ _ Tryz.underlying9 (by omega) (by omega) (by rw [hz]; omega), show ((n : Int)).toNat = n by omega, show ((n : Int) + 1).toNat = n + 1 by omega]
  congr 2
  rw [Lib.decDigits_one h]
  have : n = 0 ∨ n = 1 ∨ n = 2 ∨ n = 3 ∨ n = 4 ∨ n = 5 ∨ n = 6 ∨ n = 7 ∨ n = 8 ∨ n = 9 := by omega
  rcases this with rfl | rfl | rfl | rfl | rfl | rfl | rfl | rfl | rfl | rfl <;> first | rfl | decide +kernel
theorem cell_extY {w : World} {a : Addr} {v : Value} (h : w.cell? a = some v) : ∀ U : ExtW w, U.W.cell? a = some v := fun U => (U.h.cell (World.block_lt_of_cell? w _ h)).trans h
theorem run_cat (a b : Str) (ha : a.length ≤ 8000000) (hb : b.length ≤ 8000000) (W : World) : (Op.stringOp .add ⟨a.toArray⟩ ⟨b.toArray⟩).run Tryz.prog W = .ok (.string ⟨(a ++ b).toArray⟩) W :=
  run_string_add_lists W a b (by omega) (by omega)
set_option maxHeartbeats 1600000 in
theorem digits_any (n : Nat) : n < 18446744073709551616 → ∀ w : World, Calls Tryz.prog 63 #[.int .u64 n] w fun e w' => e = .returned (.string ⟨(Lib.decDigits n).toArray⟩) ∧ Below w.heap.size w w' := by
  induction n using Nat.strongRecOn with
  | _ n ih =>
    intro hn w
    by_cases h : n < 10
    · have U := run_dig n h
      have i1 : (n : Int) < 10 := by omega
      have i2 : decide ((n : Int) < 10) = true := decide_eq_true i1
      have i3 : IntKind.u64.wrap ((n : Int) + 1) = (n : Int) + 1 := by rw [IntKind.wrap_u64]; omega
      clear ih
      go_enter Tryz.func63, Tryz.ntmps63
      go_wp2
      go_ret
      exact ⟨rfl, Below.refl _ _⟩
    · have i1 : ¬ (n : Int) < 10 := by omega
      have i2 : decide ((n : Int) < 10) = false := decide_eq_false i1
      have U := run_dig (n % 10) (Nat.mod_lt _ (by omega))
      have e1 : ((n / 10 : Nat) : Int) = (n : Int) / 10 := by omega
      have hl1 := dec_len (n / 10) 19 (by omega)
      have hl2 := dec_len (n % 10) 19 (by omega)
      have hadd := run_cat (Lib.decDigits (n / 10)) (Lib.decDigits (n % 10)) (by omega) (by omega)
      clear hl1 hl2
      have e2 : ((n % 10 : Nat) : Int) = (n : Int) % 10 := by omega
      rw [e2] at U
      have CX : ∀ V : ExtW w, Calls Tryz.prog 63 #[.int .u64 ((n / 10 : Nat) : Int)] V.W fun e w' => e = .returned (.string ⟨(Lib.decDigits (n / 10)).toArray⟩) ∧ ∃ V' : ExtW w, w' = V'.W := fun V => by
        refine (ih (n / 10) (by omega) (by omega) V.W).mono ?_
        rintro e w' ⟨rfl, hb⟩
        exact ⟨rfl, ⟨_, V.h.trans (hb.mono V.h.size)⟩, rfl⟩
      rw [e1] at CX
      have CX := hid CX
      clear ih e1 e2
      go_enter Tryz.func63, Tryz.ntmps63
      go_wp2
      refine wp_region_ext (w := w) (Below.refl _ _) (by kernel_rfl) (by kernel_rfl) ?_
      repeat (go_big_quiet_step (with_reducible exact CX.out _))
      refine wpQuiet_nil ?_
      rintro w9 ⟨⟨_, hb9⟩, rfl⟩
      have HB9 := hid hb9
      have e : Lib.decDigits n = Lib.decDigits (n / 10) ++ Lib.decDigits (n % 10) := by
        rw [Lib.decDigits, dif_neg h, Lib.decDigits_one (Nat.mod_lt _ (by omega))]
      have HE := hid e
      clear hb9 CX U hadd
      go_wp2
      go_ret
      refine ⟨?_, HB9.out⟩
      rw [HE.out]; rfl
theorem printP_len {x y : Nat} (hx : x < 65536) (hy : y < 4294967296) : (Lib.decDigits x).length ≤ 20 ∧ (Lib.decDigits y).length ≤ 20 := ⟨dec_len x 19 (by omega), dec_len y 19 (by omega)⟩
set_option maxHeartbeats 1600000 in
theorem print_any {x y : Nat} (hx : x < 65536) (hy : y < 4294967296) (w : World) (ht : TabOk w) :
    Calls Tryz.prog 27 #[.agg #[.int .u16 x, .int .u32 y]] w fun e w' => e = .returned (.string ⟨(printP ((x : Int), (y : Int))).toArray⟩) ∧ Below w.heap.size w w' := by
  obtain ⟨wr, hwr⟩ : ∃ wr, w.alloc (.cells #[.int .u16 x, .int .u32 y] 25) = wr := ⟨_, rfl⟩
  have hB : Below w.heap.size w wr := by rw [← hwr]; exact (Below.refl _ _).alloc (Nat.le_refl _) _
  have k0 : wr.cell? ⟨w.heap.size, 0, none⟩ = some (.int .u16 x) := by rw [← hwr]; simp
  have k1 : wr.cell? ⟨w.heap.size, 1, none⟩ = some (.int .u32 y) := by rw [← hwr]; simp
  have f0 := cell_extY k0
  have f1 := cell_extY k1
  have CX : ∀ n : Nat, n < 18446744073709551616 → ∀ V : ExtW wr, Calls Tryz.prog 56 #[.int .u64 (n : Int), .int .i64 10] V.W fun e w' => e = .returned (.string ⟨(Lib.decDigits n).toArray⟩) ∧ ∃ V' : ExtW wr, w' = V'.W := fun n hn V => by
    refine (fmt_any n hn V.W ((ht.ext hB).ext V.h)).mono ?_
    rintro e w' ⟨rfl, hb⟩
    exact ⟨rfl, ⟨_, V.h.trans (hb.mono V.h.size)⟩, rfl⟩
  have C0 := hid (CX x (by omega))
  have C1 := hid (CX y (by omega))
  have i0 : IntKind.u64.wrap (x : Int) = x := by rw [IntKind.wrap_u64]; omega
  have i1 : IntKind.u64.wrap (y : Int) = y := by rw [IntKind.wrap_u64]; omega
  obtain ⟨l0, l1⟩ := printP_len hx hy
  have a0 := run_cat (Lib.decDigits x) [46] (by omega) (by simp)
  have a1 := run_cat (Lib.decDigits x ++ [46]) (Lib.decDigits y) (by simp; omega) (by omega)
  have HB := hid hB
  clear l0 l1 hB CX k0 k1
  go_enter Tryz.func27, Tryz.ntmps27
  go_wp2
  clear hwr
  refine wp_region_ext (w := wr) (Below.refl _ _) (by kernel_rfl) (by kernel_rfl) ?_
  repeat (go_big_quiet_step (first | with_reducible exact C0.out _ | with_reducible exact C1.out _))
  refine wpQuiet_nil ?_
  rintro w9 ⟨⟨_, hb9⟩, rfl⟩
  have HB9 := hid (HB.out.trans (hb9.mono HB.out.size))
  clear hb9 C0 C1 a0 a1 f0 f1
  go_wp2
  go_ret
  exact ⟨rfl, HB9.out⟩
set_option maxHeartbeats 1600000 in
theorem refPrint_any {x y : Nat} (hx : x < 65536) (hy : y < 4294967296) (w : World)  :
    Calls Tryz.prog 35 #[.agg #[.int .u16 x, .int .u32 y]] w fun e w' => e = .returned (.string ⟨(printP ((x : Int), (y : Int))).toArray⟩) ∧ Below w.heap.size w w' := by
  obtain ⟨wr, hwr⟩ : ∃ wr, w.alloc (.cells #[.int .u16 x, .int .u32 y] 25) = wr := ⟨_, rfl⟩
  have hB : Below w.heap.size w wr := by rw [← hwr]; exact (Below.refl _ _).alloc (Nat.le_refl _) _
  have k0 : wr.cell? ⟨w.heap.size, 0, none⟩ = some (.int .u16 x) := by rw [← hwr]; simp
  have k1 : wr.cell? ⟨w.heap.size, 1, none⟩ = some (.int .u32 y) := by rw [← hwr]; simp
  have f0 := cell_extY k0
  have f1 := cell_extY k1
  have CX : ∀ n : Nat, n < 18446744073709551616 → ∀ V : ExtW wr, Calls Tryz.prog 63 #[.int .u64 (n : Int)] V.W fun e w' => e = .returned (.string ⟨(Lib.decDigits n).toArray⟩) ∧ ∃ V' : ExtW wr, w' = V'.W := fun n hn V => by
    refine (digits_any n hn V.W).mono ?_
    rintro e w' ⟨rfl, hb⟩
    exact ⟨rfl, ⟨_, V.h.trans (hb.mono V.h.size)⟩, rfl⟩
  have C0 := hid (CX x (by omega))
  have C1 := hid (CX y (by omega))
  have i0 : IntKind.u64.wrap (x : Int) = x := by rw [IntKind.wrap_u64]; omega
  have i1 : IntKind.u64.wrap (y : Int) = y := by rw [IntKind.wrap_u64]; omega
  obtain ⟨l0, l1⟩ := printP_len hx hy
  have a0 := run_cat (Lib.decDigits x) [46] (by omega) (by simp)
  have a1 := run_cat (Lib.decDigits x ++ [46]) (Lib.decDigits y) (by simp; omega) (by omega)
  have HB := hid hB
  clear l0 l1 hB CX k0 k1
  go_enter Tryz.func35, Tryz.ntmps35
  go_wp2
  clear hwr
  refine wp_region_ext (w := wr) (Below.refl _ _) (by kernel_rfl) (by kernel_rfl) ?_
  repeat (go_big_quiet_step (first | with_reducible exact C0.out _ | with_reducible exact C1.out _))
  refine wpQuiet_nil ?_
  rintro w9 ⟨⟨_, hb9⟩, rfl⟩
  have HB9 := hid (HB.out.trans (hb9.mono HB.out.size))
  clear hb9 C0 C1 a0 a1 f0 f1
  go_wp2
  go_ret
  exact ⟨rfl, HB9.out⟩
end Go.Proofs.YtppapeoainafbaaGreatDoor

namespace Go.Proofs.YtppapeoainafbaaGreatDoor
open Go.RowKit
/-! ### strings.Cut, strconv.ParseUint, pid.Parse -/
theorem var_ext {w w' : World} {name : String} {v : Array Value} (h : w.var? Tryz.prog name = some v) (hb : Below w.heap.size w w') : w'.var? Tryz.prog name = some v := by
  unfold World.var? at h ⊢
  cases hg : Tryz.prog.globalNamed name with
  | none => simp [hg] at h
  | some g =>
    simp only [hg, Option.bind_some] at h ⊢
    cases hk : w.heap[g]? with
    | none => simp [hk] at h
    | some o =>
      have hlt : g < w.heap.size := (Array.getElem?_eq_some_iff.1 hk).1
      rw [hb.block g hlt]
      exact h
/-- what the library's variables hold -/
structure EnvOk (w : World) : Prop where
  tab : TabOk w
  syn : ∃ t p, w.var? Tryz.prog "strconv.ErrSyntax" = some #[.iface t p]
  rng : ∃ t p, w.var? Tryz.prog "strconv.ErrRange" = some #[.iface t p]
  max : ∃ m : Int, w.cell? ⟨Tryz.cut_ren.g 1, 0, none⟩ = some (.int .i64 m)
theorem EnvOk.ext {w w' : World} (h : EnvOk w) (hb : Below w.heap.size w w') : EnvOk w' := by
  obtain ⟨t1, p1, h1⟩ := h.syn
  obtain ⟨t2, p2, h2⟩ := h.rng
  obtain ⟨m, h3⟩ := h.max
  exact ⟨h.tab.ext hb, ⟨t1, p1, var_ext h1 hb⟩, ⟨t2, p2, var_ext h2 hb⟩, ⟨m, (hb.cell (World.block_lt_of_cell? w _ h3)).trans h3⟩⟩
theorem cut_any (s sep : Str) (hs : s.length ≤ 100000) (w : World) (he : EnvOk w) :
    Calls Tryz.prog 97 #[.string ⟨s.toArray⟩, .string ⟨sep.toArray⟩] w fun e w' => e = .returned (.tuple #[.string ⟨(Lib.cut s sep).1.toArray⟩, .string ⟨(Lib.cut s sep).2.1.toArray⟩, .bool (Lib.cut s sep).2.2]) ∧ Below w.heap.size w w' := by
  obtain ⟨m, hm⟩ := he.max
  have hz : (⟨s.toArray⟩ : ByteArray).size < 4294967281 := by show s.toArray.size < _; simp; omega
  have h := Any.strings_Cut Tryz.cut ⟨s.toArray⟩ ⟨sep.toArray⟩ m w hz hm
  refine Calls.mono h ?_
  rintro e w' ⟨rfl, n, rfl⟩
  exact ⟨by simp, ⟨rfl, rfl, rfl, Nat.le_refl _, fun _ _ => rfl⟩⟩
theorem bsz (s : Str) : (⟨s.toArray⟩ : ByteArray).size = s.length := by show s.toArray.size = _; simp
theorem bdl (s : Str) : (⟨s.toArray⟩ : ByteArray).data.toList = s := by simp
def isOk {α : Type} : Lib.NumEnd α → Bool
  | .ok _ => true
  | _ => false
theorem bw_below (w : World) (s : ByteArray) (t : TypeId) : Below w.heap.size w (Lib.bytesWorld w t s) := Lib.bytesWorld_below w t s
section
variable (s : Str) (hs : s.length ≤ 100000) (w : World) (he : EnvOk w)
theorem pu16_ok (n : Nat) (h : Lib.parseUintB 16 s = .ok n) (hs : s.length ≤ 100000) : Calls Tryz.prog 49 #[.string ⟨s.toArray⟩, .int .i64 10, .int .i64 16] w fun e w' => e = .returned (.tuple #[.int .u64 n, .nilIface]) ∧ Below w.heap.size w w' := by
  have h1 := Any.strconv_ParseUint_10_at16_ok Tryz.puint ⟨s.toArray⟩ (by rw [bsz]; omega) n (by rw [bdl]; exact h) w
  refine Calls.mono h1 ?_
  rintro e w' ⟨rfl, rfl | rfl⟩
  · exact ⟨rfl, Below.refl _ _⟩
  · exact ⟨rfl, bw_below _ _ _⟩
theorem pu32_ok (n : Nat) (h : Lib.parseUintB 32 s = .ok n) (hs : s.length ≤ 100000) : Calls Tryz.prog 49 #[.string ⟨s.toArray⟩, .int .i64 10, .int .i64 32] w fun e w' => e = .returned (.tuple #[.int .u64 n, .nilIface]) ∧ Below w.heap.size w w' := by
  have h1 := Any.strconv_ParseUint_10_at32_ok Tryz.puint ⟨s.toArray⟩ (by rw [bsz]; omega) n (by rw [bdl]; exact h) w
  refine Calls.mono h1 ?_
  rintro e w' ⟨rfl, rfl | rfl⟩
  · exact ⟨rfl, Below.refl _ _⟩
  · exact ⟨rfl, bw_below _ _ _⟩
theorem pu16_bad (h : isOk (Lib.parseUintB 16 s) = false) (hs : s.length ≤ 100000) (he : EnvOk w) : Calls Tryz.prog 49 #[.string ⟨s.toArray⟩, .int .i64 10, .int .i64 16] w fun e w' => ∃ (u : Int) (t : TypeId) (N : Nat), e = .returned (.tuple #[.int .u64 u, .iface t (.pointer (some ⟨N, 0, none⟩))]) ∧ Below w.heap.size w w' := by
  obtain ⟨t1, p1, h1⟩ := he.syn
  obtain ⟨t2, p2, h2⟩ := he.rng
  rcases hr : Lib.parseUintB 16 s with n | _ | _
  · rw [hr] at h; cases h
  · refine Calls.mono (Any.strconv_ParseUint_10_at16_syntax_var Tryz.puint ⟨s.toArray⟩ (by rw [bsz]; omega) (by rw [bdl]; exact hr) t1 p1 w h1) ?_
    rintro e w' ⟨N, rfl, -, -, hb⟩
    exact ⟨_, _, N, rfl, hb⟩
  · refine Calls.mono (Any.strconv_ParseUint_10_at16_range_var Tryz.puint ⟨s.toArray⟩ (by rw [bsz]; omega) (by rw [bdl]; exact hr) t2 p2 w h2) ?_
    rintro e w' ⟨N, rfl, -, -, hb⟩
    exact ⟨_, _, N, rfl, hb⟩
theorem pu32_bad (h : isOk (Lib.parseUintB 32 s) = false) (hs : s.length ≤ 100000) (he : EnvOk w) : Calls Tryz.prog 49 #[.string ⟨s.toArray⟩, .int .i64 10, .int .i64 32] w fun e w' => ∃ (u : Int) (t : TypeId) (N : Nat), e = .returned (.tuple #[.int .u64 u, .iface t (.pointer (some ⟨N, 0, none⟩))]) ∧ Below w.heap.size w w' := by
  obtain ⟨t1, p1, h1⟩ := he.syn
  obtain ⟨t2, p2, h2⟩ := he.rng
  rcases hr : Lib.parseUintB 32 s with n | _ | _
  · rw [hr] at h; cases h
  · refine Calls.mono (Any.strconv_ParseUint_10_at32_syntax_var Tryz.puint ⟨s.toArray⟩ (by rw [bsz]; omega) (by rw [bdl]; exact hr) t1 p1 w h1) ?_
    rintro e w' ⟨N, rfl, -, -, hb⟩
    exact ⟨_, _, N, rfl, hb⟩
  · refine Calls.mono (Any.strconv_ParseUint_10_at32_range_var Tryz.puint ⟨s.toArray⟩ (by rw [bsz]; omega) (by rw [bdl]; exact hr) t2 p2 w h2) ?_
    rintro e w' ⟨N, rfl, -, -, hb⟩
    exact ⟨_, _, N, rfl, hb⟩
end
end Go.Proofs.YtppapeoainafbaaGreatDoor

namespace Go.Proofs.YtppapeoainafbaaGreatDoor
open Go.RowKit
/-! ### pid.Parse -/
def parseV : Option Pid → Value
  | some p => .tuple #[.agg #[.int .u16 p.1, .int .u32 p.2], .int .i64 0]
  | none => .tuple #[.agg #[.int .u16 0, .int .u32 0], .int .i64 5]
def PuRes (B : Nat) (s : Str) (u : Int) (ev : Value) : Prop := (∃ n : Nat, Lib.parseUintB B s = .ok n ∧ u = n ∧ ev = .nilIface) ∨ (isOk (Lib.parseUintB B s) = false ∧ ∃ (t : TypeId) (N : Nat), ev = .iface t (.pointer (some ⟨N, 0, none⟩)))
theorem ok_cases (B : Nat) (s : Str) : (∃ n, Lib.parseUintB B s = .ok n) ∨ isOk (Lib.parseUintB B s) = false := by
  rcases h : Lib.parseUintB B s with n | _ | _
  · exact .inl ⟨n, rfl⟩
  · exact .inr rfl
  · exact .inr rfl
theorem pu16_any (s : Str) (hs : s.length ≤ 100000) (w : World) (he : EnvOk w) : Calls Tryz.prog 49 #[.string ⟨s.toArray⟩, .int .i64 10, .int .i64 16] w fun e w' => ∃ u ev, e = .returned (.tuple #[.int .u64 u, ev]) ∧ PuRes 16 s u ev ∧ Below w.heap.size w w' := by
  rcases ok_cases 16 s with ⟨n, h⟩ | h
  · refine Calls.mono (pu16_ok s w n h hs) ?_
    rintro e w' ⟨rfl, hb⟩
    exact ⟨_, _, rfl, .inl ⟨n, h, rfl, rfl⟩, hb⟩
  · refine Calls.mono (pu16_bad s w h hs he) ?_
    rintro e w' ⟨u, t, N, rfl, hb⟩
    exact ⟨_, _, rfl, .inr ⟨h, t, N, rfl⟩, hb⟩
theorem pu32_any (s : Str) (hs : s.length ≤ 100000) (w : World) (he : EnvOk w) : Calls Tryz.prog 49 #[.string ⟨s.toArray⟩, .int .i64 10, .int .i64 32] w fun e w' => ∃ u ev, e = .returned (.tuple #[.int .u64 u, ev]) ∧ PuRes 32 s u ev ∧ Below w.heap.size w w' := by
  rcases ok_cases 32 s with ⟨n, h⟩ | h
  · refine Calls.mono (pu32_ok s w n h hs) ?_
    rintro e w' ⟨rfl, hb⟩
    exact ⟨_, _, rfl, .inl ⟨n, h, rfl, rfl⟩, hb⟩
  · refine Calls.mono (pu32_bad s w h hs he) ?_
    rintro e w' ⟨u, t, N, rfl, hb⟩
    exact ⟨_, _, rfl, .inr ⟨h, t, N, rfl⟩, hb⟩
theorem put2 {w : World} {b : Nat} {v0 v1 : Value} (c0 : w.cell? ⟨b, 0, none⟩ = some v0) (c1 : w.cell? ⟨b, 1, none⟩ = some v1) (u0 u1 : Value) : ((w.setCell ⟨b, 0, none⟩ u0).setCell ⟨b, 1, none⟩ u1).cell? ⟨b, 0, none⟩ = some u0 ∧ ((w.setCell ⟨b, 0, none⟩ u0).setCell ⟨b, 1, none⟩ u1).cell? ⟨b, 1, none⟩ = some u1 := by
  refine ⟨?_, ?_⟩
  · rw [World.cell?_setCell_other _ _ _ _ (by simp)]
    exact World.cell?_setCell_same _ _ _ c0
  · have h1 : (w.setCell ⟨b, 0, none⟩ u0).cell? ⟨b, 1, none⟩ = some v1 := by
      rw [World.cell?_setCell_other _ _ _ _ (by simp)]
      exact c1
    exact World.cell?_setCell_same _ _ _ h1
theorem below_put2 {B : Nat} {w W : World} {b : Nat} {u0 u1 : Value} (h : Below B w W) (hb : B ≤ b) : Below B w ((W.setCell ⟨b, 0, none⟩ u0).setCell ⟨b, 1, none⟩ u1) :=
  (h.setCell (p := ⟨b, 0, none⟩) hb u0).setCell (p := ⟨b, 1, none⟩) hb u1
set_option maxHeartbeats 3200000 in
theorem parse_any (s : Str) (hs : s.length ≤ 100000) (w : World) (he : EnvOk w) {r : Option Pid} (hr : Hid (parseP s = r)) :
    Calls Tryz.prog 98 #[.string ⟨s.toArray⟩] w fun e w' => e = .returned (parseV r) ∧ Below w.heap.size w w' := by
  obtain ⟨W1, hW1⟩ : ∃ W1, w.alloc (.cells #[.int .u16 0, .int .u32 0] 25) = W1 := ⟨_, rfl⟩
  have hb1 : Below w.heap.size w W1 := by rw [← hW1]; exact (Below.refl _ _).alloc (Nat.le_refl _) _
  have hc : W1.cell? ⟨w.heap.size, 0, none⟩ = some (.int .u16 0) ∧ W1.cell? ⟨w.heap.size, 1, none⟩ = some (.int .u32 0) ∧ W1.frozen? ⟨w.heap.size, 0, none⟩ = false ∧ W1.frozen? ⟨w.heap.size, 1, none⟩ = false := by rw [← hW1]; simp
  obtain ⟨A, hA⟩ : ∃ A, (Lib.cut s [46]).1 = A := ⟨_, rfl⟩
  obtain ⟨B, hB⟩ : ∃ B, (Lib.cut s [46]).2.1 = B := ⟨_, rfl⟩
  obtain ⟨F, hF⟩ : ∃ F, (Lib.cut s [46]).2.2 = F := ⟨_, rfl⟩
  have hlen : A.length ≤ 100000 ∧ B.length ≤ 100000 := by
    rw [cut_one] at hA hB
    split at hA
    · rename_i h
      rw [if_pos h] at hB
      rw [← hA, ← hB]
      simp; omega
    · rename_i h
      rw [if_neg h] at hB
      rw [← hA, ← hB]
      simp; omega
  have C1 := hid (cut_any s [46] hs W1 (he.ext hb1))
  rw [hA, hB, hF] at C1
  have hres := hr.out
  unfold parseP at hres
  rw [hA, hB] at hres
  have HE1 := hid (he.ext hb1)
  have HB1 := hid hb1
  have HLEN := hid hlen
  have HRES := hid hres
  have HC : Hid (∀ X, Below W1.heap.size W1 X → X.cell? ⟨w.heap.size, 0, none⟩ = some (.int .u16 0) ∧ X.cell? ⟨w.heap.size, 1, none⟩ = some (.int .u32 0) ∧ X.frozen? ⟨w.heap.size, 0, none⟩ = false ∧ X.frozen? ⟨w.heap.size, 1, none⟩ = false) := hid fun X h => by
    have hl := World.block_lt_of_cell? W1 _ hc.1
    have hfr : ∀ j, X.frozen? ⟨w.heap.size, j, none⟩ = W1.frozen? ⟨w.heap.size, j, none⟩ := fun j => by
      unfold World.frozen?
      rw [h.block w.heap.size hl]
    exact ⟨(h.cell (p := ⟨w.heap.size, 0, none⟩) hl).trans hc.1, (h.cell (p := ⟨w.heap.size, 1, none⟩) hl).trans hc.2.1, (hfr 0).trans hc.2.2.1, (hfr 1).trans hc.2.2.2⟩
  clear hb1 hc hA hB hF hlen hres he
  go_enter Tryz.func98, Tryz.ntmps98
  go_wp2_with fail
  (refine C1.out.mono ?_)
  rintro e w3 ⟨rfl, hb3⟩
  have HB3 := hid hb3
  have C2 := hid (pu16_any A HLEN.out.1 w3 (HE1.out.ext hb3))
  clear hb3 C1 hW1
  go_wp2_with fail
  (refine C2.out.mono ?_)
  rintro e w4 ⟨u, ev, rfl, hpu, hb4⟩
  have HB4 := hid (HB3.out.trans (hb4.mono HB3.out.size))
  have HP1 := hid hpu
  have C3 := hid (pu32_any B HLEN.out.2 w4 (HE1.out.ext HB4.out))
  clear hb4 C2 hpu
  go_wp2_with fail
  (refine C3.out.mono ?_)
  rintro e w5 ⟨u', ev', rfl, hpu, hb5⟩
  have HB5 := hid (HB4.out.trans (hb5.mono HB4.out.size))
  have HP2 := hid hpu
  clear hb5 C3 hpu
  have bad : ∀ (P : Prop), (isOk (Lib.parseUintB 16 A) = false ∨ isOk (Lib.parseUintB 32 B) = false) → r = none := fun _ h => by
    rw [← HRES.out]
    rcases h with h | h
    · rcases hr1 : Lib.parseUintB 16 A with n | _ | _
      · rw [hr1] at h; cases h
      · rfl
      · rfl
    · rcases hr1 : Lib.parseUintB 16 A with n | _ | _
      · rcases hr2 : Lib.parseUintB 32 B with n2 | _ | _
        · rw [hr2] at h; cases h
        · rfl
        · rfl
      · rfl
      · rfl
  rcases HP1.out with ⟨x, hx, rfl, rfl⟩ | ⟨hx, t1, N1, rfl⟩
  · rcases HP2.out with ⟨y, hy, rfl, rfl⟩ | ⟨hy, t2, N2, rfl⟩
    · have hx1 := Lib.parseUintB_le hx
      have hy1 := Lib.parseUintB_le hy
      have i0 : IntKind.u16.wrap (x : Int) = x := by rw [IntKind.wrap_u16]; omega
      have i1 : IntKind.u32.wrap (y : Int) = y := by rw [IntKind.wrap_u32]; omega
      obtain ⟨W6, hW6⟩ : ∃ W6, w5.alloc (.cells #[.int .u16 x, .int .u32 y] 25) = W6 := ⟨_, rfl⟩
      have hb6 : Below w5.heap.size w5 W6 := by rw [← hW6]; exact (Below.refl _ _).alloc (Nat.le_refl _) _
      have k0 : W6.cell? ⟨w5.heap.size, 0, none⟩ = some (.int .u16 x) := by rw [← hW6]; simp
      have k1 : W6.cell? ⟨w5.heap.size, 1, none⟩ = some (.int .u32 y) := by rw [← hW6]; simp
      have HB6 := hid (HB5.out.trans (hb6.mono HB5.out.size))
      have C4 := hid (print_any (x := x) (y := y) (by omega) (by omega) W6 (HE1.out.ext HB6.out).tab)
      clear hb6
      go_wp2_with fail
      (refine C4.out.mono ?_)
      rintro e w7 ⟨rfl, hb7⟩
      have HB7 := hid (HB6.out.trans (hb7.mono HB6.out.size))
      clear C4 hW6
      by_cases hps : printP ((x : Int), (y : Int)) = s
      · have u1 : (printP ((x : Int), (y : Int)) == s) = true := by simp [hps]
        have HPS := hid hps
        have k0' := (hb7.cell (p := ⟨w5.heap.size, 0, none⟩) (World.block_lt_of_cell? W6 _ k0)).trans k0
        have k1' := (hb7.cell (p := ⟨w5.heap.size, 1, none⟩) (World.block_lt_of_cell? W6 _ k1)).trans k1
        clear hps hb7 k0 k1
        obtain ⟨d0, d1, g0, g1⟩ := HC.out _ HB7.out
        have DD := hid (put2 d0 d1 (.int .u16 x) (.int .u32 y))
        have HF := hid (below_put2 (b := w.heap.size) (u0 := .int .u16 x) (u1 := .int .u32 y) (HB1.out.trans (HB7.out.mono HB1.out.size)) (Nat.le_refl _))
        have HR : Hid (r = some ((x : Int), (y : Int))) := hid (by rw [← HRES.out, hx, hy]; show pick2 x y s = _; unfold pick2; rw [if_pos HPS.out])
        go_wp2_with fail
        obtain ⟨q0, q1⟩ := DD.out
        refine bodyPost_ret (v := .tuple #[.agg #[.int .u16 x, .int .u32 y], .int .i64 0]) (by simp [results, Tryz.results98, go_sem, q0, q1]) rfl ⟨by rw [HR.out]; rfl, HF.out⟩
      · have u1 : (printP ((x : Int), (y : Int)) == s) = false := by simpa using hps
        have HPS := hid hps
        clear hps hb7 k0 k1
        obtain ⟨d0, d1, g0, g1⟩ := HC.out _ HB7.out
        have DD := hid (put2 d0 d1 (.int .u16 0) (.int .u32 0))
        have HF := hid (below_put2 (b := w.heap.size) (u0 := .int .u16 0) (u1 := .int .u32 0) (HB1.out.trans (HB7.out.mono HB1.out.size)) (Nat.le_refl _))
        have HR : Hid (r = none) := hid (by rw [← HRES.out, hx, hy]; show pick2 x y s = _; unfold pick2; rw [if_neg HPS.out])
        go_wp2_with fail
        obtain ⟨q0, q1⟩ := DD.out
        refine bodyPost_ret (v := .tuple #[.agg #[.int .u16 0, .int .u32 0], .int .i64 5]) (by simp [results, Tryz.results98, go_sem, q0, q1]) rfl ⟨by rw [HR.out]; rfl, HF.out⟩
    · obtain ⟨W6, hW6⟩ : ∃ W6, w5.alloc (.cells #[.int .u16 (IntKind.u16.wrap (x : Int)), .int .u32 (u' % 4294967296)] 25) = W6 := ⟨_, rfl⟩
      have hb6 : Below w5.heap.size w5 W6 := by rw [← hW6]; exact (Below.refl _ _).alloc (Nat.le_refl _) _
      have HB6 := hid (HB5.out.trans (hb6.mono HB5.out.size))
      clear hb6
      obtain ⟨d0, d1, g0, g1⟩ := HC.out _ HB6.out
      have DD := hid (put2 d0 d1 (.int .u16 0) (.int .u32 0))
      have HF := hid (below_put2 (b := w.heap.size) (u0 := .int .u16 0) (u1 := .int .u32 0) (HB1.out.trans (HB6.out.mono HB1.out.size)) (Nat.le_refl _))
      have HR : Hid (r = none) := hid (bad True (.inr hy))
      go_wp2_with fail
      obtain ⟨q0, q1⟩ := DD.out
      refine bodyPost_ret (v := .tuple #[.agg #[.int .u16 0, .int .u32 0], .int .i64 5]) (by simp [results, Tryz.results98, go_sem, q0, q1]) rfl ⟨by rw [HR.out]; rfl, HF.out⟩
  · obtain ⟨W6, hW6⟩ : ∃ W6, w5.alloc (.cells #[.int .u16 (IntKind.u16.wrap u), .int .u32 (u' % 4294967296)] 25) = W6 := ⟨_, rfl⟩
    have hb6 : Below w5.heap.size w5 W6 := by rw [← hW6]; exact (Below.refl _ _).alloc (Nat.le_refl _) _
    have HB6 := hid (HB5.out.trans (hb6.mono HB5.out.size))
    clear hb6
    obtain ⟨d0, d1, g0, g1⟩ := HC.out _ HB6.out
    have DD := hid (put2 d0 d1 (.int .u16 0) (.int .u32 0))
    have HF := hid (below_put2 (b := w.heap.size) (u0 := .int .u16 0) (u1 := .int .u32 0) (HB1.out.trans (HB6.out.mono HB1.out.size)) (Nat.le_refl _))
    have HR : Hid (r = none) := hid (bad True (.inl hx))
    go_wp2_with fail
    obtain ⟨q0, q1⟩ := DD.out
    refine bodyPost_ret (v := .tuple #[.agg #[.int .u16 0, .int .u32 0], .int .i64 5]) (by simp [results, Tryz.results98, go_sem, q0, q1]) rfl ⟨by rw [HR.out]; rfl, HF.out⟩
end Go.Proofs.YtppapeoainafbaaGreatDoor

namespace Go.Proofs.YtppapeoainafbaaGreatDoor
open Go.RowKit

set_option maxRecDepth 100000 in
set_option maxHeartbeats 1600000 in
theorem refLeaf_any (V : View) (am al ad : Option Addr) (cm cl cd : Nat) (x y : Int) (w : World) (hV : ViewR w am al ad V) :
   Calls Tryz.prog 64 #[.agg #[.int .u64 V.id, .slice am V.ms.length cm, .slice al V.ls.length cl, .slice ad V.ds.length cd], .agg #[.int .u16 x, .int .u32 y]] w fun e w' => e = .returned (.int .i64 (leafIx V.ls (x, y))) ∧ Below w.heap.size w w' := by
  have hB2 : Below w.heap.size w ((w.alloc (.cells #[.int .u64 V.id, .slice am V.ms.length cm, .slice al V.ls.length cl, .slice ad V.ds.length cd] 33)).alloc (.cells #[.int .u16 x, .int .u32 y] 25)) := ((Below.refl _ _).alloc (Nat.le_refl _) _).alloc (by simp) _
  have hV2 := hV.ext hB2
  have hz : w.heap.size ≤ ((w.alloc (.cells #[.int .u64 V.id, .slice am V.ms.length cm, .slice al V.ls.length cl, .slice ad V.ds.length cd] 33)).alloc (.cells #[.int .u16 x, .int .u32 y] 25)).heap.size := by simp; omega
  have k0 : ((w.alloc (.cells #[.int .u64 V.id, .slice am V.ms.length cm, .slice al V.ls.length cl, .slice ad V.ds.length cd] 33)).alloc (.cells #[.int .u16 x, .int .u32 y] 25)).cell? ⟨w.heap.size + 1, 0, none⟩ = some (.int .u16 x) := by simp
  have k1 : ((w.alloc (.cells #[.int .u64 V.id, .slice am V.ms.length cm, .slice al V.ls.length cl, .slice ad V.ds.length cd] 33)).alloc (.cells #[.int .u16 x, .int .u32 y] 25)).cell? ⟨w.heap.size + 1, 1, none⟩ = some (.int .u32 y) := by simp
  have k2 : ((w.alloc (.cells #[.int .u64 V.id, .slice am V.ms.length cm, .slice al V.ls.length cl, .slice ad V.ds.length cd] 33)).alloc (.cells #[.int .u16 x, .int .u32 y] 25)).cell? ⟨w.heap.size, 2, none⟩ = some (.slice al V.ls.length cl) := by simp
  go_enter Tryz.func64, Tryz.ntmps64
  go_wp2
  revert hB2 hV2 hz k0 k1 k2
  generalize (w.alloc (.cells #[.int .u64 V.id, .slice am V.ms.length cm, .slice al V.ls.length cl, .slice ad V.ds.length cd] 33)).alloc (.cells #[.int .u16 x, .int .u32 y] 25) = w2
  intro hB2 hV2 hz k0 k1 k2
  have hll := hV.ll
  go_loopw [4, 5] (fun r i wr => r = .int .i64 0 ∧ ∃ k : Nat, k ≤ V.ls.length ∧ i = .int .i64 k ∧ Hid (leafIx V.ls (x, y) = leafFrom (x, y) (V.ls.drop k) k) ∧ Below w2.heap.size w2 wr) (fun _ i _ => V.ls.length - (intOf i).toNat)
  case atStart => exact ⟨rfl, 0, Nat.zero_le _, rfl, rfl, Below.refl _ _⟩
  case round =>
    obtain ⟨rfl, k, hk, rfl, ha, hb⟩ := hrel
    have f0 := cell_to k0 hb
    have f1 := cell_to k1 hb
    have f2 := cell_to k2 hb
    by_cases hlt : k < V.ls.length
    · obtain ⟨b, off, ai, ci, l, rfl, hx, d1, d2⟩ := hV2.ls.at hb rfl hlt
      have hln : l.length ≤ 70368744177664 := hV.le l (by rw [hx]; exact List.getElem_mem _)
      obtain ⟨A, hA⟩ : ∃ A, atIx l (x, y) = A := ⟨_, rfl⟩
      have hmem := atIx_nonneg (p := (x, y)) (xs := l)
      rw [hA] at hmem
      have hdr := leafFrom_drop hlt (x, y)
      rw [← hx] at hdr
      have HA := hid hA
      have HD := hid hdr
      have g0 := cell_extw f0
      have g1 := cell_extw f1
      have g2 := cell_extw f2
      have g3 := cell_extw d1
      clear hA hx hdr
      by_cases h0 : 0 ≤ A
      · have h0' : decide (0 ≤ A) = true := by simpa using h0
        have HM : Hid ((x, y) ∈ l) := by rw [h0'] at hmem; exact hid (of_decide_eq_true hmem.symm)
        clear hmem
        go_wp2
        clear f0 f1 f2 d1
        refine wp_region_ext (w := wr) (Below.refl _ _) (by kernel_rfl) (by kernel_rfl) ?_
        repeat (go_big_quiet_step (exact at_ext d2 hln HA))
        refine wpQuiet_nil ?_
        rintro w9 ⟨⟨_, hb9⟩, rfl⟩
        go_wp2
        go_ret
        exact ⟨ret_int (by rw [ha.out, HD.out, if_pos HM.out]), hB2.trans ((hb.trans (hb9.mono hb.size)).mono hz)⟩
      · have h0' : decide (0 ≤ A) = false := by simpa using h0
        have HM : Hid (¬ (x, y) ∈ l) := by rw [h0'] at hmem; exact hid (of_decide_eq_false hmem.symm)
        clear hmem
        go_wp2
        clear f0 f1 f2 d1
        refine wp_region_ext (w := wr) (Below.refl _ _) (by kernel_rfl) (by kernel_rfl) ?_
        repeat (go_big_quiet_step (exact at_ext d2 hln HA))
        refine wpQuiet_nil ?_
        rintro w9 ⟨⟨_, hb9⟩, rfl⟩
        go_wp2
        go_roundw
        case rel => exact ⟨rfl, k + 1, by omega, by go_num, (ha.out.trans (by rw [HD.out, if_neg HM.out]) : _), hb.trans (hb9.mono hb.size)⟩
        case measure => simp [intOf]; omega
    · go_wp2
      go_ret
      exact ⟨ret_int (by rw [ha.out, leafFrom_end (by omega)]), hB2.trans (hb.mono hz)⟩
end Go.Proofs.YtppapeoainafbaaGreatDoor

namespace Go.Proofs.YtppapeoainafbaaGreatDoor
open Go.RowKit
/-! ### texts of views, in plain words -/
def wordP (V : View) (p : Pid) : Str := [32] ++ printP p ++ [47] ++ Lib.decDigits (leafIx V.ls p).toNat ++ (if p ∈ V.ds then [42] else [])
def wordsP (V : View) : List Pid → Str
  | [] => []
  | p :: r => wordP V p ++ wordsP V r
def viewP (V : View) : Str := Lib.decDigits V.id.toNat ++ wordsP V V.ms
theorem wordsP_drop (V : View) {xs : List Pid} {k : Nat} (h : k < xs.length) {p : Pid} (hp : p = xs[k]) : wordsP V (xs.drop k) = wordP V p ++ wordsP V (xs.drop (k + 1)) := by
  rw [List.drop_eq_getElem_cons h, ← hp]; rfl
theorem leafFrom_mem {p : Pid} : ∀ {ls : List (List Pid)} {j : Nat}, p ∈ ls.flatten → ∃ k : Nat, leafFrom p ls j = (k : Int) ∧ k < j + ls.length
  | [], j, h => by simp at h
  | l :: r, j, h => by
    unfold leafFrom
    by_cases hp : p ∈ l
    · rw [if_pos hp]; exact ⟨j, rfl, by simp⟩
    · rw [if_neg hp]
      obtain ⟨k, h1, h2⟩ := leafFrom_mem (ls := r) (j := j + 1) (by simpa [hp] using h)
      exact ⟨k, h1, by simp; omega⟩
theorem check_leaf {V : View} (h : checkB V = true) : V.ms.length ≤ 24 ∧ (0 ≤ V.id ∧ V.id ≤ 4611686018427387904) ∧ ∀ p ∈ V.ms, ∃ k : Nat, k < 100 ∧ leafIx V.ls p = (k : Int) := by
  unfold checkB at h
  simp only [Bool.and_eq_true, decide_eq_true_eq, chkFrom_iff, chkEnd, ris_same, List.nil_append, Nat.zero_add] at h
  obtain ⟨a, b, c, d, e, f, g, h, i⟩ := h
  have hl := lens_flatten V.ls
  unfold membersB at c
  rw [memFrom_iff] at c
  have hls := lens_ge (fun l hl => (d l hl).1)
  have hc := c.1.2
  have hnd := nodup_of_ids c.2.2.1
  have hfm : ∀ x ∈ V.ls.flatten, x ∈ V.ms := fun x hx => by
    obtain ⟨l, hl1, hl2⟩ := List.mem_flatten.1 hx
    exact risR_mem (d l hl1).2 x hl2
  refine ⟨by omega, ⟨by omega, b⟩, fun p hp => ?_⟩
  have hcount : V.ls.flatten.count p = 1 := by
    refine (count_iff hnd hfm).2 ⟨?_, ?_⟩ p hp
    · omega
    · exact unionL_nodup.1 (by omega)
  have hmem : p ∈ V.ls.flatten := List.count_pos_iff.1 (by omega)
  obtain ⟨k, h1, h2⟩ := leafFrom_mem (j := 0) hmem
  exact ⟨k, by omega, h1⟩
end Go.Proofs.YtppapeoainafbaaGreatDoor

namespace Go.Proofs.YtppapeoainafbaaGreatDoor
open Go.RowKit
/-! ### a text tells the view -/
theorem dec_no {c : UInt8} (hc : c.toNat < 48) (u : Nat) : c ∉ Lib.decDigits u := fun h => by
  have := dec_ok u _ h
  unfold dgOk at this
  omega
theorem printP_no {c : UInt8} (hc : c.toNat < 48) (h46 : c ≠ 46) (p : Pid) : c ∉ printP p := by
  unfold printP
  intro h
  rcases List.mem_append.1 h with h | h
  · exact dec_no hc _ h
  · rcases List.mem_cons.1 h with h | h
    · exact h46 h
    · exact dec_no hc _ h
theorem pw_unique {f : Pid → Int} : ∀ {xs ys : List Pid}, xs.Pairwise (fun p q => f p < f q) → ys.Pairwise (fun p q => f p < f q) → (∀ p, p ∈ xs ↔ p ∈ ys) → xs = ys
  | [], [], _, _, _ => rfl
  | [], y :: ys, _, _, h => absurd ((h y).2 (List.mem_cons_self ..)) (by simp)
  | x :: xs, [], _, _, h => absurd ((h x).1 (List.mem_cons_self ..)) (by simp)
  | x :: xs, y :: ys, hx, hy, h => by
    obtain ⟨hx1, hx2⟩ := List.pairwise_cons.1 hx
    obtain ⟨hy1, hy2⟩ := List.pairwise_cons.1 hy
    have e : x = y := by
      rcases List.mem_cons.1 ((h x).1 (List.mem_cons_self ..)) with e | m1
      · exact e
      · rcases List.mem_cons.1 ((h y).2 (List.mem_cons_self ..)) with e | m2
        · exact e.symm
        · have := hy1 x m1
          have := hx1 y m2
          omega
    subst e
    have ht : ∀ p, p ∈ xs ↔ p ∈ ys := fun p => by
      constructor
      · intro hp
        rcases List.mem_cons.1 ((h p).1 (List.mem_cons_of_mem _ hp)) with e | m
        · subst e; have := hx1 p hp; omega
        · exact m
      · intro hp
        rcases List.mem_cons.1 ((h p).2 (List.mem_cons_of_mem _ hp)) with e | m
        · subst e; have := hy1 p hp; omega
        · exact m
    rw [pw_unique hx2 hy2 ht]
theorem risR_pw {ms : List Pid} : ∀ {xs : List Pid} {pr : Option Pid}, risRFrom ms pr xs = true → xs.Pairwise (fun p q => atIx ms p < atIx ms q)
  | [], _, _ => List.Pairwise.nil
  | p :: r, pr, h => by
    unfold risRFrom at h
    split at h
    · cases h
    · split at h
      · cases h
      · exact List.pairwise_cons.2 ⟨risR_gt h, risR_pw h⟩
end Go.Proofs.YtppapeoainafbaaGreatDoor

namespace Go.Proofs.YtppapeoainafbaaGreatDoor
open Go.RowKit
/-- what a checked view is -/
theorem check_partsZ {V : View} (h : checkB V = true) : 0 ≤ V.id ∧ V.ls.flatten.Nodup ∧ (∀ l ∈ V.ls, l ≠ [] ∧ l.Pairwise (fun p q => atIx V.ms p < atIx V.ms q)) ∧ (∀ p, p ∈ V.ls.flatten ↔ p ∈ V.ms) ∧ V.ds.Pairwise (fun p q => atIx V.ms p < atIx V.ms q) ∧ ∀ p ∈ V.ds, p ∈ V.ms := by
  unfold checkB at h
  simp only [Bool.and_eq_true, decide_eq_true_eq, chkFrom_iff, chkEnd, ris_same, List.nil_append, Nat.zero_add] at h
  obtain ⟨a, b, c, d, e, f, g, h, i⟩ := h
  have hl := lens_flatten V.ls
  unfold membersB at c
  rw [memFrom_iff] at c
  have hnd := nodup_of_ids c.2.2.1
  have hfm : ∀ x ∈ V.ls.flatten, x ∈ V.ms := fun x hx => by
    obtain ⟨l, hl1, hl2⟩ := List.mem_flatten.1 hx
    exact risR_mem (d l hl1).2 x hl2
  have hfn : V.ls.flatten.Nodup := unionL_nodup.1 (by omega)
  have hc := (count_iff hnd hfm).2 ⟨by omega, hfn⟩
  exact ⟨by omega, hfn, fun l hl => ⟨(d l hl).1, risR_pw (d l hl).2⟩, fun p => ⟨hfm p, fun hp => List.count_pos_iff.1 (by rw [hc p hp]; omega)⟩, risR_pw i, risR_mem i⟩
end Go.Proofs.YtppapeoainafbaaGreatDoor

namespace Go.Proofs.YtppapeoainafbaaGreatDoor
open Go.RowKit
/-! ### views of texts, in plain words -/
/-- a process is laid at the end of a leaf; leaves that lack are laid -/
def putK (p : Pid) : Nat → List (List Pid) → List (List Pid)
  | 0, [] => [[p]]
  | 0, l :: r => (l ++ [p]) :: r
  | k + 1, [] => [] :: putK p k []
  | k + 1, l :: r => l :: putK p k r
def memD (V : View) (p : Pid) (k : Nat) (b : Bool) : View := ⟨V.id, V.ms ++ [p], putK p k V.ls, if b then V.ds ++ [p] else V.ds⟩
def memP (V : View) (w : Str) : Option View :=
  match parseP (Lib.cut (Lib.trimSuffix w [42]) [47]).1, Lib.atoiAll (Lib.cut (Lib.trimSuffix w [42]) [47]).2.1 with
  | some p, .ok k => if (Lib.cut (Lib.trimSuffix w [42]) [47]).2.2 = true ∧ 0 ≤ k ∧ k < 24 then some (memD V p k.toNat (Lib.hasSuffix w [42])) else none
  | _, _ => none
def foldM : View → List Str → Option View
  | V, [] => some V
  | V, w :: r => match memP V w with | some V' => foldM V' r | none => none
def endV (s : Str) : Option View → Option View
  | some V => if checkB V = true ∧ viewP V = s then some V else none
  | none => none
def viewOf (s : Str) : Option View :=
  match Lib.split s [32] with
  | [] => none
  | w :: ws => match Lib.parseUintB 64 w with
    | .ok u => if 24 < ws.length then none else endV s (foldM ⟨(u : Int), [], [], []⟩ ws)
    | _ => none
/-! the reference's -/
def digN (n : Nat) (c : UInt8) : Nat := if 48 ≤ c.toNat ∧ c.toNat ≤ 57 then (n * 10 + (c.toNat - 48)) % 18446744073709551616 else n
def digF (s : Str) : Nat := (s.take 20).foldl digN 0
def cut1 (c : UInt8) (s : Str) : Str × Str := if at1 c s < s.length then (s.take (at1 c s), s.drop (at1 c s + 1)) else (s, [])
def starB (s : Str) : Bool := s.getLast? == some 42
def memR (V : View) (w : Str) : Option View :=
  match refParseP (cut1 47 w).1 with
  | some p => if digF (cut1 47 w).2 % 100 ≤ 24 then some (memD V p (digF (cut1 47 w).2 % 100) (starB (cut1 47 w).2)) else none
  | none => none
def foldR : Nat → View → Str → Option View
  | 0, V, _ => some V
  | n + 1, V, r => if r = [] then some V else match memR V (cut1 32 r).1 with | some V' => foldR n V' (cut1 32 r).2 | none => none
def endR (s : Str) : Option View → Option View
  | some V => if refCheckB V = true ∧ viewP V = s then some V else none
  | none => none
def viewOfR (s : Str) : Option View := endR s (foldR 25 ⟨(digF (cut1 32 s).1 : Nat), [], [], []⟩ (cut1 32 s).2)
/-! ### both read what is printed -/
theorem at1_no {c : UInt8} {a : Str} (h : c ∉ a) : at1 c a = a.length := by
  unfold at1
  rw [List.findIdx_eq_length]
  intro x hx
  exact beq_eq_false_iff_ne.2 (fun e => h (e ▸ hx))
theorem cut1_app {c : UInt8} {a b : Str} (h : c ∉ a) : cut1 c (a ++ c :: b) = (a, b) := by
  unfold cut1
  rw [at1_app h, if_pos (by simp)]
  simp
theorem cut1_no {c : UInt8} {a : Str} (h : c ∉ a) : cut1 c a = (a, []) := by
  unfold cut1
  rw [at1_no h, if_neg (by omega)]
theorem split_no {a : Str} (h : (32 : UInt8) ∉ a) : Lib.split a [32] = [a] := by
  unfold Lib.split
  rw [Lib.count_one, List.count_eq_zero.2 h]
  rfl
theorem index_app {a b : Str} (h : (32 : UInt8) ∉ a) : Lib.index (a ++ 32 :: b) [32] = (a.length : Int) := by
  rw [index_one, at1_app h, if_pos (by simp)]
theorem split_app {a b : Str} (h : (32 : UInt8) ∉ a) : Lib.split (a ++ 32 :: b) [32] = a :: Lib.split b [32] := by
  have hi := index_app (b := b) h
  unfold Lib.split
  rw [Lib.count_one, Lib.count_one, List.count_append, List.count_eq_zero.2 h, List.count_cons_self, Nat.zero_add, Lib.splitK, hi, if_neg (by simp)]
  simp
/-- a member's word, without the space ahead -/
def word1 (V : View) (p : Pid) : Str := printP p ++ 47 :: (Lib.decDigits (leafIx V.ls p).toNat ++ (if p ∈ V.ds then [42] else []))
theorem wordP_eq (V : View) (p : Pid) : wordP V p = 32 :: word1 V p := by unfold wordP word1; simp
theorem word1_no (V : View) (p : Pid) : (32 : UInt8) ∉ word1 V p := by
  unfold word1
  have d1 := printP_no (c := 32) (by decide) (by decide) p
  have d2 := dec_no (c := 32) (by decide) (leafIx V.ls p).toNat
  intro h
  by_cases hp : p ∈ V.ds
  · simp [hp, d1, d2] at h
  · simp [hp, d1, d2] at h
theorem split_words (V : View) : ∀ (l : List Pid) (a : Str), (32 : UInt8) ∉ a → Lib.split (a ++ wordsP V l) [32] = a :: l.map (word1 V)
  | [], a, h => by rw [wordsP, List.append_nil, split_no h]; rfl
  | p :: r, a, h => by
    rw [wordsP, wordP_eq, List.cons_append, split_app h, split_words V r _ (word1_no V p)]; rfl
theorem no_slash (p : Pid) : (47 : UInt8) ∉ printP p := printP_no (by decide) (by decide) p
theorem suffix_yes (s : Str) : Lib.hasSuffix (s ++ [42]) [42] = true := by
  unfold Lib.hasSuffix; rw [List.isSuffixOf_iff_suffix]; exact List.suffix_append _ _
theorem trim_yes (s : Str) : Lib.trimSuffix (s ++ [42]) [42] = s := by
  unfold Lib.trimSuffix; rw [if_pos (suffix_yes s)]; simp
theorem suffix_no {s : Str} (h : (42 : UInt8) ∉ s) : Lib.hasSuffix s [42] = false := by
  unfold Lib.hasSuffix
  rw [Bool.eq_false_iff]
  intro e
  obtain ⟨t, rfl⟩ := List.isSuffixOf_iff_suffix.1 e
  exact h (by simp)
theorem trim_no {s : Str} (h : (42 : UInt8) ∉ s) : Lib.trimSuffix s [42] = s := by
  unfold Lib.trimSuffix; rw [suffix_no h, if_neg (by decide)]
theorem atoi_dec {k : Nat} (h : k < 1000) : Lib.atoiAll (Lib.decDigits k) = .ok (k : Int) := by
  obtain ⟨c, r, e⟩ := List.exists_cons_of_ne_nil (dec_ne k)
  have hc := dec_ok k c (by rw [e]; exact List.mem_cons_self ..)
  unfold dgOk at hc
  have hp := parseB_dec (B := 64) (u := k) (by omega) (by omega)
  unfold Lib.parseUintB at hp
  rw [if_neg (dec_ne k), show 2 ^ 64 - 1 = 18446744073709551615 from rfl, Lib.parseUintM_64] at hp
  rw [e, Lib.atoiAll_plain c r (by omega) (by omega), ← e]
  unfold Lib.parseMag
  rw [if_neg (dec_ne k), hp]
  unfold Lib.signless
  simp only
  rw [if_neg (by omega)]
theorem dig_val : ∀ (s : Str) (n : Nat), (∀ c ∈ s, dgOk c) → valFrom n s < 18446744073709551616 → s.foldl digN n = valFrom n s
  | [], n, _, _ => rfl
  | c :: r, n, hd, hv => by
    have hc := hd c (List.mem_cons_self ..)
    unfold dgOk at hc
    have h1 : valFrom n (c :: r) = valFrom (n * 10 + (c.toNat - 48)) r := rfl
    rw [h1] at hv ⊢
    have h2 := val_ge r (n * 10 + (c.toNat - 48))
    rw [List.foldl_cons]
    unfold digN
    rw [if_pos hc, Nat.mod_eq_of_lt (by omega)]
    exact dig_val r _ (fun x hx => hd x (List.mem_cons_of_mem _ hx)) hv
theorem digF_dec {u : Nat} (h : u < 18446744073709551616) : digF (Lib.decDigits u) = u := by
  unfold digF
  rw [List.take_of_length_le (by have := dec_len u 19 (by omega); omega), dig_val _ 0 (dec_ok u) (by rw [dec_val]; exact h), dec_val]
theorem digF_star {u : Nat} (h : u < 10000000000) : digF (Lib.decDigits u ++ [42]) = u := by
  unfold digF
  have hl := dec_len u 9 (by omega)
  rw [List.take_of_length_le (by simp; omega), List.foldl_append, dig_val _ 0 (dec_ok u) (by rw [dec_val]; omega), dec_val]
  rfl
theorem no_star (p : Pid) (k : Nat) : (42 : UInt8) ∉ printP p ++ 47 :: Lib.decDigits k := by
  have d1 := printP_no (c := 42) (by decide) (by decide) p
  have d2 := dec_no (c := 42) (by decide) k
  simp [d1, d2]
theorem parseP_ok {p : Pid} (h : okP p) : parseP (printP p) = some p := by
  obtain ⟨a, b⟩ := p
  unfold okP at h
  simp only at h
  have := parse_print (x := a.toNat) (y := b.toNat) (by omega) (by omega)
  rw [Int.toNat_of_nonneg (by omega), Int.toNat_of_nonneg (by omega)] at this
  exact this
theorem memP_word {V W : View} {p : Pid} (h : okP p) (hk : (leafIx V.ls p).toNat < 24) : memP W (word1 V p) = some (memD W p (leafIx V.ls p).toNat (decide (p ∈ V.ds))) := by
  unfold memP word1
  by_cases hp : p ∈ V.ds
  · rw [if_pos hp, show printP p ++ 47 :: (Lib.decDigits (leafIx V.ls p).toNat ++ [42]) = (printP p ++ 47 :: Lib.decDigits (leafIx V.ls p).toNat) ++ [42] by simp, trim_yes, suffix_yes, cut_app (no_slash p)]
    simp only [parseP_ok h, atoi_dec (show (leafIx V.ls p).toNat < 1000 by omega)]
    rw [if_pos ⟨trivial, by omega, by omega⟩, Int.toNat_natCast, decide_eq_true hp]
  · rw [if_neg hp, List.append_nil, trim_no (no_star p _), suffix_no (no_star p _), cut_app (no_slash p)]
    simp only [parseP_ok h, atoi_dec (show (leafIx V.ls p).toNat < 1000 by omega)]
    rw [if_pos ⟨trivial, by omega, by omega⟩, Int.toNat_natCast, decide_eq_false hp]
theorem memR_word {V W : View} {p : Pid} (h : okP p) (hk : (leafIx V.ls p).toNat < 24) : memR W (word1 V p) = some (memD W p (leafIx V.ls p).toNat (decide (p ∈ V.ds))) := by
  unfold memR word1
  rw [cut1_app (no_slash p)]
  simp only [← parse_eq, parseP_ok h]
  by_cases hp : p ∈ V.ds
  · rw [if_pos hp, digF_star (by omega), Nat.mod_eq_of_lt (by omega), if_pos (by omega)]
    simp [starB, hp]
  · rw [if_neg hp, List.append_nil, digF_dec (by omega), Nat.mod_eq_of_lt (by omega), if_pos (by omega)]
    have : starB (Lib.decDigits (leafIx V.ls p).toNat) = false := by
      unfold starB
      rw [beq_eq_false_iff_ne]
      intro e
      exact dec_no (c := 42) (by decide) _ (List.mem_of_getLast? e)
    simp [this, hp]
/-! what the fold makes -/
def foldD (V : View) : View → List Pid → View
  | W, [] => W
  | W, p :: r => foldD V (memD W p (leafIx V.ls p).toNat (decide (p ∈ V.ds))) r
theorem foldM_words {V : View} : ∀ {l : List Pid} {W : View}, (∀ p ∈ l, okP p ∧ (leafIx V.ls p).toNat < 24) → foldM W (l.map (word1 V)) = some (foldD V W l)
  | [], _, _ => rfl
  | p :: r, W, h => by
    obtain ⟨h1, h2⟩ := h p (List.mem_cons_self ..)
    rw [List.map_cons, foldM, memP_word h1 h2]
    exact foldM_words fun q hq => h q (List.mem_cons_of_mem _ hq)
theorem cut1_words {V : View} (a : Str) (h : (32 : UInt8) ∉ a) : ∀ l : List Pid, cut1 32 (a ++ wordsP V l) = (a, match l with | [] => [] | p :: r => word1 V p ++ wordsP V r)
  | [] => by rw [wordsP, List.append_nil, cut1_no h]
  | p :: r => by rw [wordsP, wordP_eq, List.cons_append, cut1_app h]
theorem word1_ne (V : View) (p : Pid) (r : Str) : word1 V p ++ r ≠ [] := by unfold word1; simp
theorem foldR_words {V : View} : ∀ {l : List Pid} {n : Nat} {W : View}, l.length ≤ n → (∀ p ∈ l, okP p ∧ (leafIx V.ls p).toNat < 24) → foldR n W (match l with | [] => [] | p :: r => word1 V p ++ wordsP V r) = some (foldD V W l)
  | [], n, W, _, _ => by
    cases n
    · rfl
    · rfl
  | p :: r, 0, W, hl, _ => by simp at hl
  | p :: r, n + 1, W, hl, h => by
    obtain ⟨h1, h2⟩ := h p (List.mem_cons_self ..)
    simp only [foldR]
    rw [if_neg (word1_ne V p _), cut1_words _ (word1_no V p) r]
    simp only [memR_word h1 h2]
    exact foldR_words (by simpa using hl) fun q hq => h q (List.mem_cons_of_mem _ hq)
theorem putK_get (p : Pid) : ∀ (k : Nat) (ls : List (List Pid)) (j : Nat), ((putK p k ls)[j]?).getD [] = (ls[j]?).getD [] ++ (if j = k then [p] else [])
  | 0, [], j => by cases j <;> simp [putK]
  | 0, l :: r, j => by cases j <;> simp [putK]
  | k + 1, [], j => by
    cases j with
    | zero => simp [putK]
    | succ j => have := putK_get p k [] j; simpa [putK] using this
  | k + 1, l :: r, j => by
    cases j with
    | zero => simp [putK]
    | succ j => have := putK_get p k r j; simpa [putK] using this
theorem putK_len (p : Pid) : ∀ (k : Nat) (ls : List (List Pid)), (putK p k ls).length = max ls.length (k + 1)
  | 0, [] => rfl
  | 0, l :: r => by simp [putK]
  | k + 1, [] => by have := putK_len p k []; simp [putK, this]
  | k + 1, l :: r => by have := putK_len p k r; simp [putK, this]
theorem foldD_id (V : View) : ∀ (l : List Pid) (W : View), (foldD V W l).id = W.id
  | [], _ => rfl
  | _ :: r, _ => by rw [foldD, foldD_id V r]; rfl
theorem foldD_ms (V : View) : ∀ (l : List Pid) (W : View), (foldD V W l).ms = W.ms ++ l
  | [], _ => by simp [foldD]
  | p :: r, _ => by rw [foldD, foldD_ms V r]; simp [memD]
theorem foldD_ds (V : View) : ∀ (l : List Pid) (W : View), (foldD V W l).ds = W.ds ++ l.filter (fun p => decide (p ∈ V.ds))
  | [], _ => by simp [foldD]
  | p :: r, W => by
    rw [foldD, foldD_ds V r]
    by_cases hp : p ∈ V.ds <;> simp [memD, hp]
theorem foldD_get (V : View) : ∀ (l : List Pid) (W : View) (j : Nat), ((foldD V W l).ls[j]?).getD [] = (W.ls[j]?).getD [] ++ l.filter (fun p => decide ((leafIx V.ls p).toNat = j))
  | [], _, _ => by simp [foldD]
  | p :: r, W, j => by
    rw [foldD, foldD_get V r]
    simp only [memD, putK_get]
    by_cases hp : (leafIx V.ls p).toNat = j
    · simp [hp]
    · have : ¬ j = (leafIx V.ls p).toNat := fun e => hp e.symm
      simp [hp, this]
theorem foldD_len (V : View) : ∀ (l : List Pid) (W : View) (n : Nat), (W.ls.length ≤ n) → (∀ p ∈ l, (leafIx V.ls p).toNat < n) → (foldD V W l).ls.length ≤ n ∧ ∀ p ∈ l, (leafIx V.ls p).toNat < (foldD V W l).ls.length ∧ W.ls.length ≤ (foldD V W l).ls.length
  | [], W, n, h, _ => ⟨h, fun p hp => by cases hp⟩
  | q :: r, W, n, h, hl => by
    have h0 := hl q (List.mem_cons_self ..)
    have e : (memD W q (leafIx V.ls q).toNat (decide (q ∈ V.ds))).ls.length = max W.ls.length ((leafIx V.ls q).toNat + 1) := putK_len _ _ _
    obtain ⟨a, b⟩ := foldD_len V r (memD W q (leafIx V.ls q).toNat (decide (q ∈ V.ds))) n (by rw [e]; omega) fun p hp => hl p (List.mem_cons_of_mem _ hp)
    have low : ∀ (l : List Pid) (W : View), W.ls.length ≤ (foldD V W l).ls.length := fun l => by
      induction l with
      | nil => intro W; exact Nat.le_refl _
      | cons p r ih =>
        intro W
        have e : (memD W p (leafIx V.ls p).toNat (decide (p ∈ V.ds))).ls.length = max W.ls.length ((leafIx V.ls p).toNat + 1) := putK_len _ _ _
        have := ih (memD W p (leafIx V.ls p).toNat (decide (p ∈ V.ds)))
        rw [foldD]; omega
    have c := low r (memD W q (leafIx V.ls q).toNat (decide (q ∈ V.ds)))
    refine ⟨a, fun p hp => ?_⟩
    rw [foldD]
    rcases List.mem_cons.1 hp with rfl | hp
    · exact ⟨by omega, by omega⟩
    · exact ⟨(b p hp).1, by omega⟩
theorem leaf_at {V : View} (hd : V.ls.flatten.Nodup) {j : Nat} (hj : j < V.ls.length) {p : Pid} (hp : p ∈ V.ls[j]) : leafIx V.ls p = (j : Int) := by
  have key : ∀ (ls : List (List Pid)) (i j : Nat) (hj : j < ls.length), ls.flatten.Nodup → p ∈ ls[j] → leafFrom p ls i = ((i + j : Nat) : Int) := by
    intro ls
    induction ls with
    | nil => intro i j hj; simp at hj
    | cons l r ih =>
      intro i j hj hd hp
      unfold leafFrom
      cases j with
      | zero => rw [if_pos (by simpa using hp)]; simp
      | succ j =>
        have hp' : p ∈ r[j]'(by simpa using hj) := by simpa using hp
        rw [List.flatten_cons] at hd
        obtain ⟨a1, a2, a3⟩ := List.nodup_append.1 hd
        rw [if_neg fun hl => a3 p hl p (List.mem_flatten.2 ⟨_, List.getElem_mem _, hp'⟩) rfl, ih (i + 1) j (by simpa using hj) a2 hp']
        congr 1; omega
  have := key V.ls 0 j hj hd hp
  simpa [leafIx] using this
theorem leaf_of {V : View} {p : Pid} (hp : p ∈ V.ls.flatten) : ∃ j, ∃ hj : j < V.ls.length, p ∈ V.ls[j] := by
  obtain ⟨l, hl, hpl⟩ := List.mem_flatten.1 hp
  obtain ⟨j, hj, rfl⟩ := List.getElem_of_mem hl
  exact ⟨j, hj, hpl⟩
theorem pw_at : ∀ {l : List Pid} {k : Nat}, l.Nodup → l.Pairwise (fun p q => atFrom p l k < atFrom q l k) := by
  intro l k hd
  have key : ∀ (l : List Pid) (k : Nat), l.Nodup → ∀ j (hj : j < l.length), atFrom l[j] l k = ((k + j : Nat) : Int) := by
    intro l
    induction l with
    | nil => intro k _ j hj; simp at hj
    | cons x r ih =>
      intro k hd j hj
      obtain ⟨h1, h2⟩ := List.nodup_cons.1 hd
      unfold atFrom
      cases j with
      | zero => simp
      | succ j =>
        have hj' : j < r.length := by simpa using hj
        rw [if_neg (by
          intro e
          simp only [List.getElem_cons_succ] at e
          exact h1 (e ▸ List.getElem_mem hj')), List.getElem_cons_succ, ih (k + 1) h2 j hj']
        congr 1; omega
  rw [List.pairwise_iff_getElem]
  intro i j hi hj hij
  rw [key l k hd i hi, key l k hd j hj]
  omega
/-- a checked view is what the fold of its words makes -/
theorem foldD_all {V : View} (h : checkB V = true) : foldD V ⟨V.id, [], [], []⟩ V.ms = V := by
  obtain ⟨h0, h1, h2, h3, h4, h5⟩ := check_partsZ h
  have hnd : V.ms.Nodup := by
    unfold checkB at h
    simp only [Bool.and_eq_true, decide_eq_true_eq, chkFrom_iff, chkEnd, ris_same, List.nil_append, Nat.zero_add] at h
    obtain ⟨-, -, c, -⟩ := h
    unfold membersB at c
    rw [memFrom_iff] at c
    exact nodup_of_ids c.2.2.1
  have e1 := foldD_id V V.ms ⟨V.id, [], [], []⟩
  have e2 := foldD_ms V V.ms ⟨V.id, [], [], []⟩
  have e3 := foldD_ds V V.ms ⟨V.id, [], [], []⟩
  have e4 := foldD_get V V.ms ⟨V.id, [], [], []⟩
  have hix : ∀ p ∈ V.ms, (leafIx V.ls p).toNat < V.ls.length := fun p hp => by
    obtain ⟨j, hj, hpj⟩ := leaf_of ((h3 p).2 hp)
    rw [leaf_at h1 hj hpj]; simpa using hj
  obtain ⟨l1, l2⟩ := foldD_len V V.ms ⟨V.id, [], [], []⟩ V.ls.length (Nat.zero_le _) hix
  have hpm := pw_at (k := 0) hnd
  have e5 : V.ms.filter (fun p => decide (p ∈ V.ds)) = V.ds := by
    refine pw_unique (f := atIx V.ms) (hpm.filter _) h4 fun p => ?_
    rw [List.mem_filter]
    exact ⟨fun ⟨_, h⟩ => by simpa using h, fun hp => ⟨h5 p hp, by simpa using hp⟩⟩
  have e6 : ∀ j (hj : j < V.ls.length), V.ms.filter (fun p => decide ((leafIx V.ls p).toNat = j)) = V.ls[j] := fun j hj => by
    refine pw_unique (f := atIx V.ms) (hpm.filter _) (h2 _ (List.getElem_mem hj)).2 fun p => ?_
    rw [List.mem_filter]
    constructor
    · rintro ⟨hp, hj2⟩
      obtain ⟨i, hi, hpi⟩ := leaf_of ((h3 p).2 hp)
      rw [leaf_at h1 hi hpi] at hj2
      have : i = j := by simpa using hj2
      subst this; exact hpi
    · intro hp
      exact ⟨(h3 p).1 (List.mem_flatten.2 ⟨_, List.getElem_mem hj, hp⟩), by rw [leaf_at h1 hj hp]; simp⟩
  have el : (foldD V ⟨V.id, [], [], []⟩ V.ms).ls.length = V.ls.length := by
    refine Nat.le_antisymm l1 ?_
    by_cases hz : V.ls.length = 0
    · omega
    · obtain ⟨x, r, ex⟩ := List.exists_cons_of_ne_nil (h2 _ (List.getElem_mem (show V.ls.length - 1 < V.ls.length by omega))).1
      have hx : x ∈ V.ls[V.ls.length - 1]'(by omega) := by rw [ex]; exact List.mem_cons_self ..
      have hm : x ∈ V.ms := (h3 x).1 (List.mem_flatten.2 ⟨_, List.getElem_mem _, hx⟩)
      have := (l2 x hm).1
      rw [leaf_at h1 _ hx] at this
      simp only [Int.toNat_natCast] at this
      omega
  have e7 : (foldD V ⟨V.id, [], [], []⟩ V.ms).ls = V.ls := by
    refine List.ext_getElem el fun j hj hj2 => ?_
    have := e4 j
    rw [List.getElem?_eq_getElem hj, Option.getD_some, e6 j hj2] at this
    simpa using this
  rw [e5] at e3
  simp only [List.nil_append] at e2 e3
  generalize foldD V ⟨V.id, [], [], []⟩ V.ms = W at e1 e2 e3 e7
  obtain ⟨a, b, c, d⟩ := W
  obtain ⟨a', b', c', d'⟩ := V
  simp only at *
  subst e1 e2 e3 e7; rfl
theorem check_small {V : View} (h : checkB V = true) (hw : WfPids V.ms) : (0 ≤ V.id ∧ V.id ≤ 4611686018427387904) ∧ V.ms.length ≤ 24 ∧ ∀ p ∈ V.ms, okP p ∧ (leafIx V.ls p).toNat < 24 := by
  obtain ⟨c1, c2, -⟩ := check_leaf h
  obtain ⟨h0, h1, h2, h3, h4, h5⟩ := check_partsZ h
  refine ⟨c2, c1, fun p hp => ⟨hw p hp, ?_⟩⟩
  obtain ⟨j, hj, hpj⟩ := leaf_of ((h3 p).2 hp)
  rw [leaf_at h1 hj hpj]
  have hl := lens_flatten V.ls
  have hle : V.ls.length ≤ V.ls.flatten.length := by
    rw [hl]; exact lens_ge fun l hl => (h2 l hl).1
  have hfl : V.ls.flatten.length ≤ V.ms.length := by
    have h' := h
    unfold checkB at h'
    simp only [Bool.and_eq_true, decide_eq_true_eq, chkFrom_iff, chkEnd, ris_same, List.nil_append, Nat.zero_add] at h'
    obtain ⟨-, -, -, -, e, -⟩ := h'
    omega
  simp only [Int.toNat_natCast]
  omega
theorem viewOf_back {V : View} (h : checkB V = true) (hw : WfPids V.ms) : viewOf (viewP V) = some V := by
  obtain ⟨c1, c2, c3⟩ := check_small h hw
  have hs : Lib.split (viewP V) [32] = Lib.decDigits V.id.toNat :: V.ms.map (word1 V) := split_words V V.ms _ (dec_no (by decide) _)
  unfold viewOf
  rw [hs]
  simp only [parseB_dec (B := 64) (u := V.id.toNat) (by omega) (by omega)]
  rw [if_neg (by simp; omega), foldM_words c3, Int.toNat_of_nonneg c1.1, foldD_all h]
  unfold endV
  simp only
  rw [if_pos ⟨h, trivial⟩]
theorem viewOfR_back {V : View} (h : checkB V = true) (hw : WfPids V.ms) : viewOfR (viewP V) = some V := by
  obtain ⟨c1, c2, c3⟩ := check_small h hw
  have hs := cut1_words (V := V) (Lib.decDigits V.id.toNat) (dec_no (by decide) _) V.ms
  unfold viewOfR viewP
  rw [hs]
  simp only
  rw [digF_dec (by omega), foldR_words (by omega) c3, Int.toNat_of_nonneg c1.1, foldD_all h]
  unfold endR
  simp only
  rw [if_pos ⟨by rw [← check_eq _ hw]; exact h, rfl⟩]
theorem parse_okP {s : Str} {p : Pid} (h : parseP s = some p) : okP p := by
  obtain ⟨x, y, hx, hy, rfl, -⟩ := parse_some h
  unfold okP; simp only; omega
theorem memP_wf {V V' : View} {w : Str} (h : memP V w = some V') (hw : WfPids V.ms) : WfPids V'.ms := by
  unfold memP at h
  split at h
  · rename_i p k hp _
    split at h
    · cases h
      have := parse_okP hp
      intro q hq
      rcases List.mem_append.1 hq with hq | hq
      · exact hw q hq
      · rw [List.mem_singleton.1 hq]; exact this
    · cases h
  · cases h
theorem foldM_wf : ∀ {l : List Str} {V V' : View}, foldM V l = some V' → WfPids V.ms → WfPids V'.ms
  | [], _, _, h, hw => by cases h; exact hw
  | w :: r, V, V', h, hw => by
    rw [foldM] at h
    split at h
    · rename_i V1 h1
      exact foldM_wf h (memP_wf h1 hw)
    · cases h
theorem memR_wf {V V' : View} {w : Str} (h : memR V w = some V') (hw : WfPids V.ms) : WfPids V'.ms := by
  unfold memR at h
  split at h
  · rename_i p hp
    split at h
    · cases h
      rw [← parse_eq] at hp
      have := parse_okP hp
      intro q hq
      rcases List.mem_append.1 hq with hq | hq
      · exact hw q hq
      · rw [List.mem_singleton.1 hq]; exact this
    · cases h
  · cases h
theorem foldR_wf : ∀ {n : Nat} {V V' : View} {r : Str}, foldR n V r = some V' → WfPids V.ms → WfPids V'.ms
  | 0, _, _, _, h, hw => by cases h; exact hw
  | n + 1, V, V', r, h, hw => by
    rw [foldR] at h
    split at h
    · cases h; exact hw
    · split at h
      · rename_i V1 h1
        exact foldR_wf h (memR_wf h1 hw)
      · cases h
theorem viewOf_some {s : Str} {V : View} (h : viewOf s = some V) : checkB V = true ∧ viewP V = s ∧ WfPids V.ms := by
  unfold viewOf at h
  split at h
  · cases h
  · split at h
    · split at h
      · cases h
      · unfold endV at h
        split at h
        · rename_i V1 h1
          split at h
          · rename_i hc
            cases h
            exact ⟨hc.1, hc.2, foldM_wf h1 fun p hp => by cases hp⟩
          · cases h
        · cases h
    · cases h
theorem viewOfR_some {s : Str} {V : View} (h : viewOfR s = some V) : checkB V = true ∧ viewP V = s ∧ WfPids V.ms := by
  unfold viewOfR endR at h
  split at h
  · rename_i V1 h1
    split at h
    · rename_i hc
      cases h
      have hw := foldR_wf h1 (fun p hp => by cases hp)
      exact ⟨by rw [check_eq _ hw]; exact hc.1, hc.2, hw⟩
    · cases h
  · cases h
theorem viewOf_eq (s : Str) : viewOf s = viewOfR s := by
  cases h : viewOf s with
  | some V =>
    obtain ⟨h1, rfl, h3⟩ := viewOf_some h
    exact (viewOfR_back h1 h3).symm
  | none =>
    cases h2 : viewOfR s with
    | none => rfl
    | some V =>
      obtain ⟨h1, rfl, h3⟩ := viewOfR_some h2
      rw [viewOf_back h1 h3] at h
      cases h
end Go.Proofs.YtppapeoainafbaaGreatDoor

namespace Go.Proofs.YtppapeoainafbaaGreatDoor
open Go.RowKit
/-! ### strings.Split, CutSuffix, strconv.Atoi, ParseUint of 64 bits -/
/-- a row of texts -/
def StrRow (w : World) (b : Nat) (ws : List Str) : Prop := b < w.heap.size ∧ ∀ k (h : k < ws.length), w.cell? ⟨b, k, none⟩ = some (.string ⟨ws[k].toArray⟩)
theorem StrRow.ext {w w' : World} {b B : Nat} {ws : List Str} (h : StrRow w b ws) (hb : Below B w w') (hB : b < B) : StrRow w' b ws :=
  ⟨Nat.lt_of_lt_of_le h.1 hb.size, fun k hk => (hb.cell (p := ⟨b, k, none⟩) (by exact hB)).trans (h.2 k hk)⟩
theorem split_any (s : Str) (hs : s.length ≤ 100000) (w : World) (he : EnvOk w) :
    Calls Tryz.prog 48 #[.string ⟨s.toArray⟩, .string ⟨[32].toArray⟩] w fun e w' => e = .returned (.slice (some ⟨w.heap.size, 0, none⟩) (Lib.split s [32]).length (Lib.split s [32]).length) ∧ StrRow w' w.heap.size (Lib.split s [32]) ∧ Below w.heap.size w w' := by
  obtain ⟨m, hm⟩ := he.max
  have hz : (⟨s.toArray⟩ : ByteArray).size < 4294967281 := by rw [bsz]; omega
  have h := Any.strings_Split Tryz.split (by kernel_rfl) ⟨s.toArray⟩ ⟨[32].toArray⟩ m w hz hm (by decide)
  have hd := Lib.splitB_data ⟨[32].toArray⟩ 0 (Lib.countB ⟨s.toArray⟩ ⟨[32].toArray⟩) ⟨s.toArray⟩
  have hl := Lib.splitB_all ⟨[32].toArray⟩ (by decide) 0 (Lib.countB ⟨s.toArray⟩ ⟨[32].toArray⟩) ⟨s.toArray⟩ rfl
  have hc : Lib.splitK [32] 0 (Lib.countB ⟨s.toArray⟩ ⟨[32].toArray⟩) s = Lib.split s [32] := by unfold Lib.split Lib.countB; simp
  have hd2 : (Lib.splitB ⟨[32].toArray⟩ 0 (Lib.countB ⟨s.toArray⟩ ⟨[32].toArray⟩) ⟨s.toArray⟩).map (·.data.toList) = Lib.split s [32] := by rw [← hc]; simpa using hd
  refine Calls.mono h ?_
  rintro e w' ⟨rfl, rfl⟩
  generalize Lib.splitB ⟨[32].toArray⟩ 0 (Lib.countB ⟨s.toArray⟩ ⟨[32].toArray⟩) ⟨s.toArray⟩ = B at hd2 hl
  have hlen : B.length = (Lib.split s [32]).length := by rw [← hd2, List.length_map]
  refine ⟨by rw [← hl, hlen], ⟨by simp, fun k hk => ?_⟩, (Below.refl _ _).alloc (Nat.le_refl _) _⟩
  have hkb : k < B.length := by omega
  have e : (Lib.split s [32])[k] = B[k].data.toList := by simp [← hd2]
  rw [World.cell?_alloc_mark, e]
  simp [List.getElem?_eq_getElem hkb]
theorem cutsuf_any (s : Str) (hs : s.length ≤ 100000) (w : World) :
    Calls Tryz.prog 96 #[.string ⟨s.toArray⟩, .string ⟨[42].toArray⟩] w fun e w' => e = .returned (.tuple #[.string ⟨(Lib.trimSuffix s [42]).toArray⟩, .bool (Lib.hasSuffix s [42])]) ∧ w' = w := by
  have h := Any.strings_CutSuffix Tryz.cutsuf ⟨s.toArray⟩ ⟨[42].toArray⟩ w (by rw [bsz]; omega)
  refine Calls.mono h ?_
  rintro e w' ⟨rfl, rfl⟩
  exact ⟨by simp, rfl⟩
def AtRes (s : Str) (u : Int) (ev : Value) : Prop := (Lib.atoiAll s = .ok u ∧ ev = .nilIface) ∨ (isOk (Lib.atoiAll s) = false ∧ ∃ (t : TypeId) (N : Nat), ev = .iface t (.pointer (some ⟨N, 0, none⟩)))
theorem atoi_any (s : Str) (hs : s.length ≤ 100000) (w : World) (he : EnvOk w) :
    Calls Tryz.prog 99 #[.string ⟨s.toArray⟩] w fun e w' => ∃ u ev, e = .returned (.tuple #[.int .i64 u, ev]) ∧ AtRes s u ev ∧ Below w.heap.size w w' := by
  obtain ⟨t1, p1, h1⟩ := he.syn
  obtain ⟨t2, p2, h2⟩ := he.rng
  rcases hr : Lib.atoiAll s with n | _ | _
  · refine Calls.mono (Any.strconv_Atoi_ok Tryz.atoi ⟨s.toArray⟩ (by rw [bsz]; omega) n (by rw [bdl]; exact hr) w) ?_
    rintro e w' ⟨rfl, rfl | ⟨t, rfl⟩⟩
    · exact ⟨_, _, rfl, .inl ⟨hr, rfl⟩, Below.refl _ _⟩
    · exact ⟨_, _, rfl, .inl ⟨hr, rfl⟩, bw_below _ _ _⟩
  · refine Calls.mono (Any.strconv_Atoi_syntax_var Tryz.atoi ⟨s.toArray⟩ (by rw [bsz]; omega) (by rw [bdl]; exact hr) t1 p1 w h1) ?_
    rintro e w' ⟨N, rfl, -, -, hb⟩
    exact ⟨_, _, rfl, .inr ⟨by rw [hr]; rfl, _, N, rfl⟩, hb⟩
  · refine Calls.mono (Any.strconv_Atoi_range_var Tryz.atoi ⟨s.toArray⟩ (by rw [bsz]; omega) (by rw [bdl]; exact hr) t2 p2 w h2) ?_
    rintro e w' ⟨N, rfl, -, -, hb⟩
    exact ⟨_, _, rfl, .inr ⟨by rw [hr]; rfl, _, N, rfl⟩, hb⟩
theorem pu64_any (s : Str) (hs : s.length ≤ 100000) (w : World) (he : EnvOk w) : Calls Tryz.prog 49 #[.string ⟨s.toArray⟩, .int .i64 10, .int .i64 64] w fun e w' => ∃ u ev, e = .returned (.tuple #[.int .u64 u, ev]) ∧ PuRes 64 s u ev ∧ Below w.heap.size w w' := by
  obtain ⟨t1, p1, h1⟩ := he.syn
  obtain ⟨t2, p2, h2⟩ := he.rng
  rcases hr : Lib.parseUintB 64 s with n | _ | _
  · refine Calls.mono (Any.strconv_ParseUint_10_at64_ok Tryz.puint ⟨s.toArray⟩ (by rw [bsz]; omega) n (by rw [bdl]; exact hr) w) ?_
    rintro e w' ⟨rfl, rfl | rfl⟩
    · exact ⟨_, _, rfl, .inl ⟨n, hr, rfl, rfl⟩, Below.refl _ _⟩
    · exact ⟨_, _, rfl, .inl ⟨n, hr, rfl, rfl⟩, bw_below _ _ _⟩
  · refine Calls.mono (Any.strconv_ParseUint_10_at64_syntax_var Tryz.puint ⟨s.toArray⟩ (by rw [bsz]; omega) (by rw [bdl]; exact hr) t1 p1 w h1) ?_
    rintro e w' ⟨N, rfl, -, -, hb⟩
    exact ⟨_, _, rfl, .inr ⟨by rw [hr]; rfl, _, N, rfl⟩, hb⟩
  · refine Calls.mono (Any.strconv_ParseUint_10_at64_range_var Tryz.puint ⟨s.toArray⟩ (by rw [bsz]; omega) (by rw [bdl]; exact hr) t2 p2 w h2) ?_
    rintro e w' ⟨N, rfl, -, -, hb⟩
    exact ⟨_, _, rfl, .inr ⟨by rw [hr]; rfl, _, N, rfl⟩, hb⟩
end Go.Proofs.YtppapeoainafbaaGreatDoor

