/- Parts of the proof: XO ShelfT Y1 Y2 Y3 A1 Z4 Z1 Z9 Z10 Z11 ShelfB Z3. -/
import Derived.Deep.Slices
import Derived.Lib.SmallJoins
import Derived.SizedLaws
import Derived.ProofKit
import Derived.OpenShut
import Derived.Shelf.Pu.ErrVarParseUint
import Derived.Shelf.Strings.Cut
import Derived.Shelf.Strconv.Itoa2
import Derived.Lib.ItoaNum
import Derived.Lib.IndexMore
import Derived.Lib.ParseIntBCases
import Derived.Shelf.Strconv.Itoa1
import Derived.Lib.ItoaMem
import Derived.Lib.AppendIntMem
import Derived.Lib.ItoaWalk
import Derived.Lib.LaidTab
import Derived.Lib.Walk
import Derived.BigCall
import Derived.BigGuard
import Derived.Laws.BytesString
import Derived.Shelf.Strings.Builder1
import Derived.Shelf.Strings.BuilderF
import Derived.Shelf.Strings.BuilderK
import Derived.Shelf.Strconv.Itoa3
import Derived.Lib.Builder
import Derived.Lib.AppendStr
import Derived.Lib.OthersKept
import Derived.Lib.FrozenHead
import Derived.Test.YtppapeoainafbaaDoorX22
namespace Go.Proofs.YtppapeoainafbaaDoor
open Go.RowKit Go.Deep Go.Joins Go.ChangeShapes

/-! ### from the row's reading to processes, views, bytes, commands -/
/-- every slice and string in a datum is within the form's reach -/
def Sz {H : Type} (t : TypeId) (d : DataW H) : Prop := ∀ n ∈ d.weights Tryd.prog t, n ≤ reachBytes
theorem Sz.arg {H : Type} {ts : List TypeId} {ds : List (DataW H)} (h : (DataW.weightsEach Tryd.prog ts ds).all (· ≤ reachBytes) = true) {j : Nat} {t : TypeId} {d : DataW H} (ht : ts[j]? = some t) (hd : ds[j]? = some d) : Sz t d := by
  intro n hn
  have := List.all_eq_true.1 h _ (DataW.weights_mem_each ht hd n hn)
  simpa using this
theorem mem_weightsAll {H : Type} {e : TypeId} {d : DataW H} : ∀ {l : List (DataW H)}, d ∈ l → ∀ n ∈ d.weights Tryd.prog e, n ∈ DataW.weightsAll Tryd.prog e l
  | x :: l, h, n, hn => by
    simp only [DataW.weightsAll, List.mem_append]
    rcases List.mem_cons.1 h with rfl | h
    · exact .inl hn
    · exact .inr (mem_weightsAll h n hn)
theorem Sz.slice {H : Type} {t e : TypeId} {elems spare : List (DataW H)} (h : Sz t (.slice elems spare)) (ht : Tryd.prog.underlying t = some (.slice e)) :
    (elems.length + spare.length) * Tryd.prog.bytesOf e ≤ reachBytes ∧ (∀ d ∈ elems, Sz e d) := by
  have hw : ∀ n, n ∈ (DataW.slice elems spare).weights Tryd.prog t ↔ n = (elems.length + spare.length) * Tryd.prog.bytesOf e ∨ n ∈ DataW.weightsAll Tryd.prog e elems ∨ n ∈ DataW.weightsAll Tryd.prog e spare := by
    intro n; simp [DataW.weights, ht]
  exact ⟨h _ ((hw _).2 (.inl rfl)), fun d hd n hn => h n ((hw _).2 (.inr (.inl (mem_weightsAll hd n hn))))⟩
theorem bytesPid : Tryd.prog.bytesOf 25 = 8 := by kernel_rfl
theorem bytesPids : Tryd.prog.bytesOf 36 = 24 := by kernel_rfl
theorem cellsPid : Tryd.prog.cellsOf 25 = 2 := by kernel_rfl
theorem cellsU16 : Tryd.prog.cellsOf 22 = 1 := by kernel_rfl
theorem cellsU32 : Tryd.prog.cellsOf 23 = 1 := by kernel_rfl
theorem cellsU64 : Tryd.prog.cellsOf 34 = 1 := by kernel_rfl
theorem cellsU8 : Tryd.prog.cellsOf 5 = 1 := by kernel_rfl
theorem cellsPids : Tryd.prog.cellsOf 36 = 1 := by kernel_rfl
theorem cellsLeaves : Tryd.prog.cellsOf 37 = 1 := by kernel_rfl
theorem cellsView : Tryd.prog.cellsOf 39 = 4 := by kernel_rfl
theorem list4 {α : Type} {cs : List α} (h : cs.length = 4) : ∃ c0 c1 c2 c3, cs = [c0, c1, c2, c3] := by
  match cs, h with
  | [c0, c1, c2, c3], _ => exact ⟨c0, c1, c2, c3, rfl⟩
theorem list2 {α : Type} {cs : List α} (h : cs.length = 2) : ∃ c0 c1, cs = [c0, c1] := by
  match cs, h with
  | [c0, c1], _ => exact ⟨c0, c1, rfl⟩
section
variable {H : Type} {enc : TypeId × Value → H} {w : World}
theorem open_pid {n : Nat} {cs : List Value} {x : DataW H × List MemPlace} (h : DataW.trod enc Tryd.prog w 0 (fun _ => true) true n 25 cs = some x) :
    ∃ i c : Int, cs = [.int .u16 i, .int .u32 c] ∧ 0 ≤ i ∧ i < 65536 ∧ 0 ≤ c ∧ c < 4294967296 := by
  obtain ⟨y0, y1, m, _, hl, h0, h1⟩ := trod_struct2 Tryd.underlying25 h
  rw [cellsPid] at hl
  obtain ⟨c0, c1, rfl⟩ := list2 hl
  have e0 : (([c0, c1] : List Value).drop 0).take (Tryd.prog.cellsOf 22) = [c0] := by rw [cellsU16]; rfl
  have e1 : (([c0, c1] : List Value).drop 1).take (Tryd.prog.cellsOf 23) = [c1] := by rw [cellsU32]; rfl
  obtain ⟨i, hi, _, wi⟩ := DataW.trod_int Tryd.underlying22 (e0 ▸ h0)
  obtain ⟨c, hc, _, wc⟩ := DataW.trod_int Tryd.underlying23 (e1 ▸ h1)
  cases hi; cases hc
  have b0 := bounds_u16 wi
  have b1 := bounds_u32 wc
  exact ⟨i, c, rfl, b0.1, by omega, b1.1, by omega⟩

theorem open_pids {n : Nat} {cs : List Value} {x : DataW H × List MemPlace} (h : DataW.trod enc Tryd.prog w 0 (fun _ => true) true n 36 cs = some x) (hs : Sz 36 x.1) :
    ∃ (a : Option Addr) (c : Nat) (xs : List Pid), cs = [.slice a xs.length c] ∧ PidRow w a xs ∧ WfPids xs ∧ xs.length ≤ 17592186044416 := by
  rcases open_slice Tryd.underlying36 h with ⟨hv, _⟩ | ⟨a, len, cap, m, k, D, Pl, hv, _, hl, hm, hmm, hx, hel⟩
  · exact ⟨none, 0, [], hv, .inl rfl, (by intro p hp; cases hp), by simp⟩
  · simp only [if_true] at hmm
    subst hmm
    rw [cellsPid] at hel
    have hex : ∀ i, ∃ p : Pid, i < len → (w.cell? (a.add (i * 2)) = some (.int .u16 p.1) ∧ w.cell? ((a.add (i * 2)).add 1) = some (.int .u32 p.2) ∧ 0 ≤ p.1 ∧ p.1 < 65536 ∧ 0 ≤ p.2 ∧ p.2 < 4294967296) := by
      intro i
      by_cases hi : i < len
      · obtain ⟨cs', h1, h2⟩ := hel i (by omega)
        obtain ⟨pi, pc, rfl, b0, b1, b2, b3⟩ := open_pid h2
        obtain ⟨_, _, hc⟩ := World.cells?_some h1
        exact ⟨(pi, pc), fun _ => ⟨by simpa [Addr.add] using hc 0 (by omega), by simpa using hc 1 (by omega), b0, b1, b2, b3⟩⟩
      · exact ⟨(0, 0), fun h => absurd h hi⟩
    obtain ⟨f, hf⟩ := Classical.axiomOfChoice hex
    rw [hx] at hs
    obtain ⟨hw, _⟩ := hs.slice Tryd.underlying36
    rw [bytesPid] at hw
    simp only [List.length_map, List.length_range] at hw
    have hlen : len ≤ 17592186044416 := by unfold reachBytes at hw; omega
    refine ⟨some a, m, (List.range len).map f, by rw [hv]; simp, ?_, ?_, by simpa using hlen⟩
    · by_cases h0 : len = 0
      · subst h0; exact .inl rfl
      · have ha := (hf 0 (by omega)).1
        have hsp : a.spot = none := by simpa [Addr.add] using World.cell?_spot ha
        obtain ⟨b, off, sp⟩ := a
        simp only at hsp
        subst hsp
        refine .inr ⟨b, off, rfl, ?_, fun i hi => ?_⟩
        · have := World.block_lt_of_cell? w _ ha
          simpa [addr_add] using this
        · have hi' : i < len := by simpa using hi
          obtain ⟨g1, g2, _⟩ := hf i hi'
          rw [addr_add, addr_add] at g2
          rw [addr_add] at g1
          simpa using ⟨g1, g2⟩
    · intro p hp
      obtain ⟨i, hi, rfl⟩ := List.mem_map.1 hp
      obtain ⟨_, _, g⟩ := hf i (by simpa using hi)
      exact g

theorem open_leaves {n : Nat} {v : Value} {x : DataW H × List MemPlace} (h : DataW.trod enc Tryd.prog w 0 (fun _ => true) true n 37 [v] = some x) (hs : Sz 37 x.1) :
    ∃ (a : Option Addr) (c : Nat) (ls : List (List Pid)), v = .slice a ls.length c ∧ LeafRow w a ls ∧ (∀ l ∈ ls, WfPids l) ∧ ls.length ≤ 17592186044416 ∧ ∀ l ∈ ls, l.length ≤ 17592186044416 := by
  rcases open_slice1 Tryd.underlying37 cellsPids h with ⟨hv, _⟩ | ⟨a, len, cap, m, k, Vs, D, Pl, hv, _, hl, hm, hmm, hx, hel⟩
  · cases hv
    exact ⟨none, 0, [], rfl, .inl rfl, (by intro p hp; cases hp), by simp, by intro p hp; cases hp⟩
  · cases hv
    simp only [if_true] at hmm
    subst hmm
    rw [hx] at hs
    obtain ⟨hw, hel2⟩ := hs.slice Tryd.underlying37
    rw [bytesPids] at hw
    simp only [List.length_map, List.length_range] at hw
    have hlen : len ≤ 17592186044416 := by unfold reachBytes at hw; omega
    have hex : ∀ i, ∃ l : List Pid, i < len → ∃ ai ci, (w.cell? (a.add i) = some (.slice ai l.length ci) ∧ PidRow w ai l ∧ WfPids l ∧ l.length ≤ 17592186044416) := by
      intro i
      by_cases hi : i < len
      · obtain ⟨h1, h2⟩ := hel i (by omega)
        obtain ⟨ai, ci, l, hv, hr, hw, hb⟩ := open_pids h2 (hel2 _ (List.mem_map.2 ⟨i, by simpa using hi, rfl⟩))
        have hv := List.cons.inj hv
        exact ⟨l, fun _ => ⟨ai, ci, by rw [h1, hv.1], hr, hw, hb⟩⟩
      · exact ⟨[], fun h => absurd h hi⟩
    obtain ⟨f, hf⟩ := Classical.axiomOfChoice hex
    refine ⟨some a, m, (List.range len).map f, by simp, ?_, ?_, by simpa using hlen, ?_⟩
    · by_cases h0 : len = 0
      · subst h0; exact .inl rfl
      · obtain ⟨_, _, ha, _⟩ := hf 0 (by omega)
        have hsp : a.spot = none := by simpa [Addr.add] using World.cell?_spot ha
        obtain ⟨b, off, sp⟩ := a
        simp only at hsp
        subst hsp
        refine .inr ⟨b, off, rfl, ?_, fun i hi => ?_⟩
        · have := World.block_lt_of_cell? w _ ha
          simpa [addr_add] using this
        · have hi' : i < len := by simpa using hi
          obtain ⟨ai, ci, g1, g2, _⟩ := hf i hi'
          rw [addr_add] at g1
          exact ⟨ai, ci, by simpa using g1, by simpa using g2⟩
    · intro l hl
      obtain ⟨i, hi, rfl⟩ := List.mem_map.1 hl
      obtain ⟨_, _, _, _, g, _⟩ := hf i (by simpa using hi)
      exact g
    · intro l hl
      obtain ⟨i, hi, rfl⟩ := List.mem_map.1 hl
      obtain ⟨_, _, _, _, _, g⟩ := hf i (by simpa using hi)
      exact g

/-- a view that is plain data -/
structure WfView (V : View) : Prop where
  id : 0 ≤ V.id ∧ V.id < 18446744073709551616
  ms : WfPids V.ms
  ls : ∀ l ∈ V.ls, WfPids l
  ds : WfPids V.ds
set_option maxRecDepth 100000 in
theorem open_viewL {n : Nat} {cs : List Value} {x : DataW H × List MemPlace} (h : DataW.trod enc Tryd.prog w 0 (fun _ => true) true n 39 cs = some x) (hs : Sz 39 x.1) :
    ∃ (V : View) (am al ad : Option Addr) (cm cl cd : Nat), cs = [.int .u64 V.id, .slice am V.ms.length cm, .slice al V.ls.length cl, .slice ad V.ds.length cd] ∧ ViewR w am al ad V ∧ WfView V := by
  obtain ⟨y0, y1, y2, y3, m, hx, hl, h0, h1, h2, h3⟩ := trod_struct4 Tryd.underlying39 h
  rw [cellsView] at hl
  obtain ⟨v0, v1, v2, v3, rfl⟩ := list4 hl
  have e0 : (([v0, v1, v2, v3] : List Value).drop 0).take (Tryd.prog.cellsOf 34) = [v0] := by rw [cellsU64]; rfl
  have e1 : (([v0, v1, v2, v3] : List Value).drop 1).take (Tryd.prog.cellsOf 36) = [v1] := by rw [cellsPids]; rfl
  have e2 : (([v0, v1, v2, v3] : List Value).drop 2).take (Tryd.prog.cellsOf 37) = [v2] := by rw [cellsLeaves]; rfl
  have e3 : (([v0, v1, v2, v3] : List Value).drop 3).take (Tryd.prog.cellsOf 36) = [v3] := by rw [cellsPids]; rfl
  have h0 := e0 ▸ h0
  have h1 := e1 ▸ h1
  have h2 := e2 ▸ h2
  have h3 := e3 ▸ h3
  have hw : ∀ k, (k ∈ y1.1.weights Tryd.prog 36 ∨ k ∈ y2.1.weights Tryd.prog 37 ∨ k ∈ y3.1.weights Tryd.prog 36) → k ≤ reachBytes := by
    intro k hk
    refine hs k ?_
    have e : x.1.weights Tryd.prog 39 = y0.1.weights Tryd.prog 34 ++ (y1.1.weights Tryd.prog 36 ++ (y2.1.weights Tryd.prog 37 ++ (y3.1.weights Tryd.prog 36 ++ []))) := by
      rw [hx]; simp [DataW.weights, Tryd.underlying39, DataW.weightsEach]
    rw [e]
    simp only [List.mem_append, List.append_nil]
    rcases hk with hk | hk | hk
    · exact .inr (.inl hk)
    · exact .inr (.inr (.inl hk))
    · exact .inr (.inr (.inr hk))
  obtain ⟨i, hi, _, wi⟩ := DataW.trod_int Tryd.underlying34 h0
  cases hi
  obtain ⟨am, cm, ms, hv1, rm, wm, bm⟩ := open_pids h1 (fun k hk => hw k (.inl hk))
  obtain ⟨al, cl, ls, rfl, rl, wl, bl, bl2⟩ := open_leaves h2 (fun k hk => hw k (.inr (.inl hk)))
  obtain ⟨ad, cd, ds, hv3, rd, wd, bd⟩ := open_pids h3 (fun k hk => hw k (.inr (.inr hk)))
  cases hv1; cases hv3
  have b0 := bounds_u64 wi
  exact ⟨⟨i, ms, ls, ds⟩, am, al, ad, cm, cl, cd, rfl, ⟨rm, rl, rd, by simp only; omega, by simp only; omega, by simp only; omega, fun l hl => by have := bl2 l hl; omega⟩, ⟨⟨b0.1, by simp only; omega⟩, wm, wl, wd⟩⟩
set_option maxRecDepth 100000 in
theorem open_bytesK {n : Nat} {cs : List Value} {x : DataW H × List MemPlace} (h : DataW.trod enc Tryd.prog w 0 (fun _ => true) true n 35 cs = some x) :
    ∃ (a : Option Addr) (c : Nat) (bs : List Nat), cs = [.slice a bs.length c] ∧ ByteRow w a bs ∧ (∀ b ∈ bs, b < 256) ∧ bs.length ≤ c := by
  rcases open_ints (x := x) Tryd.underlying35 Tryd.underlying5 cellsU8 h with ⟨hcs, _⟩ | ⟨a, len, cap, zs, hcs, _, hl, hm, hz, hx, hcell, hwf⟩
  · exact ⟨none, 0, [], hcs, .inl rfl, (by intro x hx; cases hx), Nat.le_refl _⟩
  · simp only [if_true] at hz
    have hzl : ((zs.take len).map Int.toNat).length = len := by simp; omega
    have hb : ∀ z ∈ zs, 0 ≤ z ∧ z ≤ 255 := fun z hz => bounds_u8 (hwf z hz)
    refine ⟨some a, cap, (zs.take len).map Int.toNat, by rw [hzl, hcs], ?_, ?_, by rw [hzl]; exact hl⟩
    · by_cases h0 : len = 0
      · subst h0; exact .inl (by simp)
      · have ha := hcell 0 (by omega)
        have hsp : a.spot = none := by simpa [Addr.add] using World.cell?_spot ha
        obtain ⟨b, off, sp⟩ := a
        simp only at hsp
        subst hsp
        refine .inr ⟨b, off, rfl, ?_, fun i hi => ?_⟩
        · have := World.block_lt_of_cell? w _ ha
          simpa [addr_addB] using this
        · have hi2 : i < len := by rw [hzl] at hi; exact hi
          have g := hcell i (by omega)
          rw [addr_addB] at g
          rw [g]
          have hzi : i < zs.length := by omega
          have hbz := hb zs[i] (List.getElem_mem _)
          simp only [List.getElem_map, List.getElem_take, List.getD_eq_getElem?_getD, List.getElem?_eq_getElem hzi, Option.getD_some]
          congr 2; omega
    · intro x hx'
      obtain ⟨z, hz1, rfl⟩ := List.mem_map.1 hx'
      have := hb z (List.mem_of_mem_take hz1)
      omega
theorem open_bytesL {n : Nat} {cs : List Value} {x : DataW H × List MemPlace} (h : DataW.trod enc Tryd.prog w 0 (fun _ => true) true n 35 cs = some x) :
    ∃ (a : Option Addr) (c : Nat) (bs : List Nat), cs = [.slice a bs.length c] ∧ ByteRow w a bs ∧ (∀ b ∈ bs, b < 256) := by
  obtain ⟨a, c, bs, h1, h2, h3, -⟩ := open_bytesK h
  exact ⟨a, c, bs, h1, h2, h3⟩
end
section
variable {H : Type} {enc : TypeId × Value → H} {w : World}
end
theorem cellsInt : Tryd.prog.cellsOf 3 = 1 := by kernel_rfl
theorem cellsBytes : Tryd.prog.cellsOf 35 = 1 := by kernel_rfl
theorem cellsCmd : Tryd.prog.cellsOf 41 = 10 := by kernel_rfl
theorem list10 {α : Type} {cs : List α} (h : cs.length = 10) : ∃ c0 c1 c2 c3 c4 c5 c6 c7 c8 c9, cs = [c0, c1, c2, c3, c4, c5, c6, c7, c8, c9] := by
  match cs, h with
  | [c0, c1, c2, c3, c4, c5, c6, c7, c8, c9], _ => exact ⟨c0, c1, c2, c3, c4, c5, c6, c7, c8, c9, rfl⟩
theorem trod_struct6 {H : Type} {enc : TypeId × Value → H} {P : Program} {w : World} {base : Nat} {spare : Nat → Bool} {held : Bool} {t : TypeId} {f0 f1 f2 f3 f4 f5 : Field} {fuel : Nat} {cs : List Value} {x : DataW H × List MemPlace} (ht : P.underlying t = some (.struct #[f0, f1, f2, f3, f4, f5])) (h : DataW.trod enc P w base spare held fuel t cs = some x) :
    ∃ y0 y1 y2 y3 y4 y5 n, x.1 = .agg [y0.1, y1.1, y2.1, y3.1, y4.1, y5.1] ∧ cs.length = P.cellsOf t ∧ DataW.trod enc P w base spare held n f0.type ((cs.drop f0.offset).take (P.cellsOf f0.type)) = some y0 ∧
      DataW.trod enc P w base spare held n f1.type ((cs.drop f1.offset).take (P.cellsOf f1.type)) = some y1 ∧ DataW.trod enc P w base spare held n f2.type ((cs.drop f2.offset).take (P.cellsOf f2.type)) = some y2 ∧
      DataW.trod enc P w base spare held n f3.type ((cs.drop f3.offset).take (P.cellsOf f3.type)) = some y3 ∧ DataW.trod enc P w base spare held n f4.type ((cs.drop f4.offset).take (P.cellsOf f4.type)) = some y4 ∧ DataW.trod enc P w base spare held n f5.type ((cs.drop f5.offset).take (P.cellsOf f5.type)) = some y5 := by
  obtain ⟨xs, n, _, rfl, hl, hlen, hf⟩ := DataW.trod_struct ht h
  match xs, hlen with
  | [y0, y1, y2, y3, y4, y5], _ => exact ⟨y0, y1, y2, y3, y4, y5, n, by simp, hl, by simpa using hf 0 f0 rfl, by simpa using hf 1 f1 rfl, by simpa using hf 2 f2 rfl, by simpa using hf 3 f3 rfl, by simpa using hf 4 f4 rfl, by simpa using hf 5 f5 rfl⟩
section
variable {H : Type} {enc : TypeId × Value → H} {w : World}
set_option maxRecDepth 100000 in
set_option maxHeartbeats 1600000 in
theorem open_cmdL {n : Nat} {cs : List Value} {x : DataW H × List MemPlace} (h : DataW.trod enc Tryd.prog w 0 (fun _ => true) true n 41 cs = some x) (hs : Sz 41 x.1) :
    ∃ (A : CmdD) (da am al ad : Option Addr) (dc cm cl cd : Nat), cs = (cmdL da am al ad dc cm cl cd A).toList ∧ ByteRow w da A.data ∧ (∀ b ∈ A.data, b < 256) ∧ ViewR w am al ad A.v ∧ WfView A.v ∧ okP A.fr ∧ A.num < 18446744073709551616 ∧ A.vw < 18446744073709551616 := by
  obtain ⟨y0, y1, y2, y3, y4, y5, m, hx, hl, h0, h1, h2, h3, h4, h5⟩ := trod_struct6 Tryd.underlying41 h
  rw [cellsCmd] at hl
  obtain ⟨v0, v1, v2, v3, v4, v5, v6, v7, v8, v9, rfl⟩ := list10 hl
  have e0 : (([v0, v1, v2, v3, v4, v5, v6, v7, v8, v9] : List Value).drop 0).take (Tryd.prog.cellsOf 3) = [v0] := by rw [cellsInt]; rfl
  have e1 : (([v0, v1, v2, v3, v4, v5, v6, v7, v8, v9] : List Value).drop 1).take (Tryd.prog.cellsOf 25) = [v1, v2] := by rw [cellsPid]; rfl
  have e2 : (([v0, v1, v2, v3, v4, v5, v6, v7, v8, v9] : List Value).drop 3).take (Tryd.prog.cellsOf 34) = [v3] := by rw [cellsU64]; rfl
  have e3 : (([v0, v1, v2, v3, v4, v5, v6, v7, v8, v9] : List Value).drop 4).take (Tryd.prog.cellsOf 34) = [v4] := by rw [cellsU64]; rfl
  have e4 : (([v0, v1, v2, v3, v4, v5, v6, v7, v8, v9] : List Value).drop 5).take (Tryd.prog.cellsOf 35) = [v5] := by rw [cellsBytes]; rfl
  have e5 : (([v0, v1, v2, v3, v4, v5, v6, v7, v8, v9] : List Value).drop 6).take (Tryd.prog.cellsOf 39) = [v6, v7, v8, v9] := by rw [cellsView]; rfl
  have h0 := e0 ▸ h0
  have h1 := e1 ▸ h1
  have h2 := e2 ▸ h2
  have h3 := e3 ▸ h3
  have h4 := e4 ▸ h4
  have h5 := e5 ▸ h5
  have hw : Sz 39 y5.1 := by
    intro k hk
    refine hs k ?_
    have e : x.1.weights Tryd.prog 41 = y0.1.weights Tryd.prog 3 ++ (y1.1.weights Tryd.prog 25 ++ (y2.1.weights Tryd.prog 34 ++ (y3.1.weights Tryd.prog 34 ++ (y4.1.weights Tryd.prog 35 ++ (y5.1.weights Tryd.prog 39 ++ []))))) := by
      rw [hx]; simp [DataW.weights, Tryd.underlying41, DataW.weightsEach]
    rw [e]
    simp only [List.mem_append, List.append_nil]
    exact .inr (.inr (.inr (.inr (.inr hk))))
  obtain ⟨kd, hkd, _, wk⟩ := DataW.trod_int Tryd.underlying3 h0
  obtain ⟨i, c, hp, hb⟩ := open_pid h1
  obtain ⟨n1, hn1, _, wn1⟩ := DataW.trod_int Tryd.underlying34 h2
  obtain ⟨n2, hn2, _, wn2⟩ := DataW.trod_int Tryd.underlying34 h3
  obtain ⟨da, dc, bs, hd, hdr, hdb⟩ := open_bytesL h4
  obtain ⟨V, am, al, ad, cm, cl, cd, hv, hR, hwf⟩ := open_viewL h5 hw
  have b1 := bounds_u64 wn1
  have b2 := bounds_u64 wn2
  obtain ⟨k1, rfl⟩ : ∃ k : Nat, n1 = (k : Int) := ⟨n1.toNat, by omega⟩
  obtain ⟨k2, rfl⟩ : ∃ k : Nat, n2 = (k : Int) := ⟨n2.toNat, by omega⟩
  cases hkd; cases hp; cases hn1; cases hn2; cases hd; cases hv
  exact ⟨⟨kd, (i, c), k1, k2, bs, V⟩, da, am, al, ad, dc, cm, cl, cd, rfl, hdr, hdb, hR, hwf, hb, by simp only; omega, by simp only; omega⟩
set_option maxRecDepth 100000 in
theorem open_cmd {base : Nat} {v : Value} {d : DataW H} {p : List MemPlace} (hv : Value.okWide Tryd.prog w .any base 41 v) (h : DataW.Trod enc Tryd.prog w 0 (fun _ => true) true 41 v d p) (hs : Sz 41 d) :
    ∃ (A : CmdD) (da am al ad : Option Addr) (dc cm cl cd : Nat), v = .agg (cmdL da am al ad dc cm cl cd A) ∧ ByteRow w da A.data ∧ (∀ b ∈ A.data, b < 256) ∧ ViewR w am al ad A.v ∧ WfView A.v ∧ okP A.fr ∧ A.num < 18446744073709551616 ∧ A.vw < 18446744073709551616 := by
  obtain ⟨cs, rfl, hsz⟩ := Go.WideShapes.okWide_struct Tryd.underlying41 hv
  obtain ⟨fuel, hf⟩ := h
  obtain ⟨A, da, am, al, ad, dc, cm, cl, cd, hcs, r⟩ := open_cmdL (x := (d, p)) hf hs
  refine ⟨A, da, am, al, ad, dc, cm, cl, cd, ?_, r⟩
  simp only [Value.cells] at hcs
  rw [show cs = cmdL da am al ad dc cm cl cd A from Array.toList_inj.1 hcs]
end
end Go.Proofs.YtppapeoainafbaaDoor

/-
  DERIVED: THE SHELF's CONTRACTS AT THIS DUMP, IN PLAIN WORDS (tools/lay-plain.mjs out of 'YtppapeoainafbaaDoorShelfTRaw.lean', which tools/lay-shelf.mjs wrote): THE SAME DECLARATIONS UNDER THE SAME NAMES: 'import', 'namespace', 'open', 'def', 'theorem' AND NOTHING ELSE: no command of the shelf's: FOR A HAND-IN. Each laying: the table of numbers ('.._ren') and one theorem, a field a fact of the dump's own or the kernel's comparison; each contract: ONE APPLICATION.
-/
namespace Go.Proofs
open Go.Shelf
def Tryd.cut_ren : Go.Shelf.Ren := ⟨fun | 145 => 18 | 220 => 34 | 219 => 62 | 217 => 92 | 225 => 93 | 224 => 94 | 267 => 95 | 266 => 108 | 314 => 109 | n => n, fun | 9 => 9 | 4 => 4 | 59 => 48 | 3 => 3 | 5 => 5 | 46 => 71 | 146 => 145 | 51 => 23 | n => n, fun | 1 => 1 | n => n⟩
theorem Tryd.cut : Go.Proofs.Lays.n145 Tryd.prog Tryd.cut_ren := {
  mixed := by kernel_rfl
  f145 := Tryd.func18.trans (congrArg some (by kernel_rfl))
  f217 := Tryd.func92.trans (congrArg some (by kernel_rfl))
  f219 := Tryd.func62.trans (congrArg some (by kernel_rfl))
  f220 := Tryd.func34.trans (congrArg some (by kernel_rfl))
  f224 := Tryd.func94.trans (congrArg some (by kernel_rfl))
  f225 := Tryd.func93.trans (congrArg some (by kernel_rfl))
  f266 := Tryd.func108.trans (congrArg some (by kernel_rfl))
  f267 := Tryd.func95.trans (congrArg some (by kernel_rfl))
  f314 := Tryd.func109.trans (congrArg some (by kernel_rfl))
  t3 := Tryd.underlying3
  a3 := Tryd.isAgg3
  z3 := Tryd.sizeOf3
  v3 := Tryd.zeroValue3
  t4 := Tryd.underlying4
  a4 := Tryd.isAgg4
  z4 := Tryd.sizeOf4
  v4 := Tryd.zeroValue4
  t5 := Tryd.underlying5
  a5 := Tryd.isAgg5
  z5 := Tryd.sizeOf5
  v5 := Tryd.zeroValue5
  t9 := Tryd.underlying9
  a9 := Tryd.isAgg9
  z9 := Tryd.sizeOf9
  v9 := Tryd.zeroValue9
  t46 := Tryd.underlying71
  a46 := Tryd.isAgg71
  z46 := Tryd.sizeOf71
  v46 := Tryd.zeroValue71
  t51 := Tryd.underlying23
  a51 := Tryd.isAgg23
  z51 := Tryd.sizeOf23
  v51 := Tryd.zeroValue23
  t59 := Tryd.underlying48
  a59 := Tryd.isAgg48
  z59 := Tryd.sizeOf48
  v59 := Tryd.zeroValue48
  t146 := Tryd.underlying145
  a146 := Tryd.isAgg145
  z146 := Tryd.sizeOf145
  v146 := Tryd.zeroValue145
  g1 := by kernel_rfl }
def Tryd.small_ren : Go.Shelf.Ren := ⟨fun | 283 => 58 | n => n, fun | 3 => 3 | 9 => 9 | 4 => 4 | n => n, fun | n => n⟩
theorem Tryd.small : Go.Proofs.Lays.n283 Tryd.prog Tryd.small_ren := {
  mixed := by kernel_rfl
  f283 := Tryd.func58.trans (congrArg some (by kernel_rfl))
  t3 := Tryd.underlying3
  a3 := Tryd.isAgg3
  z3 := Tryd.sizeOf3
  v3 := Tryd.zeroValue3
  t4 := Tryd.underlying4
  a4 := Tryd.isAgg4
  z4 := Tryd.sizeOf4
  v4 := Tryd.zeroValue4
  t9 := Tryd.underlying9
  a9 := Tryd.isAgg9
  z9 := Tryd.sizeOf9
  v9 := Tryd.zeroValue9 }
def Tryd.ndig_ren : Go.Shelf.Ren := ⟨fun | 284 => 59 | 129 => 88 | 317 => 87 | 318 => 89 | n => n, fun | 53 => 34 | 3 => 3 | 212 => 121 | 0 => 0 | 4 => 4 | 46 => 71 | 5 => 5 | 9 => 9 | n => n, fun | 17 => 0 | n => n⟩
theorem Tryd.ndig : Go.Proofs.LaysM.n284 Tryd.prog Tryd.ndig_ren := {
  mixed := by kernel_rfl
  f129 := Tryd.func88.trans (congrArg some (by kernel_rfl))
  f284 := Tryd.func59.trans (congrArg some (by kernel_rfl))
  f317 := Tryd.func87.trans (congrArg some (by kernel_rfl))
  f318 := Tryd.func89.trans (congrArg some (by kernel_rfl))
  t0 := Tryd.underlying0
  a0 := Tryd.isAgg0
  z0 := Tryd.sizeOf0
  v0 := Tryd.zeroValue0
  t3 := Tryd.underlying3
  a3 := Tryd.isAgg3
  z3 := Tryd.sizeOf3
  v3 := Tryd.zeroValue3
  t4 := Tryd.underlying4
  a4 := Tryd.isAgg4
  z4 := Tryd.sizeOf4
  v4 := Tryd.zeroValue4
  t5 := Tryd.underlying5
  a5 := Tryd.isAgg5
  z5 := Tryd.sizeOf5
  v5 := Tryd.zeroValue5
  t9 := Tryd.underlying9
  a9 := Tryd.isAgg9
  z9 := Tryd.sizeOf9
  v9 := Tryd.zeroValue9
  t46 := Tryd.underlying71
  a46 := Tryd.isAgg71
  z46 := Tryd.sizeOf71
  v46 := Tryd.zeroValue71
  t53 := Tryd.underlying34
  a53 := Tryd.isAgg34
  z53 := Tryd.sizeOf34
  v53 := Tryd.zeroValue34
  t212 := Tryd.underlying121
  a212 := Tryd.isAgg121
  z212 := Tryd.sizeOf121
  v212 := Tryd.zeroValue121
  g17 := by kernel_rfl
  i0 := by kernel_rfl
  i3 := by kernel_rfl
  i4 := by kernel_rfl
  i5 := by kernel_rfl
  i9 := by kernel_rfl
  i46 := by kernel_rfl
  i53 := by kernel_rfl
  i212 := by kernel_rfl
  m17 := by kernel_rfl }
def Tryd.fmtb_ren : Go.Shelf.Ren := ⟨fun | 285 => 60 | n => n, fun | 37 => 35 | 53 => 34 | 3 => 3 | 4 => 4 | 51 => 23 | 9 => 9 | 5 => 5 | 0 => 0 | n => n, fun | n => n⟩
theorem Tryd.fmtb : Go.Proofs.Lays.n285 Tryd.prog Tryd.fmtb_ren := {
  mixed := by kernel_rfl
  f285 := Tryd.func60.trans (congrArg some (by kernel_rfl))
  t0 := Tryd.underlying0
  a0 := Tryd.isAgg0
  z0 := Tryd.sizeOf0
  v0 := Tryd.zeroValue0
  t3 := Tryd.underlying3
  a3 := Tryd.isAgg3
  z3 := Tryd.sizeOf3
  v3 := Tryd.zeroValue3
  t4 := Tryd.underlying4
  a4 := Tryd.isAgg4
  z4 := Tryd.sizeOf4
  v4 := Tryd.zeroValue4
  t5 := Tryd.underlying5
  a5 := Tryd.isAgg5
  z5 := Tryd.sizeOf5
  v5 := Tryd.zeroValue5
  t9 := Tryd.underlying9
  a9 := Tryd.isAgg9
  z9 := Tryd.sizeOf9
  v9 := Tryd.zeroValue9
  t37 := Tryd.underlying35
  a37 := Tryd.isAgg35
  z37 := Tryd.sizeOf35
  v37 := Tryd.zeroValue35
  t51 := Tryd.underlying23
  a51 := Tryd.isAgg23
  z51 := Tryd.sizeOf23
  v51 := Tryd.zeroValue23
  t53 := Tryd.underlying34
  a53 := Tryd.isAgg34
  z53 := Tryd.sizeOf34
  v53 := Tryd.zeroValue34 }
end Go.Proofs

namespace Go.Proofs.YtppapeoainafbaaDoor
open Go.RowKit
/-! ### texts of processes, in plain words -/
abbrev Str := List UInt8
def dgOk (c : UInt8) : Prop := 48 ≤ c.toNat ∧ c.toNat ≤ 57
def valFrom (n : Nat) (s : Str) : Nat := s.foldl (fun n c => n * 10 + (c.toNat - 48)) n
theorem dgChar {d : Nat} (h : d < 10) : (UInt8.ofNat (48 + d)).toNat = 48 + d := by
  simp [UInt8.toNat_ofNat']; omega
theorem dec_ok (u : Nat) : ∀ c ∈ Lib.decDigits u, dgOk c := by
  induction u using Nat.strongRecOn with
  | _ u ih =>
    intro c hc
    rw [Lib.decDigits] at hc
    by_cases h : u < 10
    · rw [dif_pos h] at hc
      have := List.mem_singleton.1 hc
      subst this
      unfold dgOk; rw [dgChar h]; omega
    · rw [dif_neg h] at hc
      rcases List.mem_append.1 hc with hc | hc
      · exact ih (u / 10) (by omega) c hc
      · have := List.mem_singleton.1 hc
        subst this
        unfold dgOk; rw [dgChar (by omega)]; omega
theorem dec_val (u : Nat) : valFrom 0 (Lib.decDigits u) = u := by
  induction u using Nat.strongRecOn with
  | _ u ih =>
    rw [Lib.decDigits]
    by_cases h : u < 10
    · rw [dif_pos h]
      show 0 * 10 + ((UInt8.ofNat (48 + u)).toNat - 48) = u
      rw [dgChar h]; omega
    · rw [dif_neg h]
      unfold valFrom at ih ⊢
      rw [List.foldl_append, ih (u / 10) (by omega)]
      show u / 10 * 10 + ((UInt8.ofNat (48 + u % 10)).toNat - 48) = u
      rw [dgChar (by omega)]; omega
theorem dec_len (u k : Nat) (h : u < 10 ^ (k + 1)) : (Lib.decDigits u).length ≤ k + 1 := by
  induction k generalizing u with
  | zero => rw [Lib.decDigits, dif_pos (by simpa using h)]; simp
  | succ k ih =>
    rw [Lib.decDigits]
    split
    · simp
    · rw [List.length_append]
      have := ih (u / 10) (by rw [Nat.div_lt_iff_lt_mul (by omega)]; rw [Nat.pow_succ] at h; exact h)
      simp; omega
/-! the reference's number -/
/-! cutting at a byte -/
/-! processes -/
def printP (p : Pid) : Str := Lib.decDigits p.1.toNat ++ 46 :: Lib.decDigits p.2.toNat
theorem no_dot (u : Nat) : (46 : UInt8) ∉ Lib.decDigits u := fun h => by
  have := dec_ok u _ h
  unfold dgOk at this
  simp at this
end Go.Proofs.YtppapeoainafbaaDoor

namespace Go.Proofs.YtppapeoainafbaaDoor
open Go.RowKit
/-! ### strconv.FormatUint and the reference's Digits -/
def TabOk (w : World) : Prop := Lib.TabIs Tryd.prog w "internal/strconv.uint64pow10" .u64 Lib.pow10Tab
theorem TabOk.ext {w w' : World} (h : TabOk w) (hb : Below w.heap.size w w') : TabOk w' := by
  have h0 := h
  unfold TabOk Lib.TabIs World.var? at h ⊢
  cases hg : Tryd.prog.globalNamed "internal/strconv.uint64pow10" with
  | none => simp [hg] at h
  | some g =>
    simp only [hg, Option.bind_some] at h ⊢
    cases hk : w.heap[g]? with
    | none => simp [hk] at h
    | some o =>
      have hlt : g < w.heap.size := (Array.getElem?_eq_some_iff.1 hk).1
      rw [hb.block g hlt]
      exact h
theorem small_any (i : Nat) (h : i < 100) (w : World) : Calls Tryd.prog 58 #[.int .i64 i] w fun e w' => e = .returned (.string ⟨(Lib.decDigits i).toArray⟩) ∧ w' = w := Any.internal_strconv_small Tryd.small i h w
theorem ndig_any (u : Nat) (h1 : 1 ≤ u) (h2 : u < 18446744073709551616) (w : World) (ht : TabOk w) : Calls Tryd.prog 59 #[.int .u64 u] w fun e w' => e = .returned (.int .i64 (Lib.nDigits u)) ∧ w' = w := Any.internal_strconv_numDigits Tryd.ndig u h1 h2 w ht
theorem fmtb_any (blk off cap u : Nat) (d : Array UInt8) (w : World) (hH : Go.Sort.Holds (fun (b : UInt8) => Value.int .u8 (b.toNat : Int)) w blk off d) (hu : u < 10 ^ d.size) (hu64 : u < 18446744073709551616) (hsz : d.size < 4611686018427387904) :
    Calls Tryd.prog 60 #[.slice (some ⟨blk, off, none⟩) d.size cap, .int .u64 u] w fun e w' =>
      e = .returned (.tuple #[]) ∧ ∃ (n v' : Nat) (dk : Array UInt8), w' = (Go.Sort.putRow (fun (b : UInt8) => Value.int .u8 (b.toNat : Int)) w blk off dk).drewN n ∧ Lib.FmtInv d.size u 0 v' dk := Any.internal_strconv_formatBase10 Tryd.fmtb blk off cap u d w hH hu hu64 hsz
set_option maxHeartbeats 3200000 in
set_option maxRecDepth 100000 in
theorem fmtI_any (u : Nat) (hu64 : u < 18446744073709551616) (w : World) (ht : TabOk w) :
    Calls Tryd.prog 33 #[.int .u64 u, .int .i64 10] w fun e w' => e = .returned (.string ⟨(Lib.decDigits u).toArray⟩) ∧ Below w.heap.size w w' := by
  by_cases hs : u < 100
  · have C1 := Lib.hid (small_any u hs w)
    have i1 : (u : Int) < 100 := by omega
    have i2 : decide ((u : Int) < 100) = true := decide_eq_true i1
    have i3 : IntKind.i64.wrap (u : Int) = u := by rw [IntKind.wrap_i64] <;> omega
    go_enter Tryd.func33, Tryd.ntmps33
    go_wp2_with fail
    (with_reducible refine C1.out.mono ?_)
    rintro e w3 ⟨rfl, rfl⟩
    go_wp2
    go_ret
    exact ⟨rfl, Below.refl _ _⟩
  · have hu1 : 1 ≤ u := by omega
    have i1 : ¬ (u : Int) < 100 := by omega
    have i2 : decide ((u : Int) < 100) = false := decide_eq_false i1
    have hnd20 : Lib.nDigits u ≤ 20 := by have := Lib.numDigits_eq u hu1 hu64; split at this <;> omega
    have hal : Tryd.prog.arrayLen 93 = 24 := by kernel_rfl
    have hsl : ∀ W, (Instr.sliceAt 93 (.pointer (some ⟨w.heap.size, 0, none⟩)) none (some (.int .i64 (Lib.nDigits u : Int))) none).run Tryd.prog W = .ok (.slice (some ⟨w.heap.size, 0, none⟩) (Lib.nDigits u) 24) W := fun W => by
      rw [run_sliceAt_array_h W 93 ⟨w.heap.size, 0, none⟩ (by kernel_rfl) .i64 (Lib.nDigits u : Int) (by omega) (by rw [hal]; omega)]
      rw [hal]
      go_simp
    have hH0 := Lib.holds_zero0 w 93 (Lib.nDigits u) (by omega)
    have hfmt := fmtb_any w.heap.size 0 24 u (Array.replicate (Lib.nDigits u) 0) (w.alloc (.cells Lib.zeros24 93)) hH0 (by rw [Array.size_replicate]; exact Lib.lt_pow_nDigits u) hu64 (by rw [Array.size_replicate]; omega)
    rw [Array.size_replicate] at hfmt
    have HH0 := Lib.hid hH0
    have HF := Lib.hid hfmt
    have C1 := Lib.hid (ndig_any u hu1 hu64 (w.alloc (.cells Lib.zeros24 93)) (ht.ext ((Below.refl _ _).alloc (Nat.le_refl _) _)))
    clear hH0 hal hfmt
    go_enter Tryd.func33, Tryd.ntmps33
    go_wp2_with fail
    (refine C1.out.mono ?_)
    rintro e w3 ⟨rfl, rfl⟩
    go_wp2_with fail
    (refine HF.out.mono ?_)
    rintro e w3 ⟨rfl, k, v', dk, rfl, hF⟩
    have hcv : (convert 35 9 (.slice (some ⟨w.heap.size, 0, none⟩) (Lib.nDigits u) 24)).run Tryd.prog ((Go.Sort.putRow (fun (b : UInt8) => Value.int .u8 (b.toNat : Int)) (w.alloc (.cells Lib.zeros24 93)) w.heap.size 0 dk).drewN k) = .ok (.string ⟨(Lib.decDigits u).toArray⟩) ((Go.Sort.putRow (fun (b : UInt8) => Value.int .u8 (b.toNat : Int)) (w.alloc (.cells Lib.zeros24 93)) w.heap.size 0 dk).drewN k) := by
      have h := run_convert_bytes_back (P := Tryd.prog) ((Go.Sort.putRow (fun (b : UInt8) => Value.int .u8 (b.toNat : Int)) (w.alloc (.cells Lib.zeros24 93)) w.heap.size 0 dk).drewN k) 35 9 5 ⟨w.heap.size, 0, none⟩ 24 (Lib.decDigits u) Tryd.underlying35 Tryd.underlying5 Tryd.underlying9 (fun j hj => by
        rw [Lib.row_is_numeral hF j hj, Lib.add_plain, World.cell?_drewN]
        exact Go.Sort.cell?_putRow (fun (b : UInt8) => Value.int .u8 (b.toNat : Int)) _ w.heap.size 0 _ dk HH0.out (by rw [hF.size, Array.size_replicate]) j (by rw [hF.size]; rw [Lib.decDigits_length] at hj; exact hj))
      rw [Lib.decDigits_length] at h
      exact h
    go_wp2
    go_ret
    obtain ⟨os, eo⟩ := Lib.fin_at w (.cells Lib.zeros24 93) dk k 0
    exact ⟨rfl, by rw [eo]; exact Lib.below_grow w.heap.size w (Nat.le_refl _) k os⟩
theorem fmt_any (u : Nat) (hu64 : u < 18446744073709551616) (w : World) (ht : TabOk w) :
    Calls Tryd.prog 17 #[.int .u64 u, .int .i64 10] w fun e w' => e = .returned (.string ⟨(Lib.decDigits u).toArray⟩) ∧ Below w.heap.size w w' := by
  have C1 := Lib.hid (fmtI_any u hu64 w ht)
  go_enter Tryd.func17, Tryd.ntmps17
  go_wp2_with fail
  (refine C1.out.mono ?_)
  rintro e w3 ⟨rfl, hb⟩
  have HB := Lib.hid hb
  clear hb
  go_wp2
  go_ret
  exact ⟨rfl, HB.out⟩
end Go.Proofs.YtppapeoainafbaaDoor

namespace Go.Proofs.YtppapeoainafbaaDoor
open Go.RowKit
/-! ### Digits of the reference, Print of both -/
theorem run_dig (n : Nat) (h : n < 10) (W : World) : (Instr.slice 9 (.string ⟨#[48, 49, 50, 51, 52, 53, 54, 55, 56, 57]⟩) (some (.int .u64 (n : Int))) (some (.int .u64 ((n : Int) + 1))) none).run Tryd.prog W = .ok (.string ⟨(Lib.decDigits n).toArray⟩) W := by
  have hz : (⟨#[48, 49, 50, 51, 52, 53, 54, 55, 56, 57]⟩ : ByteArray).size = 10 := rfl
  rw [run_slice_string W 9 _ .u64 .u64 _ _ Tryd.underlying9 (by omega) (by omega) (by rw [hz]; omega), show ((n : Int)).toNat = n by omega, show ((n : Int) + 1).toNat = n + 1 by omega]
  congr 2
  rw [Lib.decDigits_one h]
  have : n = 0 ∨ n = 1 ∨ n = 2 ∨ n = 3 ∨ n = 4 ∨ n = 5 ∨ n = 6 ∨ n = 7 ∨ n = 8 ∨ n = 9 := by omega
  rcases this with rfl | rfl | rfl | rfl | rfl | rfl | rfl | rfl | rfl | rfl <;> first | rfl | decide +kernel
theorem cell_extY {w : World} {a : Addr} {v : Value} (h : w.cell? a = some v) : ∀ U : ExtW w, U.W.cell? a = some v := fun U => (U.h.cell (World.block_lt_of_cell? w _ h)).trans h
theorem run_cat (a b : Str) (ha : a.length ≤ 8000000) (hb : b.length ≤ 8000000) (W : World) : (Op.stringOp .add ⟨a.toArray⟩ ⟨b.toArray⟩).run Tryd.prog W = .ok (.string ⟨(a ++ b).toArray⟩) W :=
  run_string_add_lists W a b (by omega) (by omega)
set_option maxHeartbeats 1600000 in
theorem digits_any (n : Nat) : n < 18446744073709551616 → ∀ w : World, Calls Tryd.prog 21 #[.int .u64 n] w fun e w' => e = .returned (.string ⟨(Lib.decDigits n).toArray⟩) ∧ Below w.heap.size w w' := by
  induction n using Nat.strongRecOn with
  | _ n ih =>
    intro hn w
    by_cases h : n < 10
    · have U := run_dig n h
      have i1 : (n : Int) < 10 := by omega
      have i2 : decide ((n : Int) < 10) = true := decide_eq_true i1
      have i3 : IntKind.u64.wrap ((n : Int) + 1) = (n : Int) + 1 := by rw [IntKind.wrap_u64]; omega
      clear ih
      go_enter Tryd.func21, Tryd.ntmps21
      go_wp2
      go_ret
      exact ⟨rfl, Below.refl _ _⟩
    · have i1 : ¬ (n : Int) < 10 := by omega
      have i2 : decide ((n : Int) < 10) = false := decide_eq_false i1
      have U := run_dig (n % 10) (Nat.mod_lt _ (by omega))
      have e1 : ((n / 10 : Nat) : Int) = (n : Int) / 10 := by omega
      have hl1 := dec_len (n / 10) 19 (by omega)
      have hl2 := dec_len (n % 10) 19 (by omega)
      have hadd := run_cat (Lib.decDigits (n / 10)) (Lib.decDigits (n % 10)) (by omega) (by omega)
      clear hl1 hl2
      have e2 : ((n % 10 : Nat) : Int) = (n : Int) % 10 := by omega
      rw [e2] at U
      have CX : ∀ V : ExtW w, Calls Tryd.prog 21 #[.int .u64 ((n / 10 : Nat) : Int)] V.W fun e w' => e = .returned (.string ⟨(Lib.decDigits (n / 10)).toArray⟩) ∧ ∃ V' : ExtW w, w' = V'.W := fun V => by
        refine (ih (n / 10) (by omega) (by omega) V.W).mono ?_
        rintro e w' ⟨rfl, hb⟩
        exact ⟨rfl, ⟨_, V.h.trans (hb.mono V.h.size)⟩, rfl⟩
      rw [e1] at CX
      have CX := hid CX
      clear ih e1 e2
      go_enter Tryd.func21, Tryd.ntmps21
      go_wp2
      refine wp_region_ext (w := w) (Below.refl _ _) (by kernel_rfl) (by kernel_rfl) ?_
      repeat (go_big_quiet_step (with_reducible exact CX.out _))
      refine wpQuiet_nil ?_
      rintro w9 ⟨⟨_, hb9⟩, rfl⟩
      have HB9 := hid hb9
      have e : Lib.decDigits n = Lib.decDigits (n / 10) ++ Lib.decDigits (n % 10) := by
        rw [Lib.decDigits, dif_neg h, Lib.decDigits_one (Nat.mod_lt _ (by omega))]
      have HE := hid e
      clear hb9 CX U hadd
      go_wp2
      go_ret
      refine ⟨?_, HB9.out⟩
      rw [HE.out]; rfl
theorem printP_len {x y : Nat} (hx : x < 65536) (hy : y < 4294967296) : (Lib.decDigits x).length ≤ 20 ∧ (Lib.decDigits y).length ≤ 20 := ⟨dec_len x 19 (by omega), dec_len y 19 (by omega)⟩
set_option maxHeartbeats 1600000 in
theorem print_any {x y : Nat} (hx : x < 65536) (hy : y < 4294967296) (w : World) (ht : TabOk w) :
    Calls Tryd.prog 6 #[.agg #[.int .u16 x, .int .u32 y]] w fun e w' => e = .returned (.string ⟨(printP ((x : Int), (y : Int))).toArray⟩) ∧ Below w.heap.size w w' := by
  obtain ⟨wr, hwr⟩ : ∃ wr, w.alloc (.cells #[.int .u16 x, .int .u32 y] 25) = wr := ⟨_, rfl⟩
  have hB : Below w.heap.size w wr := by rw [← hwr]; exact (Below.refl _ _).alloc (Nat.le_refl _) _
  have k0 : wr.cell? ⟨w.heap.size, 0, none⟩ = some (.int .u16 x) := by rw [← hwr]; simp
  have k1 : wr.cell? ⟨w.heap.size, 1, none⟩ = some (.int .u32 y) := by rw [← hwr]; simp
  have f0 := cell_extY k0
  have f1 := cell_extY k1
  have CX : ∀ n : Nat, n < 18446744073709551616 → ∀ V : ExtW wr, Calls Tryd.prog 17 #[.int .u64 (n : Int), .int .i64 10] V.W fun e w' => e = .returned (.string ⟨(Lib.decDigits n).toArray⟩) ∧ ∃ V' : ExtW wr, w' = V'.W := fun n hn V => by
    refine (fmt_any n hn V.W ((ht.ext hB).ext V.h)).mono ?_
    rintro e w' ⟨rfl, hb⟩
    exact ⟨rfl, ⟨_, V.h.trans (hb.mono V.h.size)⟩, rfl⟩
  have C0 := hid (CX x (by omega))
  have C1 := hid (CX y (by omega))
  have i0 : IntKind.u64.wrap (x : Int) = x := by rw [IntKind.wrap_u64]; omega
  have i1 : IntKind.u64.wrap (y : Int) = y := by rw [IntKind.wrap_u64]; omega
  obtain ⟨l0, l1⟩ := printP_len hx hy
  have a0 := run_cat (Lib.decDigits x) [46] (by omega) (by simp)
  have a1 := run_cat (Lib.decDigits x ++ [46]) (Lib.decDigits y) (by simp; omega) (by omega)
  have HB := hid hB
  clear l0 l1 hB CX k0 k1
  go_enter Tryd.func6, Tryd.ntmps6
  go_wp2
  clear hwr
  refine wp_region_ext (w := wr) (Below.refl _ _) (by kernel_rfl) (by kernel_rfl) ?_
  repeat (go_big_quiet_step (first | with_reducible exact C0.out _ | with_reducible exact C1.out _))
  refine wpQuiet_nil ?_
  rintro w9 ⟨⟨_, hb9⟩, rfl⟩
  have HB9 := hid (HB.out.trans (hb9.mono HB.out.size))
  clear hb9 C0 C1 a0 a1 f0 f1
  go_wp2
  go_ret
  exact ⟨rfl, HB9.out⟩
set_option maxHeartbeats 1600000 in
theorem refPrint_any {x y : Nat} (hx : x < 65536) (hy : y < 4294967296) (w : World)  :
    Calls Tryd.prog 9 #[.agg #[.int .u16 x, .int .u32 y]] w fun e w' => e = .returned (.string ⟨(printP ((x : Int), (y : Int))).toArray⟩) ∧ Below w.heap.size w w' := by
  obtain ⟨wr, hwr⟩ : ∃ wr, w.alloc (.cells #[.int .u16 x, .int .u32 y] 25) = wr := ⟨_, rfl⟩
  have hB : Below w.heap.size w wr := by rw [← hwr]; exact (Below.refl _ _).alloc (Nat.le_refl _) _
  have k0 : wr.cell? ⟨w.heap.size, 0, none⟩ = some (.int .u16 x) := by rw [← hwr]; simp
  have k1 : wr.cell? ⟨w.heap.size, 1, none⟩ = some (.int .u32 y) := by rw [← hwr]; simp
  have f0 := cell_extY k0
  have f1 := cell_extY k1
  have CX : ∀ n : Nat, n < 18446744073709551616 → ∀ V : ExtW wr, Calls Tryd.prog 21 #[.int .u64 (n : Int)] V.W fun e w' => e = .returned (.string ⟨(Lib.decDigits n).toArray⟩) ∧ ∃ V' : ExtW wr, w' = V'.W := fun n hn V => by
    refine (digits_any n hn V.W).mono ?_
    rintro e w' ⟨rfl, hb⟩
    exact ⟨rfl, ⟨_, V.h.trans (hb.mono V.h.size)⟩, rfl⟩
  have C0 := hid (CX x (by omega))
  have C1 := hid (CX y (by omega))
  have i0 : IntKind.u64.wrap (x : Int) = x := by rw [IntKind.wrap_u64]; omega
  have i1 : IntKind.u64.wrap (y : Int) = y := by rw [IntKind.wrap_u64]; omega
  obtain ⟨l0, l1⟩ := printP_len hx hy
  have a0 := run_cat (Lib.decDigits x) [46] (by omega) (by simp)
  have a1 := run_cat (Lib.decDigits x ++ [46]) (Lib.decDigits y) (by simp; omega) (by omega)
  have HB := hid hB
  clear l0 l1 hB CX k0 k1
  go_enter Tryd.func9, Tryd.ntmps9
  go_wp2
  clear hwr
  refine wp_region_ext (w := wr) (Below.refl _ _) (by kernel_rfl) (by kernel_rfl) ?_
  repeat (go_big_quiet_step (first | with_reducible exact C0.out _ | with_reducible exact C1.out _))
  refine wpQuiet_nil ?_
  rintro w9 ⟨⟨_, hb9⟩, rfl⟩
  have HB9 := hid (HB.out.trans (hb9.mono HB.out.size))
  clear hb9 C0 C1 a0 a1 f0 f1
  go_wp2
  go_ret
  exact ⟨rfl, HB9.out⟩
end Go.Proofs.YtppapeoainafbaaDoor

namespace Go.Proofs.YtppapeoainafbaaDoor
open Go.RowKit

set_option maxRecDepth 100000 in
set_option maxHeartbeats 1600000 in
theorem refLeaf_any (V : View) (am al ad : Option Addr) (cm cl cd : Nat) (x y : Int) (w : World) (hV : ViewR w am al ad V) :
   Calls Tryd.prog 55 #[.agg #[.int .u64 V.id, .slice am V.ms.length cm, .slice al V.ls.length cl, .slice ad V.ds.length cd], .agg #[.int .u16 x, .int .u32 y]] w fun e w' => e = .returned (.int .i64 (leafIx V.ls (x, y))) ∧ Below w.heap.size w w' := by
  have hB2 : Below w.heap.size w ((w.alloc (.cells #[.int .u64 V.id, .slice am V.ms.length cm, .slice al V.ls.length cl, .slice ad V.ds.length cd] 39)).alloc (.cells #[.int .u16 x, .int .u32 y] 25)) := ((Below.refl _ _).alloc (Nat.le_refl _) _).alloc (by simp) _
  have hV2 := hV.ext hB2
  have hz : w.heap.size ≤ ((w.alloc (.cells #[.int .u64 V.id, .slice am V.ms.length cm, .slice al V.ls.length cl, .slice ad V.ds.length cd] 39)).alloc (.cells #[.int .u16 x, .int .u32 y] 25)).heap.size := by simp; omega
  have k0 : ((w.alloc (.cells #[.int .u64 V.id, .slice am V.ms.length cm, .slice al V.ls.length cl, .slice ad V.ds.length cd] 39)).alloc (.cells #[.int .u16 x, .int .u32 y] 25)).cell? ⟨w.heap.size + 1, 0, none⟩ = some (.int .u16 x) := by simp
  have k1 : ((w.alloc (.cells #[.int .u64 V.id, .slice am V.ms.length cm, .slice al V.ls.length cl, .slice ad V.ds.length cd] 39)).alloc (.cells #[.int .u16 x, .int .u32 y] 25)).cell? ⟨w.heap.size + 1, 1, none⟩ = some (.int .u32 y) := by simp
  have k2 : ((w.alloc (.cells #[.int .u64 V.id, .slice am V.ms.length cm, .slice al V.ls.length cl, .slice ad V.ds.length cd] 39)).alloc (.cells #[.int .u16 x, .int .u32 y] 25)).cell? ⟨w.heap.size, 2, none⟩ = some (.slice al V.ls.length cl) := by simp
  go_enter Tryd.func55, Tryd.ntmps55
  go_wp2
  revert hB2 hV2 hz k0 k1 k2
  generalize (w.alloc (.cells #[.int .u64 V.id, .slice am V.ms.length cm, .slice al V.ls.length cl, .slice ad V.ds.length cd] 39)).alloc (.cells #[.int .u16 x, .int .u32 y] 25) = w2
  intro hB2 hV2 hz k0 k1 k2
  have hll := hV.ll
  go_loopw [4, 5] (fun r i wr => r = .int .i64 0 ∧ ∃ k : Nat, k ≤ V.ls.length ∧ i = .int .i64 k ∧ Hid (leafIx V.ls (x, y) = leafFrom (x, y) (V.ls.drop k) k) ∧ Below w2.heap.size w2 wr) (fun _ i _ => V.ls.length - (intOf i).toNat)
  case atStart => exact ⟨rfl, 0, Nat.zero_le _, rfl, rfl, Below.refl _ _⟩
  case round =>
    obtain ⟨rfl, k, hk, rfl, ha, hb⟩ := hrel
    have f0 := cell_to k0 hb
    have f1 := cell_to k1 hb
    have f2 := cell_to k2 hb
    by_cases hlt : k < V.ls.length
    · obtain ⟨b, off, ai, ci, l, rfl, hx, d1, d2⟩ := hV2.ls.at hb rfl hlt
      have hln : l.length ≤ 70368744177664 := hV.le l (by rw [hx]; exact List.getElem_mem _)
      obtain ⟨A, hA⟩ : ∃ A, atIx l (x, y) = A := ⟨_, rfl⟩
      have hmem := atIx_nonneg (p := (x, y)) (xs := l)
      rw [hA] at hmem
      have hdr := leafFrom_drop hlt (x, y)
      rw [← hx] at hdr
      have HA := hid hA
      have HD := hid hdr
      have g0 := cell_extw f0
      have g1 := cell_extw f1
      have g2 := cell_extw f2
      have g3 := cell_extw d1
      clear hA hx hdr
      by_cases h0 : 0 ≤ A
      · have h0' : decide (0 ≤ A) = true := by simpa using h0
        have HM : Hid ((x, y) ∈ l) := by rw [h0'] at hmem; exact hid (of_decide_eq_true hmem.symm)
        clear hmem
        go_wp2
        clear f0 f1 f2 d1
        refine wp_region_ext (w := wr) (Below.refl _ _) (by kernel_rfl) (by kernel_rfl) ?_
        repeat (go_big_quiet_step (exact at_ext d2 hln HA))
        refine wpQuiet_nil ?_
        rintro w9 ⟨⟨_, hb9⟩, rfl⟩
        go_wp2
        go_ret
        exact ⟨ret_int (by rw [ha.out, HD.out, if_pos HM.out]), hB2.trans ((hb.trans (hb9.mono hb.size)).mono hz)⟩
      · have h0' : decide (0 ≤ A) = false := by simpa using h0
        have HM : Hid (¬ (x, y) ∈ l) := by rw [h0'] at hmem; exact hid (of_decide_eq_false hmem.symm)
        clear hmem
        go_wp2
        clear f0 f1 f2 d1
        refine wp_region_ext (w := wr) (Below.refl _ _) (by kernel_rfl) (by kernel_rfl) ?_
        repeat (go_big_quiet_step (exact at_ext d2 hln HA))
        refine wpQuiet_nil ?_
        rintro w9 ⟨⟨_, hb9⟩, rfl⟩
        go_wp2
        go_roundw
        case rel => exact ⟨rfl, k + 1, by omega, by go_num, (ha.out.trans (by rw [HD.out, if_neg HM.out]) : _), hb.trans (hb9.mono hb.size)⟩
        case measure => simp [intOf]; omega
    · go_wp2
      go_ret
      exact ⟨ret_int (by rw [ha.out, leafFrom_end (by omega)]), hB2.trans (hb.mono hz)⟩
end Go.Proofs.YtppapeoainafbaaDoor

namespace Go.Proofs.YtppapeoainafbaaDoor
open Go.RowKit
/-! ### texts of views, in plain words -/
def wordP (V : View) (p : Pid) : Str := [32] ++ printP p ++ [47] ++ Lib.decDigits (leafIx V.ls p).toNat ++ (if p ∈ V.ds then [42] else [])
def wordsP (V : View) : List Pid → Str
  | [] => []
  | p :: r => wordP V p ++ wordsP V r
def viewP (V : View) : Str := Lib.decDigits V.id.toNat ++ wordsP V V.ms
theorem wordsP_drop (V : View) {xs : List Pid} {k : Nat} (h : k < xs.length) {p : Pid} (hp : p = xs[k]) : wordsP V (xs.drop k) = wordP V p ++ wordsP V (xs.drop (k + 1)) := by
  rw [List.drop_eq_getElem_cons h, ← hp]; rfl
theorem leafFrom_mem {p : Pid} : ∀ {ls : List (List Pid)} {j : Nat}, p ∈ ls.flatten → ∃ k : Nat, leafFrom p ls j = (k : Int) ∧ k < j + ls.length
  | [], j, h => by simp at h
  | l :: r, j, h => by
    unfold leafFrom
    by_cases hp : p ∈ l
    · rw [if_pos hp]; exact ⟨j, rfl, by simp⟩
    · rw [if_neg hp]
      obtain ⟨k, h1, h2⟩ := leafFrom_mem (ls := r) (j := j + 1) (by simpa [hp] using h)
      exact ⟨k, h1, by simp; omega⟩
theorem check_leaf {V : View} (h : checkB V = true) : V.ms.length ≤ 24 ∧ (0 ≤ V.id ∧ V.id ≤ 4611686018427387904) ∧ ∀ p ∈ V.ms, ∃ k : Nat, k < 100 ∧ leafIx V.ls p = (k : Int) := by
  unfold checkB at h
  simp only [Bool.and_eq_true, decide_eq_true_eq, chkFrom_iff, chkEnd, ris_same, List.nil_append, Nat.zero_add] at h
  obtain ⟨a, b, c, d, e, f, g, h, i⟩ := h
  have hl := lens_flatten V.ls
  unfold membersB at c
  rw [memFrom_iff] at c
  have hls := lens_ge (fun l hl => (d l hl).1)
  have hc := c.1.2
  have hnd := nodup_of_ids c.2.2.1
  have hfm : ∀ x ∈ V.ls.flatten, x ∈ V.ms := fun x hx => by
    obtain ⟨l, hl1, hl2⟩ := List.mem_flatten.1 hx
    exact risR_mem (d l hl1).2 x hl2
  refine ⟨by omega, ⟨by omega, b⟩, fun p hp => ?_⟩
  have hcount : V.ls.flatten.count p = 1 := by
    refine (count_iff hnd hfm).2 ⟨?_, ?_⟩ p hp
    · omega
    · exact unionL_nodup.1 (by omega)
  have hmem : p ∈ V.ls.flatten := List.count_pos_iff.1 (by omega)
  obtain ⟨k, h1, h2⟩ := leafFrom_mem (j := 0) hmem
  exact ⟨k, by omega, h1⟩
end Go.Proofs.YtppapeoainafbaaDoor

namespace Go.Proofs.YtppapeoainafbaaDoor
open Go.RowKit
/-! ### texts of bytes: Hex of both -/
def hexD (i : Nat) : UInt8 := (([48, 49, 50, 51, 52, 53, 54, 55, 56, 57, 97, 98, 99, 100, 101, 102] : List UInt8).getD i 0)
def hexP : List Nat → Str
  | [] => []
  | b :: r => hexD (b / 16) :: hexD (b % 16) :: hexP r
theorem hexD_inj : ∀ i, i < 16 → ∀ j, j < 16 → hexD i = hexD j → i = j := by decide +kernel
theorem hexP_len : ∀ bs : List Nat, (hexP bs).length = 2 * bs.length
  | [] => rfl
  | b :: r => by have := hexP_len r; simp [hexP]; omega
theorem hexP_inj : ∀ xs ys : List Nat, (∀ b ∈ xs, b < 256) → (∀ b ∈ ys, b < 256) → hexP xs = hexP ys → xs = ys
  | [], [], _, _, _ => rfl
  | [], _ :: _, _, _, h => by cases h
  | _ :: _, [], _, _, h => by cases h
  | x :: r, y :: q, hx, hy, h => by
    have h0 : x < 256 := hx x (List.mem_cons_self ..)
    have h1 : y < 256 := hy y (List.mem_cons_self ..)
    simp only [hexP, List.cons.injEq] at h
    have e1 := hexD_inj (x / 16) (by omega) (y / 16) (by omega) h.1
    have e2 := hexD_inj (x % 16) (by omega) (y % 16) (by omega) h.2.1
    have e : x = y := by omega
    rw [e, hexP_inj r q (fun b hb => hx b (List.mem_cons_of_mem _ hb)) (fun b hb => hy b (List.mem_cons_of_mem _ hb)) h.2.2]
theorem hexP_drop {bs : List Nat} {k x : Nat} (h : k < bs.length) (hx : x = bs[k]) : hexP (bs.drop k) = [hexD (x / 16)] ++ ([hexD (x % 16)] ++ hexP (bs.drop (k + 1))) := by
  rw [List.drop_eq_getElem_cons h, ← hx]; rfl
theorem run_hexD (n : Nat) (h : n < 16) (W : World) : (Instr.slice 9 (.string ⟨#[48, 49, 50, 51, 52, 53, 54, 55, 56, 57, 97, 98, 99, 100, 101, 102]⟩) (some (.int .u8 (n : Int))) (some (.int .u8 ((n : Int) + 1))) none).run Tryd.prog W = .ok (.string ⟨[hexD n].toArray⟩) W := by
  have hz : (⟨#[48, 49, 50, 51, 52, 53, 54, 55, 56, 57, 97, 98, 99, 100, 101, 102]⟩ : ByteArray).size = 16 := rfl
  rw [run_slice_string W 9 _ .u8 .u8 _ _ Tryd.underlying9 (by omega) (by omega) (by rw [hz]; omega), show ((n : Int)).toNat = n by omega, show ((n : Int) + 1).toNat = n + 1 by omega]
  congr 2
  have : n = 0 ∨ n = 1 ∨ n = 2 ∨ n = 3 ∨ n = 4 ∨ n = 5 ∨ n = 6 ∨ n = 7 ∨ n = 8 ∨ n = 9 ∨ n = 10 ∨ n = 11 ∨ n = 12 ∨ n = 13 ∨ n = 14 ∨ n = 15 := by omega
  rcases this with rfl | rfl | rfl | rfl | rfl | rfl | rfl | rfl | rfl | rfl | rfl | rfl | rfl | rfl | rfl | rfl <;> first | rfl | decide +kernel
set_option maxHeartbeats 3200000 in
theorem refHex_any {a : Option Addr} {c n : Nat} {bs : List Nat} {w : World} (hn : Hid (bs.length = n)) (hnl : n ≤ 1000000) (hb : ∀ b ∈ bs, b < 256) (hx : ByteRow w a bs) :
    Calls Tryd.prog 30 #[.slice a n c] w fun e w' => e = .returned (.string ⟨(hexP bs).toArray⟩) ∧ Below w.heap.size w w' := by
  have HX := hid hx
  have HB := hid hb
  clear hx hb
  go_enter Tryd.func30, Tryd.ntmps30
  go_wp2_with fail
  go_loopw [3, 4] (fun vo iv wr => ∃ (out : Str) (k : Nat), vo = .string ⟨out.toArray⟩ ∧ iv = .int .i64 k ∧ k ≤ n ∧ out.length ≤ 2 * k ∧ Hid (out ++ hexP (bs.drop k) = hexP bs) ∧ Hid (Below w.heap.size w wr)) (fun _ iv _ => n - (intOf iv).toNat)
  case atStart => exact ⟨[], 0, rfl, rfl, Nat.zero_le _, by simp, hid rfl, hid (Below.refl _ _)⟩
  case round =>
    obtain ⟨out, k, rfl, rfl, hk, hol, hf, hbw⟩ := hrel
    by_cases hlt : k < n
    · have hk1 : k < bs.length := by rw [hn.out]; exact hlt
      obtain ⟨b, o, x, rfl, hxk, q0⟩ := HX.out.at hbw.out rfl hk1
      have hx256 : x < 256 := by rw [hxk]; exact HB.out _ (List.getElem_mem hk1)
      have HD := hid (hexP_drop hk1 hxk)
      have f0 := cell_extY q0
      have U1 := run_hexD (x / 16) (by omega)
      have U2 := run_hexD (x % 16) (by omega)
      have e1 : ((x / 16 : Nat) : Int) = (x : Int) / 16 := by omega
      have e2 : ((x % 16 : Nat) : Int) = (x : Int) % 16 := by omega
      rw [e1] at U1
      rw [e2] at U2
      have a1 := run_cat out [hexD (x / 16)] (by omega) (by simp)
      have a2 := run_cat (out ++ [hexD (x / 16)]) [hexD (x % 16)] (by simp; omega) (by simp)
      have hol2 : (out ++ [hexD (x / 16)] ++ [hexD (x % 16)]).length ≤ 2 * (k + 1) := by simp; omega
      have HO := hid hol2
      clear hxk e1 e2 hol hol2 q0
      go_wp2_with fail
      refine wp_region_ext (w := wr) (Below.refl _ _) (by kernel_rfl) (by kernel_rfl) ?_
      repeat (go_big_quiet_step (fail))
      refine wpQuiet_nil ?_
      rintro w9 ⟨⟨_, hb9⟩, rfl⟩
      have HB9 := hid (hbw.out.trans (hb9.mono hbw.out.size))
      clear hb9 f0 U1 U2 a1 a2
      go_wp2_with fail
      go_roundw
      case rel => exact ⟨out ++ [hexD (x / 16)] ++ [hexD (x % 16)], k + 1, by simp, by go_num, by omega, HO.out, hid (by rw [← hf.out, HD.out, List.append_assoc, List.append_assoc]), HB9⟩
      case measure => simp [intOf]; omega
    · have hke : bs.drop k = [] := List.drop_eq_nil_of_le (by rw [hn.out]; omega)
      have hres : out = hexP bs := by rw [← hf.out, hke]; simp [hexP]
      subst hres
      go_wp2_with fail
      go_ret
      exact ⟨rfl, hbw.out⟩
end Go.Proofs.YtppapeoainafbaaDoor

namespace Go.Proofs.YtppapeoainafbaaDoor
open Go.RowKit
/-! ### a text tells the view -/
def endsC (c : UInt8) (r : Str) : Prop := r = [] ∨ ∃ t, r = c :: t
theorem cutc {c : UInt8} : ∀ {a b r q : Str}, c ∉ a → c ∉ b → endsC c r → endsC c q → a ++ r = b ++ q → a = b ∧ r = q
  | [], [], _, _, _, _, _, _, h => ⟨rfl, by simpa using h⟩
  | [], y :: b, r, q, _, hb, hr, _, h => by
    rcases hr with rfl | ⟨t, rfl⟩
    · simp at h
    · simp only [List.nil_append, List.cons_append, List.cons.injEq] at h
      exact absurd (by rw [h.1]; exact List.mem_cons_self ..) hb
  | x :: a, [], r, q, ha, _, _, hq, h => by
    rcases hq with rfl | ⟨t, rfl⟩
    · simp at h
    · simp only [List.nil_append, List.cons_append, List.cons.injEq] at h
      exact absurd (by rw [← h.1]; exact List.mem_cons_self ..) ha
  | x :: a, y :: b, r, q, ha, hb, hr, hq, h => by
    simp only [List.cons_append, List.cons.injEq] at h
    obtain ⟨e1, e2⟩ := cutc (fun hc => ha (List.mem_cons_of_mem _ hc)) (fun hc => hb (List.mem_cons_of_mem _ hc)) hr hq h.2
    exact ⟨by rw [h.1, e1], e2⟩
theorem dec_inj {u v : Nat} (h : Lib.decDigits u = Lib.decDigits v) : u = v := by
  rw [← dec_val u, ← dec_val v, h]
theorem dec_no {c : UInt8} (hc : c.toNat < 48) (u : Nat) : c ∉ Lib.decDigits u := fun h => by
  have := dec_ok u _ h
  unfold dgOk at this
  omega
theorem printP_no {c : UInt8} (hc : c.toNat < 48) (h46 : c ≠ 46) (p : Pid) : c ∉ printP p := by
  unfold printP
  intro h
  rcases List.mem_append.1 h with h | h
  · exact dec_no hc _ h
  · rcases List.mem_cons.1 h with h | h
    · exact h46 h
    · exact dec_no hc _ h
theorem printP_inj {p q : Pid} (hp : 0 ≤ p.1 ∧ 0 ≤ p.2) (hq : 0 ≤ q.1 ∧ 0 ≤ q.2) (h : printP p = printP q) : p = q := by
  unfold printP at h
  obtain ⟨e1, e2⟩ := cutc (no_dot _) (no_dot _) (.inr ⟨_, rfl⟩) (.inr ⟨_, rfl⟩) h
  have d1 := dec_inj e1
  have d2 := dec_inj (List.cons.inj e2).2
  exact Prod.ext (by omega) (by omega)
def starP (b : Prop) [Decidable b] : Str := if b then [42] else []
theorem star_end (b : Prop) [Decidable b] : endsC 42 (starP b) := by
  unfold starP
  split
  · exact .inr ⟨[], rfl⟩
  · exact .inl rfl
def bodyP (V : View) (p : Pid) : Str := printP p ++ 47 :: (Lib.decDigits (leafIx V.ls p).toNat ++ starP (p ∈ V.ds))
theorem word_body (V : View) (p : Pid) : wordP V p = 32 :: bodyP V p := by
  unfold wordP bodyP starP; simp
theorem body_no (V : View) (p : Pid) : (32 : UInt8) ∉ bodyP V p := by
  unfold bodyP
  intro h
  rcases List.mem_append.1 h with h | h
  · exact printP_no (by decide) (by decide) _ h
  · rcases List.mem_cons.1 h with h | h
    · exact absurd h (by decide)
    · rcases List.mem_append.1 h with h | h
      · exact dec_no (by decide) _ h
      · unfold starP at h
        split at h
        · simp at h
        · simp at h
theorem words_end (V : View) : ∀ l : List Pid, endsC 32 (wordsP V l)
  | [] => .inl rfl
  | p :: r => .inr ⟨_, by unfold wordsP; rw [word_body]; rfl⟩
theorem body_inj {A B : View} {p q : Pid} (hp : 0 ≤ p.1 ∧ 0 ≤ p.2) (hq : 0 ≤ q.1 ∧ 0 ≤ q.2) (h : bodyP A p = bodyP B q) : p = q ∧ (leafIx A.ls p).toNat = (leafIx B.ls q).toNat ∧ (p ∈ A.ds ↔ q ∈ B.ds) := by
  unfold bodyP at h
  obtain ⟨e1, e2⟩ := cutc (printP_no (by decide) (by decide) _) (printP_no (by decide) (by decide) _) (.inr ⟨_, rfl⟩) (.inr ⟨_, rfl⟩) h
  obtain ⟨e3, e4⟩ := cutc (dec_no (by decide) _) (dec_no (by decide) _) (star_end _) (star_end _) (List.cons.inj e2).2
  refine ⟨printP_inj hp hq e1, dec_inj e3, ?_⟩
  unfold starP at e4
  by_cases h1 : p ∈ A.ds <;> by_cases h2 : q ∈ B.ds <;> simp [h1, h2] at e4 ⊢
theorem words_inj {A B : View} : ∀ {l m : List Pid}, WfPids l → WfPids m → wordsP A l = wordsP B m → l = m ∧ ∀ p ∈ l, (leafIx A.ls p).toNat = (leafIx B.ls p).toNat ∧ (p ∈ A.ds ↔ p ∈ B.ds)
  | [], [], _, _, _ => ⟨rfl, fun _ h => by cases h⟩
  | [], q :: m, _, _, h => by unfold wordsP at h; rw [word_body] at h; cases h
  | p :: l, [], _, _, h => by unfold wordsP at h; rw [word_body] at h; cases h
  | p :: l, q :: m, hl, hm, h => by
    unfold wordsP at h
    rw [word_body, word_body, List.cons_append, List.cons_append] at h
    obtain ⟨e1, e2⟩ := cutc (body_no A p) (body_no B q) (words_end A l) (words_end B m) (List.cons.inj h).2
    have hp := hl p (List.mem_cons_self ..)
    have hq := hm q (List.mem_cons_self ..)
    obtain ⟨rfl, e3, e4⟩ := body_inj ⟨hp.1, hp.2.2.1⟩ ⟨hq.1, hq.2.2.1⟩ e1
    obtain ⟨rfl, e5⟩ := words_inj (fun x hx => hl x (List.mem_cons_of_mem _ hx)) (fun x hx => hm x (List.mem_cons_of_mem _ hx)) e2
    refine ⟨rfl, fun x hx => ?_⟩
    rcases List.mem_cons.1 hx with rfl | hx
    · exact ⟨e3, e4⟩
    · exact e5 x hx
theorem pw_unique {f : Pid → Int} : ∀ {xs ys : List Pid}, xs.Pairwise (fun p q => f p < f q) → ys.Pairwise (fun p q => f p < f q) → (∀ p, p ∈ xs ↔ p ∈ ys) → xs = ys
  | [], [], _, _, _ => rfl
  | [], y :: ys, _, _, h => absurd ((h y).2 (List.mem_cons_self ..)) (by simp)
  | x :: xs, [], _, _, h => absurd ((h x).1 (List.mem_cons_self ..)) (by simp)
  | x :: xs, y :: ys, hx, hy, h => by
    obtain ⟨hx1, hx2⟩ := List.pairwise_cons.1 hx
    obtain ⟨hy1, hy2⟩ := List.pairwise_cons.1 hy
    have e : x = y := by
      rcases List.mem_cons.1 ((h x).1 (List.mem_cons_self ..)) with e | m1
      · exact e
      · rcases List.mem_cons.1 ((h y).2 (List.mem_cons_self ..)) with e | m2
        · exact e.symm
        · have := hy1 x m1
          have := hx1 y m2
          omega
    subst e
    have ht : ∀ p, p ∈ xs ↔ p ∈ ys := fun p => by
      constructor
      · intro hp
        rcases List.mem_cons.1 ((h p).1 (List.mem_cons_of_mem _ hp)) with e | m
        · subst e; have := hx1 p hp; omega
        · exact m
      · intro hp
        rcases List.mem_cons.1 ((h p).2 (List.mem_cons_of_mem _ hp)) with e | m
        · subst e; have := hy1 p hp; omega
        · exact m
    rw [pw_unique hx2 hy2 ht]
theorem risR_pw {ms : List Pid} : ∀ {xs : List Pid} {pr : Option Pid}, risRFrom ms pr xs = true → xs.Pairwise (fun p q => atIx ms p < atIx ms q)
  | [], _, _ => List.Pairwise.nil
  | p :: r, pr, h => by
    unfold risRFrom at h
    split at h
    · cases h
    · split at h
      · cases h
      · exact List.pairwise_cons.2 ⟨risR_gt h, risR_pw h⟩
end Go.Proofs.YtppapeoainafbaaDoor

namespace Go.Proofs.YtppapeoainafbaaDoor
open Go.RowKit
theorem leafFrom_low {p : Pid} : ∀ {ls : List (List Pid)} {j : Nat}, p ∈ ls.flatten → (j : Int) ≤ leafFrom p ls j
  | [], j, h => by simp at h
  | l :: r, j, h => by
    unfold leafFrom
    by_cases hp : p ∈ l
    · rw [if_pos hp]; exact Int.le_refl _
    · rw [if_neg hp]
      have := leafFrom_low (ls := r) (j := j + 1) (by simpa [hp] using h)
      omega
theorem leaves_eq {f : Pid → Int} : ∀ {ls ms : List (List Pid)} {j : Nat}, ls.flatten.Nodup → ms.flatten.Nodup → (∀ l ∈ ls, l ≠ [] ∧ l.Pairwise (fun p q => f p < f q)) → (∀ l ∈ ms, l ≠ [] ∧ l.Pairwise (fun p q => f p < f q)) →
    (∀ p, p ∈ ls.flatten ↔ p ∈ ms.flatten) → (∀ p ∈ ls.flatten, leafFrom p ls j = leafFrom p ms j) → ls = ms
  | [], [], _, _, _, _, _, _, _ => rfl
  | [], m :: ms, _, _, _, _, h2, h, _ => by
    obtain ⟨x, r, e⟩ := List.exists_cons_of_ne_nil (h2 m (List.mem_cons_self ..)).1
    have := (h x).2 (by rw [List.flatten_cons, e]; simp)
    simp at this
  | l :: ls, [], _, _, _, h1, _, h, _ => by
    obtain ⟨x, r, e⟩ := List.exists_cons_of_ne_nil (h1 l (List.mem_cons_self ..)).1
    have := (h x).1 (by rw [List.flatten_cons, e]; simp)
    simp at this
  | l :: ls, m :: ms, j, n1, n2, h1, h2, h, hl => by
    rw [List.flatten_cons] at n1 n2
    obtain ⟨a1, a2, a3⟩ := List.nodup_append.1 n1
    obtain ⟨b1, b2, b3⟩ := List.nodup_append.1 n2
    have key : ∀ (l : List Pid) (ls : List (List Pid)) (p : Pid), p ∈ (l :: ls).flatten → (p ∈ l ↔ leafFrom p (l :: ls) j = (j : Int)) := fun l ls p hp => by
      unfold leafFrom
      by_cases hpl : p ∈ l
      · rw [if_pos hpl]; simp [hpl]
      · rw [if_neg hpl]
        have := leafFrom_low (ls := ls) (j := j + 1) (by simpa [hpl] using hp)
        constructor
        · intro h; exact absurd h hpl
        · intro h; omega
    have e : l = m := by
      refine pw_unique (h1 l (List.mem_cons_self ..)).2 (h2 m (List.mem_cons_self ..)).2 fun p => ?_
      constructor
      · intro hp
        have hf : p ∈ (l :: ls).flatten := by rw [List.flatten_cons]; exact List.mem_append_left _ hp
        have := (key l ls p hf).1 hp
        rw [hl p hf] at this
        exact (key m ms p ((h p).1 hf)).2 this
      · intro hp
        have hf : p ∈ (m :: ms).flatten := by rw [List.flatten_cons]; exact List.mem_append_left _ hp
        have := (key m ms p hf).1 hp
        rw [← hl p ((h p).2 hf)] at this
        exact (key l ls p ((h p).2 hf)).2 this
    subst e
    have hne : ∀ {p : Pid} {xs : List (List Pid)}, (∀ x ∈ l, ∀ y ∈ xs.flatten, x ≠ y) → p ∈ xs.flatten → p ∉ l := fun hd hp hpl => hd _ hpl _ hp rfl
    have h' : ∀ p, p ∈ ls.flatten ↔ p ∈ ms.flatten := fun p => by
      have := h p
      rw [List.flatten_cons, List.flatten_cons, List.mem_append, List.mem_append] at this
      constructor
      · intro hp
        rcases this.1 (.inr hp) with q | q
        · exact absurd q (hne a3 hp)
        · exact q
      · intro hp
        rcases this.2 (.inr hp) with q | q
        · exact absurd q (hne b3 hp)
        · exact q
    rw [leaves_eq (j := j + 1) a2 b2 (fun x hx => h1 x (List.mem_cons_of_mem _ hx)) (fun x hx => h2 x (List.mem_cons_of_mem _ hx)) h' fun p hp => ?_]
    have hpl := hne a3 hp
    have := hl p (by rw [List.flatten_cons]; exact List.mem_append_right _ hp)
    unfold leafFrom at this
    rw [if_neg hpl, if_neg hpl] at this
    exact this
/-- what a checked view is -/
theorem check_parts {V : View} (h : checkB V = true) : 0 ≤ V.id ∧ V.ls.flatten.Nodup ∧ (∀ l ∈ V.ls, l ≠ [] ∧ l.Pairwise (fun p q => atIx V.ms p < atIx V.ms q)) ∧ (∀ p, p ∈ V.ls.flatten ↔ p ∈ V.ms) ∧ V.ds.Pairwise (fun p q => atIx V.ms p < atIx V.ms q) ∧ ∀ p ∈ V.ds, p ∈ V.ms := by
  unfold checkB at h
  simp only [Bool.and_eq_true, decide_eq_true_eq, chkFrom_iff, chkEnd, ris_same, List.nil_append, Nat.zero_add] at h
  obtain ⟨a, b, c, d, e, f, g, h, i⟩ := h
  have hl := lens_flatten V.ls
  unfold membersB at c
  rw [memFrom_iff] at c
  have hnd := nodup_of_ids c.2.2.1
  have hfm : ∀ x ∈ V.ls.flatten, x ∈ V.ms := fun x hx => by
    obtain ⟨l, hl1, hl2⟩ := List.mem_flatten.1 hx
    exact risR_mem (d l hl1).2 x hl2
  have hfn : V.ls.flatten.Nodup := unionL_nodup.1 (by omega)
  have hc := (count_iff hnd hfm).2 ⟨by omega, hfn⟩
  exact ⟨by omega, hfn, fun l hl => ⟨(d l hl).1, risR_pw (d l hl).2⟩, fun p => ⟨hfm p, fun hp => List.count_pos_iff.1 (by rw [hc p hp]; omega)⟩, risR_pw i, risR_mem i⟩
theorem viewP_inj {A B : View} (hA : checkB A = true) (hB : checkB B = true) (wA : WfPids A.ms) (wB : WfPids B.ms) (h : viewP A = viewP B) : A = B := by
  obtain ⟨a0, a1, a2, a3, a4, a5⟩ := check_parts hA
  obtain ⟨b0, b1, b2, b3, b4, b5⟩ := check_parts hB
  unfold viewP at h
  obtain ⟨e1, e2⟩ := cutc (dec_no (by decide) _) (dec_no (by decide) _) (words_end A A.ms) (words_end B B.ms) h
  have d1 := dec_inj e1
  obtain ⟨e3, e4⟩ := words_inj wA wB e2
  have e5 : A.ds = B.ds := by
    rw [← e3] at b4
    refine pw_unique a4 b4 fun p => ⟨fun hp => ?_, fun hp => ?_⟩
    · exact (e4 p (a5 p hp)).2.1 hp
    · exact (e4 p (by rw [e3]; exact b5 p hp)).2.2 hp
  have e6 : A.ls = B.ls := by
    rw [← e3] at b2
    refine leaves_eq (j := 0) a1 b1 a2 b2 (fun p => by rw [a3, b3, e3]) fun p hp => ?_
    have hp' := (a3 p).1 hp
    have k1 := leafFrom_low (j := 0) hp
    have k2 := leafFrom_low (j := 0) (show p ∈ B.ls.flatten by rw [b3, ← e3]; exact hp')
    have := (e4 p hp').1
    unfold leafIx at this
    omega
  obtain ⟨i1, m1, l1, s1⟩ := A
  obtain ⟨i2, m2, l2, s2⟩ := B
  simp only at *
  subst e3 e5 e6
  have : i1 = i2 := by omega
  rw [this]
end Go.Proofs.YtppapeoainafbaaDoor

namespace Go.Proofs.YtppapeoainafbaaDoor
open Go.RowKit
/-! ### texts of commands, in plain words -/
def sendP (c : CmdD) : Str := [115, 101, 110, 100, 32] ++ printP c.fr ++ [32] ++ Lib.decDigits c.num ++ [32] ++ Lib.decDigits c.vw ++ [32, 120] ++ hexP c.data
def textP (c : CmdD) : Str :=
  if cmdChk c ≠ 0 then [63] else if c.kind = 2 then sendP c else if c.kind = 3 then [118, 105, 101, 119, 32] ++ viewP c.v else [110, 111, 112]
theorem send_inj {a b : CmdD} (fa : okP a.fr) (fb : okP b.fr) (da : ∀ x ∈ a.data, x < 256) (db : ∀ x ∈ b.data, x < 256) (h : sendP a = sendP b) : a.fr = b.fr ∧ a.num = b.num ∧ a.vw = b.vw ∧ a.data = b.data := by
  have e : ∀ c : CmdD, sendP c = [115, 101, 110, 100, 32] ++ (printP c.fr ++ 32 :: (Lib.decDigits c.num ++ 32 :: (Lib.decDigits c.vw ++ 32 :: 120 :: hexP c.data))) := fun c => by unfold sendP; simp
  rw [e, e] at h
  have h := List.append_cancel_left h
  obtain ⟨e1, h⟩ := cutc (printP_no (by decide) (by decide) _) (printP_no (by decide) (by decide) _) (.inr ⟨_, rfl⟩) (.inr ⟨_, rfl⟩) h
  obtain ⟨e2, h⟩ := cutc (dec_no (by decide) _) (dec_no (by decide) _) (.inr ⟨_, rfl⟩) (.inr ⟨_, rfl⟩) (List.cons.inj h).2
  obtain ⟨e3, h⟩ := cutc (dec_no (by decide) _) (dec_no (by decide) _) (.inr ⟨_, rfl⟩) (.inr ⟨_, rfl⟩) (List.cons.inj h).2
  have h4 := (List.cons.inj (List.cons.inj h).2).2
  unfold okP at fa fb
  exact ⟨printP_inj (by omega) (by omega) e1, dec_inj e2, dec_inj e3, hexP_inj _ _ da db h4⟩
theorem chk_1 {c : CmdD} (h : cmdChk c = 0) (hk : c.kind = 1) : c = ⟨1, (0, 0), 0, 0, [], zeroV⟩ := by
  unfold cmdChk at h
  rw [if_pos hk] at h
  split at h
  · next hc =>
    obtain ⟨h1, h2, h3, h4, h5⟩ := hc
    obtain ⟨k, f, n, v, d, w⟩ := c
    simp only at *
    subst hk h1 h2 h3 h4 h5; rfl
  · cases h
theorem chk_2 {c : CmdD} (h : cmdChk c = 0) (hk : c.kind = 2) : c.v = zeroV := by
  unfold cmdChk at h
  rw [if_neg (by omega), if_pos hk] at h
  split at h
  · next hc => exact hc.2.2.2
  · cases h
theorem chk_3 {c : CmdD} (h : cmdChk c = 0) (hk : c.kind = 3) : c.fr = (0, 0) ∧ c.num = 0 ∧ c.vw = 0 ∧ c.data = [] ∧ refCheckB c.v = true := by
  unfold cmdChk at h
  rw [if_neg (by omega), if_neg (by omega), if_pos hk] at h
  split at h
  · next hc => exact hc
  · cases h
theorem chk_kind {c : CmdD} (h : cmdChk c = 0) : c.kind = 1 ∨ c.kind = 2 ∨ c.kind = 3 := by
  unfold cmdChk at h
  by_cases h1 : c.kind = 1
  · exact .inl h1
  · by_cases h2 : c.kind = 2
    · exact .inr (.inl h2)
    · by_cases h3 : c.kind = 3
      · exact .inr (.inr h3)
      · rw [if_neg h1, if_neg h2, if_neg h3] at h; cases h
theorem text_2 {c : CmdD} (h : cmdChk c = 0) (hk : c.kind = 2) : textP c = sendP c := by
  unfold textP; rw [if_neg (by omega), if_pos hk]
theorem text_3 {c : CmdD} (h : cmdChk c = 0) (hk : c.kind = 3) : textP c = [118, 105, 101, 119, 32] ++ viewP c.v := by
  unfold textP; rw [if_neg (by omega), if_neg (by omega), if_pos hk]
theorem text_1 {c : CmdD} (h : cmdChk c = 0) (hk : c.kind = 1) : textP c = [110, 111, 112] := by
  unfold textP; rw [if_neg (by omega), if_neg (by omega), if_neg (by omega)]
theorem text_no {c : CmdD} (h : cmdChk c ≠ 0) : textP c = [63] := by
  unfold textP; rw [if_pos h]
theorem text_inj {a b : CmdD} (fa : okP a.fr) (fb : okP b.fr) (da : ∀ x ∈ a.data, x < 256) (db : ∀ x ∈ b.data, x < 256) (wa : WfPids a.v.ms) (wb : WfPids b.v.ms) (h : textP a = textP b) (hq : textP a ≠ [63]) : a = b := by
  have ha : cmdChk a = 0 := by
    by_cases h0 : cmdChk a = 0
    · exact h0
    · exact absurd (text_no h0) hq
  have hb : cmdChk b = 0 := by
    by_cases h0 : cmdChk b = 0
    · exact h0
    · exact absurd (h.trans (text_no h0)) hq
  rcases chk_kind ha with ka | ka | ka <;> rcases chk_kind hb with kb | kb | kb
  · rw [chk_1 ha ka, chk_1 hb kb]
  · rw [text_1 ha ka, text_2 hb kb] at h; unfold sendP at h; simp at h
  · rw [text_1 ha ka, text_3 hb kb] at h; simp at h
  · rw [text_2 ha ka, text_1 hb kb] at h; unfold sendP at h; simp at h
  · rw [text_2 ha ka, text_2 hb kb] at h
    obtain ⟨e1, e2, e3, e4⟩ := send_inj fa fb da db h
    have v1 := chk_2 ha ka
    have v2 := chk_2 hb kb
    obtain ⟨k, f, n, v, d, w⟩ := a
    obtain ⟨k', f', n', v', d', w'⟩ := b
    simp only at *
    subst ka kb e1 e2 e3 e4 v1 v2; rfl
  · rw [text_2 ha ka, text_3 hb kb] at h; unfold sendP at h; simp at h
  · rw [text_3 ha ka, text_1 hb kb] at h; simp at h
  · rw [text_3 ha ka, text_2 hb kb] at h; unfold sendP at h; simp at h
  · rw [text_3 ha ka, text_3 hb kb] at h
    obtain ⟨x1, x2, x3, x4, x5⟩ := chk_3 ha ka
    obtain ⟨y1, y2, y3, y4, y5⟩ := chk_3 hb kb
    have e := viewP_inj (by rw [check_eq _ wa]; exact x5) (by rw [check_eq _ wb]; exact y5) wa wb (List.append_cancel_left h)
    obtain ⟨k, f, n, v, d, w⟩ := a
    obtain ⟨k', f', n', v', d', w'⟩ := b
    simp only at *
    subst ka kb x1 x2 x3 x4 y1 y2 y3 y4 e; rfl
theorem same_self (a : CmdD) : sameC a a = true := by unfold sameC sameB; simp
end Go.Proofs.YtppapeoainafbaaDoor

/-
  DERIVED: THE SHELF's CONTRACTS AT THIS DUMP, IN PLAIN WORDS (tools/lay-plain.mjs out of 'YtppapeoainafbaaDoorShelfBRaw.lean', which tools/lay-shelf.mjs wrote): THE SAME DECLARATIONS UNDER THE SAME NAMES: 'import', 'namespace', 'open', 'def', 'theorem' AND NOTHING ELSE: no command of the shelf's: FOR A HAND-IN. Each laying: the table of numbers ('.._ren') and one theorem, a field a fact of the dump's own or the kernel's comparison; each contract: ONE APPLICATION.
-/
namespace Go.Proofs
open Go.Shelf
def Tryd.bst_ren : Go.Shelf.Ren := ⟨fun | 169 => 51 | n => n, fun | 70 => 81 | 9 => 9 | 0 => 0 | 72 => 83 | 37 => 35 | 127 => 118 | 3 => 3 | 5 => 5 | n => n, fun | n => n⟩
theorem Tryd.bst : Go.Proofs.Lays.n169 Tryd.prog Tryd.bst_ren := {
  mixed := by kernel_rfl
  f169 := Tryd.func51.trans (congrArg some (by kernel_rfl))
  t0 := Tryd.underlying0
  a0 := Tryd.isAgg0
  z0 := Tryd.sizeOf0
  v0 := Tryd.zeroValue0
  t3 := Tryd.underlying3
  a3 := Tryd.isAgg3
  z3 := Tryd.sizeOf3
  v3 := Tryd.zeroValue3
  t9 := Tryd.underlying9
  a9 := Tryd.isAgg9
  z9 := Tryd.sizeOf9
  v9 := Tryd.zeroValue9
  t37 := Tryd.underlying35
  a37 := Tryd.isAgg35
  z37 := Tryd.sizeOf35
  v37 := Tryd.zeroValue35
  t70 := Tryd.underlying81
  a70 := Tryd.isAgg81
  z70 := Tryd.sizeOf81
  v70 := Tryd.zeroValue81
  t72 := Tryd.underlying83
  a72 := Tryd.isAgg83
  z72 := Tryd.sizeOf83
  v72 := Tryd.zeroValue83
  t127 := Tryd.underlying118
  a127 := Tryd.isAgg118
  z127 := Tryd.sizeOf118
  v127 := Tryd.zeroValue118 }
def Tryd.itoa_ren : Go.Shelf.Ren := ⟨fun | 171 => 47 | 243 => 82 | 246 => 104 | 283 => 58 | 284 => 59 | 285 => 60 | 286 => 61 | 129 => 88 | 317 => 87 | 318 => 89 | 319 => 90 | 320 => 91 | 337 => 106 | 338 => 107 | n => n, fun | 3 => 3 | 9 => 9 | 2 => 2 | 4 => 4 | 171 => 93 | 0 => 0 | 53 => 34 | 37 => 35 | 5 => 5 | 173 => 96 | 212 => 121 | 51 => 23 | 20 => 20 | 213 => 122 | 46 => 71 | 232 => 150 | 233 => 151 | n => n, fun | 17 => 0 | 18 => 4 | 19 => 5 | n => n⟩
theorem Tryd.itoa : Go.Proofs.Lays.n171 Tryd.prog Tryd.itoa_ren := {
  mixed := by kernel_rfl
  f129 := Tryd.func88.trans (congrArg some (by kernel_rfl))
  f171 := Tryd.func47.trans (congrArg some (by kernel_rfl))
  f243 := Tryd.func82.trans (congrArg some (by kernel_rfl))
  f246 := Tryd.func104.trans (congrArg some (by kernel_rfl))
  f283 := Tryd.func58.trans (congrArg some (by kernel_rfl))
  f284 := Tryd.func59.trans (congrArg some (by kernel_rfl))
  f285 := Tryd.func60.trans (congrArg some (by kernel_rfl))
  f286 := Tryd.func61.trans (congrArg some (by kernel_rfl))
  f317 := Tryd.func87.trans (congrArg some (by kernel_rfl))
  f318 := Tryd.func89.trans (congrArg some (by kernel_rfl))
  f319 := Tryd.func90.trans (congrArg some (by kernel_rfl))
  f320 := Tryd.func91.trans (congrArg some (by kernel_rfl))
  f337 := Tryd.func106.trans (congrArg some (by kernel_rfl))
  f338 := Tryd.func107.trans (congrArg some (by kernel_rfl))
  t0 := Tryd.underlying0
  a0 := Tryd.isAgg0
  z0 := Tryd.sizeOf0
  v0 := Tryd.zeroValue0
  t2 := Tryd.underlying2
  a2 := Tryd.isAgg2
  z2 := Tryd.sizeOf2
  v2 := Tryd.zeroValue2
  t3 := Tryd.underlying3
  a3 := Tryd.isAgg3
  z3 := Tryd.sizeOf3
  v3 := Tryd.zeroValue3
  t4 := Tryd.underlying4
  a4 := Tryd.isAgg4
  z4 := Tryd.sizeOf4
  v4 := Tryd.zeroValue4
  t5 := Tryd.underlying5
  a5 := Tryd.isAgg5
  z5 := Tryd.sizeOf5
  v5 := Tryd.zeroValue5
  t9 := Tryd.underlying9
  a9 := Tryd.isAgg9
  z9 := Tryd.sizeOf9
  v9 := Tryd.zeroValue9
  t20 := Tryd.underlying20
  a20 := Tryd.isAgg20
  z20 := Tryd.sizeOf20
  v20 := Tryd.zeroValue20
  t37 := Tryd.underlying35
  a37 := Tryd.isAgg35
  z37 := Tryd.sizeOf35
  v37 := Tryd.zeroValue35
  t46 := Tryd.underlying71
  a46 := Tryd.isAgg71
  z46 := Tryd.sizeOf71
  v46 := Tryd.zeroValue71
  t51 := Tryd.underlying23
  a51 := Tryd.isAgg23
  z51 := Tryd.sizeOf23
  v51 := Tryd.zeroValue23
  t53 := Tryd.underlying34
  a53 := Tryd.isAgg34
  z53 := Tryd.sizeOf34
  v53 := Tryd.zeroValue34
  t171 := Tryd.underlying93
  a171 := Tryd.isAgg93
  z171 := Tryd.sizeOf93
  v171 := Tryd.zeroValue93
  t173 := Tryd.underlying96
  a173 := Tryd.isAgg96
  z173 := Tryd.sizeOf96
  v173 := Tryd.zeroValue96
  t212 := Tryd.underlying121
  a212 := Tryd.isAgg121
  z212 := Tryd.sizeOf121
  v212 := Tryd.zeroValue121
  t213 := Tryd.underlying122
  a213 := Tryd.isAgg122
  z213 := Tryd.sizeOf122
  t232 := Tryd.underlying150
  a232 := Tryd.isAgg150
  z232 := Tryd.sizeOf150
  v232 := Tryd.zeroValue150
  t233 := Tryd.underlying151
  a233 := Tryd.isAgg151
  z233 := Tryd.sizeOf151
  v233 := Tryd.zeroValue151
  g17 := by kernel_rfl
  g18 := by kernel_rfl
  g19 := by kernel_rfl }
end Go.Proofs

namespace Go.Proofs.YtppapeoainafbaaDoor
open Go.RowKit
/-! ### strings.Builder -/
/-- the builder at block b holds the text s; its own rows lie from B on -/
abbrev BldU (B b : Nat) (s : Str) (w : World) : Prop := Lib.BuilderAt 83 5 B b (.pointer (some ⟨b, 0, none⟩)) (Lib.byteCells s) w
abbrev Bld (B b : Nat) (s : Str) (w : World) : Prop := Lib.IsBuilder 83 5 B b (Lib.byteCells s) w
theorem bldSize : (Tryd.prog.info? 83).map (·.size) = some 2 := by kernel_rfl
theorem bldLies : liesAt Tryd.prog Tryd.prog.depth 83 (2 / Tryd.prog.cellsOf 83) 0 83 1 = true := by kernel_rfl
theorem bldNe : (83 : Nat) ≠ 5 := by decide
set_option maxHeartbeats 1600000 in
set_option maxRecDepth 100000 in
theorem bcheck_used (b : Nat) (w : World) (h0 : w.cell? ⟨b, 0, none⟩ = some (.pointer (some ⟨b, 0, none⟩))) :
    Calls Tryd.prog 81 #[.pointer (some ⟨b, 0, none⟩)] w fun e w' => e = .returned (.tuple #[]) ∧ w' = w := by
  obtain ⟨j, hj, _⟩ := Option.map_eq_some_iff.1 bldSize
  go_enter Tryd.func81, Tryd.ntmps81
  go_wp2
  rw [Lib.run_neq_ptr_same w _ Tryd.underlying81 hj]
  go_wp2
  go_end0
  exact ⟨rfl, rfl⟩
set_option maxHeartbeats 1600000 in
set_option maxRecDepth 100000 in
theorem bcheck_fresh (b : Nat) (w : World) (h0 : w.cell? ⟨b, 0, none⟩ = some (.pointer none)) (hsh : w.shape? b = some (83, 2)) (hfz : w.frozen? ⟨b, 0, none⟩ = false) :
    Calls Tryd.prog 81 #[.pointer (some ⟨b, 0, none⟩)] w fun e w' => e = .returned (.tuple #[]) ∧ w' = w.setCell ⟨b, 0, none⟩ (.pointer (some ⟨b, 0, none⟩)) := by
  obtain ⟨j, hj, hjs⟩ := Option.map_eq_some_iff.1 bldSize
  go_enter Tryd.func81, Tryd.ntmps81
  go_wp2
  rw [Lib.run_to_unsafe w ⟨b, 0, none⟩ Tryd.underlying81 Tryd.underlying141 hj (by rw [hjs]; decide) hsh (Nat.zero_lt_succ 1)]
  simp only [Result.andThen]
  rw [Oper.upon_value]
  go_wp2
  rw [run_callFunc_extern Tryd.func103 (by kernel_rfl) (by kernel_rfl) (by kernel_rfl) (e := Extern.AbiNoEscape.same) (by kernel_rfl)]
  rw [Lib.run_noEscape]
  simp only [Result.andThen]
  rw [Oper.upon_value]
  go_wp2
  rw [Lib.run_from_unsafe w ⟨b, 0, none⟩ Tryd.underlying141 Tryd.underlying81 hj hsh bldLies]
  simp only [Result.andThen]
  rw [Oper.upon_value]
  go_wp2
  go_end0
  exact ⟨rfl, rfl⟩
theorem bcheck_any (B b : Nat) (s : Str) (w : World) (h : Bld B b s w) :
    Calls Tryd.prog 81 #[.pointer (some ⟨b, 0, none⟩)] w fun e w' => e = .returned (.tuple #[]) ∧ BldU B b s w' ∧ Below B w w' ∧ Lib.OthersKept 5 (some b) w w' := by
  rcases h with h | h
  · refine (bcheck_fresh b w h.cell0 h.shape h.frozen0).mono ?_
    rintro e w' ⟨rfl, rfl⟩
    exact ⟨rfl, h.used _, (Below.refl B w).setCell (p := ⟨b, 0, none⟩) h.1 _, (Lib.OthersKept.refl _ _ w).setCell ⟨b, 0, none⟩ rfl _⟩
  · refine (bcheck_used b w h.cell0).mono ?_
    rintro e w' ⟨rfl, rfl⟩
    exact ⟨rfl, h, Below.refl B _, Lib.OthersKept.refl _ _ _⟩
set_option maxHeartbeats 2000000 in
set_option maxRecDepth 100000 in
theorem bws_any (B b : Nat) (s t : Str) (w : World) (h : Bld B b s w) (hlen : s.length + t.length ≤ 100000000) (hBw : B ≤ w.heap.size) :
    Calls Tryd.prog 46 #[.pointer (some ⟨b, 0, none⟩), .string ⟨t.toArray⟩] w fun e w' => e = .returned (.tuple #[.int .i64 t.length, .nilIface]) ∧ BldU B b (s ++ t) w' ∧ Below B w w' ∧ Lib.OthersKept 5 (some b) w w' := by
  obtain ⟨i0, hi, hz0, hz1, hz2⟩ := info_parts infoB
  have hz : (⟨t.toArray⟩ : ByteArray).size = t.length := by show t.toArray.size = _; simp
  have CC := bcheck_any B b s w h
  go_enter Tryd.func46, Tryd.ntmps46
  go_wp2_with (go_at_call 81; refine CC.mono ?_)
  rintro e w1 ⟨rfl, h1, hb1, hk1⟩
  obtain ⟨hB, v, hbk, hown, hne⟩ := h1
  rw [Lib.byteCells_length] at hown
  have c0 : w1.cell? ⟨b, 0, none⟩ = some (.pointer (some ⟨b, 0, none⟩)) := by rw [Lib.cell_of_heap hbk]; rfl
  have c1 : w1.cell? ⟨b, 1, none⟩ = some v := by rw [Lib.cell_of_heap hbk]; rfl
  go_wp2_with (at_builtin; refine Lib.wpList_append_own_string _ rfl _ _ 35 9 rfl B 5 i0 Tryd.underlying35 Tryd.underlying9 hi hz0 hz1 hz2 _ _ _ rfl hown ⟨t.toArray⟩ rfl ?c3 ?c4 ?c5 ?_)
  case c3 => unfold maxLen; rw [hz]; omega
  case c4 => rw [hz]; omega
  case c5 => have := hb1.size; omega
  intro v' w2 hown' hgrow _
  have hlt : b < w1.heap.size := by
    rcases Nat.lt_or_ge b w1.heap.size with h' | h'
    · exact h'
    · simp [Array.getElem?_eq_none h'] at hbk
  have hb2 : w2.heap[b]? = some (.cells #[.pointer (some ⟨b, 0, none⟩), v] 83 (0, 0)) := by
    rw [hgrow.block b hlt (fun e => hne e.symm)]
    exact hbk
  have d0 : w2.cell? ⟨b, 0, none⟩ = some (.pointer (some ⟨b, 0, none⟩)) := by rw [Lib.cell_of_heap hb2]; rfl
  have d1 : w2.cell? ⟨b, 1, none⟩ = some v := by rw [Lib.cell_of_heap hb2]; rfl
  have f1 : w2.frozen? ⟨b, 1, none⟩ = false := Lib.frozen_of_heap hb2 1
  obtain ⟨ao, n', cap, rfl⟩ : ∃ ao n' cap, v' = .slice ao n' cap := by
    rcases hown'.2 with ⟨hv, _⟩ | ⟨g, cap, cur, hv, _⟩
    · exact ⟨_, _, _, hv⟩
    · exact ⟨_, _, _, hv⟩
  go_wp2
  refine bodyPost_ret (v := .tuple #[.int .i64 t.length, .nilIface]) (by simp [results, Tryd.results46, go_sem]) rfl ⟨rfl, ?_, ?_, ?_⟩
  · refine Lib.BuilderAt.put (T := 83) (e := 5) hB hb2 (bs' := Lib.byteCells (s ++ t)) ?_ bldNe
    rw [Lib.byteCells_length, List.length_append, Lib.byteCells_append, ← Lib.strCells_toArray t, ← hz]
    exact hown'
  · exact (hb1.grown hgrow (by have := hb1.size; omega) (fun k hk => (hown.lt k hk).1)).setCell (p := ⟨b, 1, none⟩) hB _
  · exact (hk1.grown hgrow (Lib.ownsRowF_kind (World.ownsRowF_of hown))).setCell ⟨b, 1, none⟩ rfl _
set_option maxHeartbeats 2000000 in
set_option maxRecDepth 100000 in
theorem bwb_any (B b : Nat) (s : Str) (c : UInt8) (w : World) (h : Bld B b s w) (hlen : s.length + 1 ≤ 100000000) (hBw : B ≤ w.heap.size) :
    Calls Tryd.prog 50 #[.pointer (some ⟨b, 0, none⟩), .int .u8 (c.toNat : Int)] w fun e w' => e = .returned .nilIface ∧ BldU B b (s ++ [c]) w' ∧ Below B w w' ∧ Lib.OthersKept 5 (some b) w w' := by
  obtain ⟨i0, hi, hz0, hz1, hz2⟩ := info_parts infoB
  have CC := bcheck_any B b s w h
  go_enter Tryd.func50, Tryd.ntmps50
  go_wp2_with (go_at_call 81; refine CC.mono ?_)
  rintro e w1 ⟨rfl, h1, hb1, hk1⟩
  obtain ⟨hB, v, hbk, hown, hne⟩ := h1
  rw [Lib.byteCells_length] at hown
  have c0 : w1.cell? ⟨b, 0, none⟩ = some (.pointer (some ⟨b, 0, none⟩)) := by rw [Lib.cell_of_heap hbk]; rfl
  have c1 : w1.cell? ⟨b, 1, none⟩ = some v := by rw [Lib.cell_of_heap hbk]; rfl
  go_wp2_with (at_builtin; refine wpList_append_own _ rfl _ _ 35 rfl B 5 i0 (.int .u8 0) 1 1 Tryd.underlying35 hi hz0 hz1 hz2 rfl (by decide) _ _ _ rfl (hown.alloc _) ⟨w1.heap.size, 0, none⟩ 1 1 [.int .u8 (c.toNat : Int)] rfl rfl ?c1 ?c2 ?c3 ?c4 ?c5 ?_)
  case c1 =>
    intro j u hj
    match j, hj with
    | 0, hj => simp at hj; subst hj; simp [Addr.add]
  case c2 => intro u hu; simp at hu; subst hu; rfl
  case c3 => unfold maxLen; omega
  case c4 => omega
  case c5 => have := hb1.size; simp; omega
  intro v' w2 hown' hgrow _
  have hlt : b < w1.heap.size := by
    rcases Nat.lt_or_ge b w1.heap.size with h' | h'
    · exact h'
    · simp [Array.getElem?_eq_none h'] at hbk
  have hb2 : w2.heap[b]? = some (.cells #[.pointer (some ⟨b, 0, none⟩), v] 83 (0, 0)) := by
    rw [hgrow.block b (by simp; omega) (fun e => hne e.symm), Lib.alloc_old w1 _ b hlt]
    exact hbk
  have d0 : w2.cell? ⟨b, 0, none⟩ = some (.pointer (some ⟨b, 0, none⟩)) := by rw [Lib.cell_of_heap hb2]; rfl
  have d1 : w2.cell? ⟨b, 1, none⟩ = some v := by rw [Lib.cell_of_heap hb2]; rfl
  have f1 : w2.frozen? ⟨b, 1, none⟩ = false := Lib.frozen_of_heap hb2 1
  obtain ⟨g, cap, rfl⟩ : ∃ g cap, v' = .slice (some ⟨g, 0, none⟩) (s.length + 1) cap := by
    rcases hown'.2 with ⟨_, h0⟩ | ⟨g, cap, cur, hv, _⟩
    · omega
    · exact ⟨g, cap, hv⟩
  go_wp2
  refine bodyPost_ret (v := .nilIface) (by simp [results, Tryd.results50, go_sem]) rfl ⟨rfl, ?_, ?_, ?_⟩
  · refine Lib.BuilderAt.put (T := 83) (e := 5) hB hb2 (bs' := Lib.byteCells (s ++ [c])) ?_ bldNe
    rw [Lib.byteCells_length, List.length_append, Lib.byteCells_append]
    exact hown'
  · exact ((hb1.alloc (by have := hb1.size; omega) _).grown hgrow (by have := hb1.size; simp; omega) (fun k hk => (hown.lt k hk).1)).setCell (p := ⟨b, 1, none⟩) hB _
  · exact ((hk1.alloc _).grown hgrow (Lib.ownsRowF_kind (World.ownsRowF_of (hown.alloc _)))).setCell ⟨b, 1, none⟩ rfl _
theorem bst_extra : Builder.Extra Tryd.prog Tryd.bst_ren where
  sizeBuilder := by kernel_rfl
  liesBuilder := by kernel_rfl
  t5 := Tryd.underlying5
  a5 := Tryd.isAgg5
  z5 := Tryd.sizeOf5
  v5 := Tryd.zeroValue5
  infoByte := by kernel_rfl
  cellsByte := by kernel_rfl
  sizeByte := by kernel_rfl
  neB5 := by decide
theorem bst_any (B b : Nat) (s : Str) (w : World) (h : Bld B b s w) (hBw : B ≤ w.heap.size) :
    Calls Tryd.prog 51 #[.pointer (some ⟨b, 0, none⟩)] w fun e w' => e = .returned (.string ⟨s.toArray⟩) ∧ Below B w w' :=
  Any.Builder_String_any Tryd.bst bst_extra B b s w h hBw
end Go.Proofs.YtppapeoainafbaaDoor

