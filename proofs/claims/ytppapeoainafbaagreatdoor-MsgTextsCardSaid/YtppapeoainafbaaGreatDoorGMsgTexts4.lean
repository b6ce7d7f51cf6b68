/- Parts of the proof: XO. -/
import Derived.Deep.Slices
import Derived.Lib.SmallJoins
import Derived.SizedLaws
import Derived.ProofKit
import Derived.OpenShut
import Derived.Test.YtppapeoainafbaaGreatDoorX22
namespace Go.Proofs.YtppapeoainafbaaGreatDoor
open Go.RowKit Go.Deep Go.Joins Go.ChangeShapes

/-! ### from the row's reading to processes, views, bytes, commands -/
/-- every slice and string in a datum is within the form's reach -/
def Sz {H : Type} (t : TypeId) (d : DataW H) : Prop := ∀ n ∈ d.weights Tryz.prog t, n ≤ reachBytes
theorem Sz.arg {H : Type} {ts : List TypeId} {ds : List (DataW H)} (h : (DataW.weightsEach Tryz.prog ts ds).all (· ≤ reachBytes) = true) {j : Nat} {t : TypeId} {d : DataW H} (ht : ts[j]? = some t) (hd : ds[j]? = some d) : Sz t d := by
  intro n hn
  have := List.all_eq_true.1 h _ (DataW.weights_mem_each ht hd n hn)
  simpa using this
theorem mem_weightsAll {H : Type} {e : TypeId} {d : DataW H} : ∀ {l : List (DataW H)}, d ∈ l → ∀ n ∈ d.weights Tryz.prog e, n ∈ DataW.weightsAll Tryz.prog e l
  | x :: l, h, n, hn => by
    simp only [DataW.weightsAll, List.mem_append]
    rcases List.mem_cons.1 h with rfl | h
    · exact .inl hn
    · exact .inr (mem_weightsAll h n hn)
theorem Sz.slice {H : Type} {t e : TypeId} {elems spare : List (DataW H)} (h : Sz t (.slice elems spare)) (ht : Tryz.prog.underlying t = some (.slice e)) :
    (elems.length + spare.length) * Tryz.prog.bytesOf e ≤ reachBytes ∧ (∀ d ∈ elems, Sz e d) := by
  have hw : ∀ n, n ∈ (DataW.slice elems spare).weights Tryz.prog t ↔ n = (elems.length + spare.length) * Tryz.prog.bytesOf e ∨ n ∈ DataW.weightsAll Tryz.prog e elems ∨ n ∈ DataW.weightsAll Tryz.prog e spare := by
    intro n; simp [DataW.weights, ht]
  exact ⟨h _ ((hw _).2 (.inl rfl)), fun d hd n hn => h n ((hw _).2 (.inr (.inl (mem_weightsAll hd n hn))))⟩
theorem bytesPid : Tryz.prog.bytesOf 25 = 8 := by kernel_rfl
theorem bytesPids : Tryz.prog.bytesOf 30 = 24 := by kernel_rfl
theorem cellsPid : Tryz.prog.cellsOf 25 = 2 := by kernel_rfl
theorem cellsU16 : Tryz.prog.cellsOf 22 = 1 := by kernel_rfl
theorem cellsU32 : Tryz.prog.cellsOf 23 = 1 := by kernel_rfl
theorem cellsU64 : Tryz.prog.cellsOf 26 = 1 := by kernel_rfl
theorem cellsU8 : Tryz.prog.cellsOf 5 = 1 := by kernel_rfl
theorem cellsPids : Tryz.prog.cellsOf 30 = 1 := by kernel_rfl
theorem cellsLeaves : Tryz.prog.cellsOf 31 = 1 := by kernel_rfl
theorem cellsView : Tryz.prog.cellsOf 33 = 4 := by kernel_rfl
theorem list4 {α : Type} {cs : List α} (h : cs.length = 4) : ∃ c0 c1 c2 c3, cs = [c0, c1, c2, c3] := by
  match cs, h with
  | [c0, c1, c2, c3], _ => exact ⟨c0, c1, c2, c3, rfl⟩
theorem list2 {α : Type} {cs : List α} (h : cs.length = 2) : ∃ c0 c1, cs = [c0, c1] := by
  match cs, h with
  | [c0, c1], _ => exact ⟨c0, c1, rfl⟩
section
variable {H : Type} {enc : TypeId × Value → H} {w : World}
theorem open_pid {n : Nat} {cs : List Value} {x : DataW H × List MemPlace} (h : DataW.trod enc Tryz.prog w 0 (fun _ => true) true n 25 cs = some x) :
    ∃ i c : Int, cs = [.int .u16 i, .int .u32 c] ∧ 0 ≤ i ∧ i < 65536 ∧ 0 ≤ c ∧ c < 4294967296 := by
  obtain ⟨y0, y1, m, _, hl, h0, h1⟩ := trod_struct2 Tryz.underlying25 h
  rw [cellsPid] at hl
  obtain ⟨c0, c1, rfl⟩ := list2 hl
  have e0 : (([c0, c1] : List Value).drop 0).take (Tryz.prog.cellsOf 22) = [c0] := by rw [cellsU16]; rfl
  have e1 : (([c0, c1] : List Value).drop 1).take (Tryz.prog.cellsOf 23) = [c1] := by rw [cellsU32]; rfl
  obtain ⟨i, hi, _, wi⟩ := DataW.trod_int Tryz.underlying22 (e0 ▸ h0)
  obtain ⟨c, hc, _, wc⟩ := DataW.trod_int Tryz.underlying23 (e1 ▸ h1)
  cases hi; cases hc
  have b0 := bounds_u16 wi
  have b1 := bounds_u32 wc
  exact ⟨i, c, rfl, b0.1, by omega, b1.1, by omega⟩

theorem open_pids {n : Nat} {cs : List Value} {x : DataW H × List MemPlace} (h : DataW.trod enc Tryz.prog w 0 (fun _ => true) true n 30 cs = some x) (hs : Sz 30 x.1) :
    ∃ (a : Option Addr) (c : Nat) (xs : List Pid), cs = [.slice a xs.length c] ∧ PidRow w a xs ∧ WfPids xs ∧ xs.length ≤ 17592186044416 := by
  rcases open_slice Tryz.underlying30 h with ⟨hv, _⟩ | ⟨a, len, cap, m, k, D, Pl, hv, _, hl, hm, hmm, hx, hel⟩
  · exact ⟨none, 0, [], hv, .inl rfl, (by intro p hp; cases hp), by simp⟩
  · simp only [if_true] at hmm
    subst hmm
    rw [cellsPid] at hel
    have hex : ∀ i, ∃ p : Pid, i < len → (w.cell? (a.add (i * 2)) = some (.int .u16 p.1) ∧ w.cell? ((a.add (i * 2)).add 1) = some (.int .u32 p.2) ∧ 0 ≤ p.1 ∧ p.1 < 65536 ∧ 0 ≤ p.2 ∧ p.2 < 4294967296) := by
      intro i
      by_cases hi : i < len
      · obtain ⟨cs', h1, h2⟩ := hel i (by omega)
        obtain ⟨pi, pc, rfl, b0, b1, b2, b3⟩ := open_pid h2
        obtain ⟨_, _, hc⟩ := World.cells?_some h1
        exact ⟨(pi, pc), fun _ => ⟨by simpa [Addr.add] using hc 0 (by omega), by simpa using hc 1 (by omega), b0, b1, b2, b3⟩⟩
      · exact ⟨(0, 0), fun h => absurd h hi⟩
    obtain ⟨f, hf⟩ := Classical.axiomOfChoice hex
    rw [hx] at hs
    obtain ⟨hw, _⟩ := hs.slice Tryz.underlying30
    rw [bytesPid] at hw
    simp only [List.length_map, List.length_range] at hw
    have hlen : len ≤ 17592186044416 := by unfold reachBytes at hw; omega
    refine ⟨some a, m, (List.range len).map f, by rw [hv]; simp, ?_, ?_, by simpa using hlen⟩
    · by_cases h0 : len = 0
      · subst h0; exact .inl rfl
      · have ha := (hf 0 (by omega)).1
        have hsp : a.spot = none := by simpa [Addr.add] using World.cell?_spot ha
        obtain ⟨b, off, sp⟩ := a
        simp only at hsp
        subst hsp
        refine .inr ⟨b, off, rfl, ?_, fun i hi => ?_⟩
        · have := World.block_lt_of_cell? w _ ha
          simpa [addr_add] using this
        · have hi' : i < len := by simpa using hi
          obtain ⟨g1, g2, _⟩ := hf i hi'
          rw [addr_add, addr_add] at g2
          rw [addr_add] at g1
          simpa using ⟨g1, g2⟩
    · intro p hp
      obtain ⟨i, hi, rfl⟩ := List.mem_map.1 hp
      obtain ⟨_, _, g⟩ := hf i (by simpa using hi)
      exact g

theorem open_leaves {n : Nat} {v : Value} {x : DataW H × List MemPlace} (h : DataW.trod enc Tryz.prog w 0 (fun _ => true) true n 31 [v] = some x) (hs : Sz 31 x.1) :
    ∃ (a : Option Addr) (c : Nat) (ls : List (List Pid)), v = .slice a ls.length c ∧ LeafRow w a ls ∧ (∀ l ∈ ls, WfPids l) ∧ ls.length ≤ 17592186044416 ∧ ∀ l ∈ ls, l.length ≤ 17592186044416 := by
  rcases open_slice1 Tryz.underlying31 cellsPids h with ⟨hv, _⟩ | ⟨a, len, cap, m, k, Vs, D, Pl, hv, _, hl, hm, hmm, hx, hel⟩
  · cases hv
    exact ⟨none, 0, [], rfl, .inl rfl, (by intro p hp; cases hp), by simp, by intro p hp; cases hp⟩
  · cases hv
    simp only [if_true] at hmm
    subst hmm
    rw [hx] at hs
    obtain ⟨hw, hel2⟩ := hs.slice Tryz.underlying31
    rw [bytesPids] at hw
    simp only [List.length_map, List.length_range] at hw
    have hlen : len ≤ 17592186044416 := by unfold reachBytes at hw; omega
    have hex : ∀ i, ∃ l : List Pid, i < len → ∃ ai ci, (w.cell? (a.add i) = some (.slice ai l.length ci) ∧ PidRow w ai l ∧ WfPids l ∧ l.length ≤ 17592186044416) := by
      intro i
      by_cases hi : i < len
      · obtain ⟨h1, h2⟩ := hel i (by omega)
        obtain ⟨ai, ci, l, hv, hr, hw, hb⟩ := open_pids h2 (hel2 _ (List.mem_map.2 ⟨i, by simpa using hi, rfl⟩))
        have hv := List.cons.inj hv
        exact ⟨l, fun _ => ⟨ai, ci, by rw [h1, hv.1], hr, hw, hb⟩⟩
      · exact ⟨[], fun h => absurd h hi⟩
    obtain ⟨f, hf⟩ := Classical.axiomOfChoice hex
    refine ⟨some a, m, (List.range len).map f, by simp, ?_, ?_, by simpa using hlen, ?_⟩
    · by_cases h0 : len = 0
      · subst h0; exact .inl rfl
      · obtain ⟨_, _, ha, _⟩ := hf 0 (by omega)
        have hsp : a.spot = none := by simpa [Addr.add] using World.cell?_spot ha
        obtain ⟨b, off, sp⟩ := a
        simp only at hsp
        subst hsp
        refine .inr ⟨b, off, rfl, ?_, fun i hi => ?_⟩
        · have := World.block_lt_of_cell? w _ ha
          simpa [addr_add] using this
        · have hi' : i < len := by simpa using hi
          obtain ⟨ai, ci, g1, g2, _⟩ := hf i hi'
          rw [addr_add] at g1
          exact ⟨ai, ci, by simpa using g1, by simpa using g2⟩
    · intro l hl
      obtain ⟨i, hi, rfl⟩ := List.mem_map.1 hl
      obtain ⟨_, _, _, _, g, _⟩ := hf i (by simpa using hi)
      exact g
    · intro l hl
      obtain ⟨i, hi, rfl⟩ := List.mem_map.1 hl
      obtain ⟨_, _, _, _, _, g⟩ := hf i (by simpa using hi)
      exact g

/-- a view that is plain data -/
structure WfView (V : View) : Prop where
  id : 0 ≤ V.id ∧ V.id < 18446744073709551616
  ms : WfPids V.ms
  ls : ∀ l ∈ V.ls, WfPids l
  ds : WfPids V.ds
set_option maxRecDepth 100000 in
theorem open_viewL {n : Nat} {cs : List Value} {x : DataW H × List MemPlace} (h : DataW.trod enc Tryz.prog w 0 (fun _ => true) true n 33 cs = some x) (hs : Sz 33 x.1) :
    ∃ (V : View) (am al ad : Option Addr) (cm cl cd : Nat), cs = [.int .u64 V.id, .slice am V.ms.length cm, .slice al V.ls.length cl, .slice ad V.ds.length cd] ∧ ViewR w am al ad V ∧ WfView V := by
  obtain ⟨y0, y1, y2, y3, m, hx, hl, h0, h1, h2, h3⟩ := trod_struct4 Tryz.underlying33 h
  rw [cellsView] at hl
  obtain ⟨v0, v1, v2, v3, rfl⟩ := list4 hl
  have e0 : (([v0, v1, v2, v3] : List Value).drop 0).take (Tryz.prog.cellsOf 26) = [v0] := by rw [cellsU64]; rfl
  have e1 : (([v0, v1, v2, v3] : List Value).drop 1).take (Tryz.prog.cellsOf 30) = [v1] := by rw [cellsPids]; rfl
  have e2 : (([v0, v1, v2, v3] : List Value).drop 2).take (Tryz.prog.cellsOf 31) = [v2] := by rw [cellsLeaves]; rfl
  have e3 : (([v0, v1, v2, v3] : List Value).drop 3).take (Tryz.prog.cellsOf 30) = [v3] := by rw [cellsPids]; rfl
  have h0 := e0 ▸ h0
  have h1 := e1 ▸ h1
  have h2 := e2 ▸ h2
  have h3 := e3 ▸ h3
  have hw : ∀ k, (k ∈ y1.1.weights Tryz.prog 30 ∨ k ∈ y2.1.weights Tryz.prog 31 ∨ k ∈ y3.1.weights Tryz.prog 30) → k ≤ reachBytes := by
    intro k hk
    refine hs k ?_
    have e : x.1.weights Tryz.prog 33 = y0.1.weights Tryz.prog 26 ++ (y1.1.weights Tryz.prog 30 ++ (y2.1.weights Tryz.prog 31 ++ (y3.1.weights Tryz.prog 30 ++ []))) := by
      rw [hx]; simp [DataW.weights, Tryz.underlying33, DataW.weightsEach]
    rw [e]
    simp only [List.mem_append, List.append_nil]
    rcases hk with hk | hk | hk
    · exact .inr (.inl hk)
    · exact .inr (.inr (.inl hk))
    · exact .inr (.inr (.inr hk))
  obtain ⟨i, hi, _, wi⟩ := DataW.trod_int Tryz.underlying26 h0
  cases hi
  obtain ⟨am, cm, ms, hv1, rm, wm, bm⟩ := open_pids h1 (fun k hk => hw k (.inl hk))
  obtain ⟨al, cl, ls, rfl, rl, wl, bl, bl2⟩ := open_leaves h2 (fun k hk => hw k (.inr (.inl hk)))
  obtain ⟨ad, cd, ds, hv3, rd, wd, bd⟩ := open_pids h3 (fun k hk => hw k (.inr (.inr hk)))
  cases hv1; cases hv3
  have b0 := bounds_u64 wi
  exact ⟨⟨i, ms, ls, ds⟩, am, al, ad, cm, cl, cd, rfl, ⟨rm, rl, rd, by simp only; omega, by simp only; omega, by simp only; omega, fun l hl => by have := bl2 l hl; omega⟩, ⟨⟨b0.1, by simp only; omega⟩, wm, wl, wd⟩⟩
set_option maxRecDepth 100000 in
theorem open_bytesK {n : Nat} {cs : List Value} {x : DataW H × List MemPlace} (h : DataW.trod enc Tryz.prog w 0 (fun _ => true) true n 29 cs = some x) :
    ∃ (a : Option Addr) (c : Nat) (bs : List Nat), cs = [.slice a bs.length c] ∧ ByteRow w a bs ∧ (∀ b ∈ bs, b < 256) ∧ bs.length ≤ c := by
  rcases open_ints (x := x) Tryz.underlying29 Tryz.underlying5 cellsU8 h with ⟨hcs, _⟩ | ⟨a, len, cap, zs, hcs, _, hl, hm, hz, hx, hcell, hwf⟩
  · exact ⟨none, 0, [], hcs, .inl rfl, (by intro x hx; cases hx), Nat.le_refl _⟩
  · simp only [if_true] at hz
    have hzl : ((zs.take len).map Int.toNat).length = len := by simp; omega
    have hb : ∀ z ∈ zs, 0 ≤ z ∧ z ≤ 255 := fun z hz => bounds_u8 (hwf z hz)
    refine ⟨some a, cap, (zs.take len).map Int.toNat, by rw [hzl, hcs], ?_, ?_, by rw [hzl]; exact hl⟩
    · by_cases h0 : len = 0
      · subst h0; exact .inl (by simp)
      · have ha := hcell 0 (by omega)
        have hsp : a.spot = none := by simpa [Addr.add] using World.cell?_spot ha
        obtain ⟨b, off, sp⟩ := a
        simp only at hsp
        subst hsp
        refine .inr ⟨b, off, rfl, ?_, fun i hi => ?_⟩
        · have := World.block_lt_of_cell? w _ ha
          simpa [addr_addB] using this
        · have hi2 : i < len := by rw [hzl] at hi; exact hi
          have g := hcell i (by omega)
          rw [addr_addB] at g
          rw [g]
          have hzi : i < zs.length := by omega
          have hbz := hb zs[i] (List.getElem_mem _)
          simp only [List.getElem_map, List.getElem_take, List.getD_eq_getElem?_getD, List.getElem?_eq_getElem hzi, Option.getD_some]
          congr 2; omega
    · intro x hx'
      obtain ⟨z, hz1, rfl⟩ := List.mem_map.1 hx'
      have := hb z (List.mem_of_mem_take hz1)
      omega
theorem open_bytesL {n : Nat} {cs : List Value} {x : DataW H × List MemPlace} (h : DataW.trod enc Tryz.prog w 0 (fun _ => true) true n 29 cs = some x) :
    ∃ (a : Option Addr) (c : Nat) (bs : List Nat), cs = [.slice a bs.length c] ∧ ByteRow w a bs ∧ (∀ b ∈ bs, b < 256) := by
  obtain ⟨a, c, bs, h1, h2, h3, -⟩ := open_bytesK h
  exact ⟨a, c, bs, h1, h2, h3⟩
end
section
variable {H : Type} {enc : TypeId × Value → H} {w : World}
end
theorem cellsInt : Tryz.prog.cellsOf 3 = 1 := by kernel_rfl
theorem cellsBytes : Tryz.prog.cellsOf 29 = 1 := by kernel_rfl
theorem cellsCmd : Tryz.prog.cellsOf 35 = 10 := by kernel_rfl
theorem list10 {α : Type} {cs : List α} (h : cs.length = 10) : ∃ c0 c1 c2 c3 c4 c5 c6 c7 c8 c9, cs = [c0, c1, c2, c3, c4, c5, c6, c7, c8, c9] := by
  match cs, h with
  | [c0, c1, c2, c3, c4, c5, c6, c7, c8, c9], _ => exact ⟨c0, c1, c2, c3, c4, c5, c6, c7, c8, c9, rfl⟩
theorem trod_struct6 {H : Type} {enc : TypeId × Value → H} {P : Program} {w : World} {base : Nat} {spare : Nat → Bool} {held : Bool} {t : TypeId} {f0 f1 f2 f3 f4 f5 : Field} {fuel : Nat} {cs : List Value} {x : DataW H × List MemPlace} (ht : P.underlying t = some (.struct #[f0, f1, f2, f3, f4, f5])) (h : DataW.trod enc P w base spare held fuel t cs = some x) :
    ∃ y0 y1 y2 y3 y4 y5 n, x.1 = .agg [y0.1, y1.1, y2.1, y3.1, y4.1, y5.1] ∧ cs.length = P.cellsOf t ∧ DataW.trod enc P w base spare held n f0.type ((cs.drop f0.offset).take (P.cellsOf f0.type)) = some y0 ∧
      DataW.trod enc P w base spare held n f1.type ((cs.drop f1.offset).take (P.cellsOf f1.type)) = some y1 ∧ DataW.trod enc P w base spare held n f2.type ((cs.drop f2.offset).take (P.cellsOf f2.type)) = some y2 ∧
      DataW.trod enc P w base spare held n f3.type ((cs.drop f3.offset).take (P.cellsOf f3.type)) = some y3 ∧ DataW.trod enc P w base spare held n f4.type ((cs.drop f4.offset).take (P.cellsOf f4.type)) = some y4 ∧ DataW.trod enc P w base spare held n f5.type ((cs.drop f5.offset).take (P.cellsOf f5.type)) = some y5 := by
  obtain ⟨xs, n, _, rfl, hl, hlen, hf⟩ := DataW.trod_struct ht h
  match xs, hlen with
  | [y0, y1, y2, y3, y4, y5], _ => exact ⟨y0, y1, y2, y3, y4, y5, n, by simp, hl, by simpa using hf 0 f0 rfl, by simpa using hf 1 f1 rfl, by simpa using hf 2 f2 rfl, by simpa using hf 3 f3 rfl, by simpa using hf 4 f4 rfl, by simpa using hf 5 f5 rfl⟩
section
variable {H : Type} {enc : TypeId × Value → H} {w : World}
set_option maxRecDepth 100000 in
set_option maxHeartbeats 1600000 in
theorem open_cmdL {n : Nat} {cs : List Value} {x : DataW H × List MemPlace} (h : DataW.trod enc Tryz.prog w 0 (fun _ => true) true n 35 cs = some x) (hs : Sz 35 x.1) :
    ∃ (A : CmdD) (da am al ad : Option Addr) (dc cm cl cd : Nat), cs = (cmdL da am al ad dc cm cl cd A).toList ∧ ByteRow w da A.data ∧ (∀ b ∈ A.data, b < 256) ∧ ViewR w am al ad A.v ∧ WfView A.v ∧ okP A.fr ∧ A.num < 18446744073709551616 ∧ A.vw < 18446744073709551616 := by
  obtain ⟨y0, y1, y2, y3, y4, y5, m, hx, hl, h0, h1, h2, h3, h4, h5⟩ := trod_struct6 Tryz.underlying35 h
  rw [cellsCmd] at hl
  obtain ⟨v0, v1, v2, v3, v4, v5, v6, v7, v8, v9, rfl⟩ := list10 hl
  have e0 : (([v0, v1, v2, v3, v4, v5, v6, v7, v8, v9] : List Value).drop 0).take (Tryz.prog.cellsOf 3) = [v0] := by rw [cellsInt]; rfl
  have e1 : (([v0, v1, v2, v3, v4, v5, v6, v7, v8, v9] : List Value).drop 1).take (Tryz.prog.cellsOf 25) = [v1, v2] := by rw [cellsPid]; rfl
  have e2 : (([v0, v1, v2, v3, v4, v5, v6, v7, v8, v9] : List Value).drop 3).take (Tryz.prog.cellsOf 26) = [v3] := by rw [cellsU64]; rfl
  have e3 : (([v0, v1, v2, v3, v4, v5, v6, v7, v8, v9] : List Value).drop 4).take (Tryz.prog.cellsOf 26) = [v4] := by rw [cellsU64]; rfl
  have e4 : (([v0, v1, v2, v3, v4, v5, v6, v7, v8, v9] : List Value).drop 5).take (Tryz.prog.cellsOf 29) = [v5] := by rw [cellsBytes]; rfl
  have e5 : (([v0, v1, v2, v3, v4, v5, v6, v7, v8, v9] : List Value).drop 6).take (Tryz.prog.cellsOf 33) = [v6, v7, v8, v9] := by rw [cellsView]; rfl
  have h0 := e0 ▸ h0
  have h1 := e1 ▸ h1
  have h2 := e2 ▸ h2
  have h3 := e3 ▸ h3
  have h4 := e4 ▸ h4
  have h5 := e5 ▸ h5
  have hw : Sz 33 y5.1 := by
    intro k hk
    refine hs k ?_
    have e : x.1.weights Tryz.prog 35 = y0.1.weights Tryz.prog 3 ++ (y1.1.weights Tryz.prog 25 ++ (y2.1.weights Tryz.prog 26 ++ (y3.1.weights Tryz.prog 26 ++ (y4.1.weights Tryz.prog 29 ++ (y5.1.weights Tryz.prog 33 ++ []))))) := by
      rw [hx]; simp [DataW.weights, Tryz.underlying35, DataW.weightsEach]
    rw [e]
    simp only [List.mem_append, List.append_nil]
    exact .inr (.inr (.inr (.inr (.inr hk))))
  obtain ⟨kd, hkd, _, wk⟩ := DataW.trod_int Tryz.underlying3 h0
  obtain ⟨i, c, hp, hb⟩ := open_pid h1
  obtain ⟨n1, hn1, _, wn1⟩ := DataW.trod_int Tryz.underlying26 h2
  obtain ⟨n2, hn2, _, wn2⟩ := DataW.trod_int Tryz.underlying26 h3
  obtain ⟨da, dc, bs, hd, hdr, hdb⟩ := open_bytesL h4
  obtain ⟨V, am, al, ad, cm, cl, cd, hv, hR, hwf⟩ := open_viewL h5 hw
  have b1 := bounds_u64 wn1
  have b2 := bounds_u64 wn2
  obtain ⟨k1, rfl⟩ : ∃ k : Nat, n1 = (k : Int) := ⟨n1.toNat, by omega⟩
  obtain ⟨k2, rfl⟩ : ∃ k : Nat, n2 = (k : Int) := ⟨n2.toNat, by omega⟩
  cases hkd; cases hp; cases hn1; cases hn2; cases hd; cases hv
  exact ⟨⟨kd, (i, c), k1, k2, bs, V⟩, da, am, al, ad, dc, cm, cl, cd, rfl, hdr, hdb, hR, hwf, hb, by simp only; omega, by simp only; omega⟩
end
end Go.Proofs.YtppapeoainafbaaGreatDoor

