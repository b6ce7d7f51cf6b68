/- Parts of the proof: XBT. -/
import Derived.Test.YtppapeoainafbaaGreatDoorU6
namespace Go.Proofs.YtppapeoainafbaaGreatDoor
open Go.RowKit Go.Deep Go.Joins Go.ChangeShapes
/-! ### from the row's reading to beats -/
theorem cellsBeat : Tryz.prog.cellsOf 39 = 5 := by kernel_rfl
theorem list5 {α : Type} {cs : List α} (h : cs.length = 5) : ∃ c0 c1 c2 c3 c4, cs = [c0, c1, c2, c3, c4] := by
  match cs, h with
  | [c0, c1, c2, c3, c4], _ => exact ⟨c0, c1, c2, c3, c4, rfl⟩
theorem trod_struct5 {H : Type} {enc : TypeId × Value → H} {P : Program} {w : World} {base : Nat} {spare : Nat → Bool} {held : Bool} {t : TypeId} {f0 f1 f2 f3 f4 : Field} {fuel : Nat} {cs : List Value} {x : DataW H × List MemPlace} (ht : P.underlying t = some (.struct #[f0, f1, f2, f3, f4])) (h : DataW.trod enc P w base spare held fuel t cs = some x) :
    ∃ y0 y1 y2 y3 y4 n, x.1 = .agg [y0.1, y1.1, y2.1, y3.1, y4.1] ∧ cs.length = P.cellsOf t ∧ DataW.trod enc P w base spare held n f0.type ((cs.drop f0.offset).take (P.cellsOf f0.type)) = some y0 ∧ DataW.trod enc P w base spare held n f1.type ((cs.drop f1.offset).take (P.cellsOf f1.type)) = some y1 ∧ DataW.trod enc P w base spare held n f2.type ((cs.drop f2.offset).take (P.cellsOf f2.type)) = some y2 ∧ DataW.trod enc P w base spare held n f3.type ((cs.drop f3.offset).take (P.cellsOf f3.type)) = some y3 ∧ DataW.trod enc P w base spare held n f4.type ((cs.drop f4.offset).take (P.cellsOf f4.type)) = some y4 := by
  obtain ⟨xs, n, _, rfl, hl, hlen, hf⟩ := DataW.trod_struct ht h
  match xs, hlen with
  | [y0, y1, y2, y3, y4], _ => exact ⟨y0, y1, y2, y3, y4, n, by simp, hl, by simpa using hf 0 f0 rfl, by simpa using hf 1 f1 rfl, by simpa using hf 2 f2 rfl, by simpa using hf 3 f3 rfl, by simpa using hf 4 f4 rfl⟩
section
variable {H : Type} {enc : TypeId × Value → H} {w : World}
set_option maxRecDepth 100000 in
theorem open_beatL {n : Nat} {cs : List Value} {x : DataW H × List MemPlace} (h : DataW.trod enc Tryz.prog w 0 (fun _ => true) true n 39 cs = some x) (hs : Sz 39 x.1) :
    ∃ (a : Option Addr) (c : Nat) (b : BeatD), cs = [.int .u64 b.v, .int .u64 b.ap, .int .u64 b.be, .int .u64 b.st, .slice a b.sus.length c] ∧ BeatIT w a b := by
  obtain ⟨y0, y1, y2, y3, y4, m, hx, hl, h0, h1, h2, h3, h4⟩ := trod_struct5 Tryz.underlying39 h
  rw [cellsBeat] at hl
  obtain ⟨v0, v1, v2, v3, v4, rfl⟩ := list5 hl
  have e0 : (([v0, v1, v2, v3, v4] : List Value).drop 0).take (Tryz.prog.cellsOf 26) = [v0] := by rw [cellsU64]; rfl
  have e1 : (([v0, v1, v2, v3, v4] : List Value).drop 1).take (Tryz.prog.cellsOf 26) = [v1] := by rw [cellsU64]; rfl
  have e2 : (([v0, v1, v2, v3, v4] : List Value).drop 2).take (Tryz.prog.cellsOf 26) = [v2] := by rw [cellsU64]; rfl
  have e3 : (([v0, v1, v2, v3, v4] : List Value).drop 3).take (Tryz.prog.cellsOf 26) = [v3] := by rw [cellsU64]; rfl
  have e4 : (([v0, v1, v2, v3, v4] : List Value).drop 4).take (Tryz.prog.cellsOf 30) = [v4] := by rw [cellsPids]; rfl
  have h0 := e0 ▸ h0
  have h1 := e1 ▸ h1
  have h2 := e2 ▸ h2
  have h3 := e3 ▸ h3
  have h4 := e4 ▸ h4
  have hw : ∀ k, k ∈ y4.1.weights Tryz.prog 30 → k ≤ reachBytes := by
    intro k hk
    refine hs k ?_
    have e : x.1.weights Tryz.prog 39 = y0.1.weights Tryz.prog 26 ++ (y1.1.weights Tryz.prog 26 ++ (y2.1.weights Tryz.prog 26 ++ (y3.1.weights Tryz.prog 26 ++ (y4.1.weights Tryz.prog 30 ++ [])))) := by
      rw [hx]; simp [DataW.weights, Tryz.underlying39, DataW.weightsEach]
    rw [e]
    simp only [List.mem_append, List.append_nil]
    exact .inr (.inr (.inr (.inr hk)))
  obtain ⟨i0, hi0, _, wi0⟩ := DataW.trod_int Tryz.underlying26 h0
  obtain ⟨i1, hi1, _, wi1⟩ := DataW.trod_int Tryz.underlying26 h1
  obtain ⟨i2, hi2, _, wi2⟩ := DataW.trod_int Tryz.underlying26 h2
  obtain ⟨i3, hi3, _, wi3⟩ := DataW.trod_int Tryz.underlying26 h3
  have b0 := bounds_u64 wi0
  have b1 := bounds_u64 wi1
  have b2 := bounds_u64 wi2
  have b3 := bounds_u64 wi3
  obtain ⟨k0, rfl⟩ : ∃ k : Nat, i0 = (k : Int) := ⟨i0.toNat, by omega⟩
  obtain ⟨k1, rfl⟩ : ∃ k : Nat, i1 = (k : Int) := ⟨i1.toNat, by omega⟩
  obtain ⟨k2, rfl⟩ : ∃ k : Nat, i2 = (k : Int) := ⟨i2.toNat, by omega⟩
  obtain ⟨k3, rfl⟩ : ∃ k : Nat, i3 = (k : Int) := ⟨i3.toNat, by omega⟩
  obtain ⟨a, c, l, hv4, rm, wm, bm⟩ := open_pids h4 hw
  cases hi0; cases hi1; cases hi2; cases hi3; cases hv4
  exact ⟨a, c, ⟨k0, k1, k2, k3, l⟩, rfl, ⟨rm, wm⟩⟩
set_option maxRecDepth 100000 in
theorem open_beat {base : Nat} {v : Value} {d : DataW H} {p : List MemPlace} (hv : Value.okWide Tryz.prog w .any base 39 v) (h : DataW.Trod enc Tryz.prog w 0 (fun _ => true) true 39 v d p) (hs : Sz 39 d) :
    ∃ (a : Option Addr) (c : Nat) (b : BeatD), v = .agg #[.int .u64 b.v, .int .u64 b.ap, .int .u64 b.be, .int .u64 b.st, .slice a b.sus.length c] ∧ BeatIT w a b := by
  obtain ⟨cs, rfl, hsz⟩ := Go.WideShapes.okWide_struct Tryz.underlying39 hv
  obtain ⟨fuel, hf⟩ := h
  obtain ⟨a, c, b, hcs, hB⟩ := open_beatL (x := (d, p)) hf hs
  exact ⟨a, c, b, by rw [← Array.toArray_toList (xs := cs)]; simp only [Value.cells] at hcs; rw [hcs], hB⟩
end
end Go.Proofs.YtppapeoainafbaaGreatDoor

