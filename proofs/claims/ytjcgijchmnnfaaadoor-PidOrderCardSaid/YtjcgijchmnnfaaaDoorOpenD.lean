import Derived.Test.YtjcgijchmnnfaaaDoorD3
import Derived.Deep.Slices
import Derived.Lib.SmallJoins
import Derived.SizedLaws
import Derived.ProofKit
import Derived.OpenShut
namespace Go.Proofs.YtjcgijchmnnfaaaDoor
open Go.RowKit Go.Deep Go.Joins Go.ChangeShapes
theorem cells25 : Tryd.prog.cellsOf 25 = 2 := by kernel_rfl
theorem cells23 : Tryd.prog.cellsOf 23 = 1 := by kernel_rfl
theorem cells22 : Tryd.prog.cellsOf 22 = 1 := by kernel_rfl
theorem cells27 : Tryd.prog.cellsOf 27 = 3 := by kernel_rfl
section
variable {H : Type} {enc : TypeId × Value → H} {w : World}
theorem open_pid {n : Nat} {cs : List Value} {x : DataW H × List MemPlace} (h : DataW.trod enc Tryd.prog w 0 (fun _ => true) true n 25 cs = some x) :
    ∃ i c : Int, cs = [.int .u16 i, .int .u32 c] ∧ ok (i, c) := by
  obtain ⟨y0, y1, m, _, hl, h0, h1⟩ := trod_struct2 Tryd.underlying25 h
  rw [cells25] at hl
  obtain ⟨c0, c1, rfl⟩ : ∃ c0 c1, cs = [c0, c1] := by
    rcases cs with _ | ⟨c0, _ | ⟨c1, _ | ⟨c2, r⟩⟩⟩
    · simp at hl
    · simp at hl
    · exact ⟨c0, c1, rfl⟩
    · simp at hl
  · have e0 : (([c0, c1] : List Value).drop 0).take (Tryd.prog.cellsOf 23) = [c0] := by rw [cells23]; rfl
    have e1 : (([c0, c1] : List Value).drop 1).take (Tryd.prog.cellsOf 22) = [c1] := by rw [cells22]; rfl
    obtain ⟨i, hi, _, wi⟩ := DataW.trod_int Tryd.underlying23 (e0 ▸ h0)
    obtain ⟨c, hc, _, wc⟩ := DataW.trod_int Tryd.underlying22 (e1 ▸ h1)
    cases hi; cases hc
    have b0 := bounds_u16 wi
    have b1 := bounds_u32 wc
    exact ⟨i, c, rfl, b0.1, by have := b0.2; simp only; omega, b1.1, by have := b1.2; simp only; omega⟩
theorem open_bal {n : Nat} {cs : List Value} {x : DataW H × List MemPlace} (h : DataW.trod enc Tryd.prog w 0 (fun _ => true) true n 27 cs = some x) :
    ∃ r i c : Int, cs = [.int .u32 r, .int .u16 i, .int .u32 c] ∧ 0 ≤ r ∧ r < 4294967296 ∧ ok (i, c) := by
  obtain ⟨y0, y1, m, _, hl, h0, h1⟩ := trod_struct2 Tryd.underlying27 h
  rw [cells27] at hl
  obtain ⟨c0, c1, c2, rfl⟩ : ∃ c0 c1 c2, cs = [c0, c1, c2] := by
    rcases cs with _ | ⟨c0, _ | ⟨c1, _ | ⟨c2, _ | ⟨c3, r⟩⟩⟩⟩
    · simp at hl
    · simp at hl
    · simp at hl
    · exact ⟨c0, c1, c2, rfl⟩
    · simp at hl
  · have e0 : (([c0, c1, c2] : List Value).drop 0).take (Tryd.prog.cellsOf 22) = [c0] := by rw [cells22]; rfl
    have e1 : (([c0, c1, c2] : List Value).drop 1).take (Tryd.prog.cellsOf 25) = [c1, c2] := by rw [cells25]; rfl
    obtain ⟨r, hr, _, wr⟩ := DataW.trod_int Tryd.underlying22 (e0 ▸ h0)
    obtain ⟨i, c, hic, hok⟩ := open_pid (e1 ▸ h1)
    cases hr; cases hic
    have b0 := bounds_u32 wr
    exact ⟨r, i, c, rfl, b0.1, by have := b0.2; omega, hok⟩
theorem open_balV {base : Nat} {v : Value} {d : DataW H} {p : List MemPlace} (hv : Value.okWide Tryd.prog w .any base 27 v) (h : DataW.Trod enc Tryd.prog w 0 (fun _ => true) true 27 v d p) :
    ∃ (r x y : Int), v = .agg #[.int .u32 r, .int .u16 x, .int .u32 y] ∧ 0 ≤ r ∧ r < 4294967296 ∧ ok (x, y) := by
  obtain ⟨cs, rfl, hsz⟩ := Go.WideShapes.okWide_struct Tryd.underlying27 hv
  obtain ⟨fuel, hf⟩ := h
  obtain ⟨r, i, c, hcs, b⟩ := open_bal (x := (d, p)) hf
  exact ⟨r, i, c, by rw [← Array.toArray_toList (xs := cs)]; simp only [Value.cells] at hcs; rw [hcs], b⟩
end
end Go.Proofs.YtjcgijchmnnfaaaDoor
