import Derived.Test.YteodaakdjnjhmaaDoorXPB
import Derived.Deep.Slices
import Derived.Lib.SmallJoins
import Derived.SizedLaws
import Derived.ProofKit
import Derived.OpenShut
namespace Go.Proofs.YteodaakdjnjhmaaDoor
open Go.RowKit Go.Deep Go.Joins Go.ChangeShapes
theorem dcells30 : Tryd.prog.cellsOf 26 = 2 := by kernel_rfl
theorem dcells27 : Tryd.prog.cellsOf 23 = 1 := by kernel_rfl
theorem dcells28 : Tryd.prog.cellsOf 24 = 1 := by kernel_rfl
section
variable {H : Type} {enc : TypeId × Value → H} {w : World}
theorem open_pid {n : Nat} {cs : List Value} {x : DataW H × List MemPlace} (h : DataW.trod enc Tryd.prog w 0 (fun _ => true) true n 26 cs = some x) :
    ∃ i c : Int, cs = [.int .u16 i, .int .u32 c] ∧ ok (i, c) := by
  obtain ⟨y0, y1, m, _, hl, h0, h1⟩ := trod_struct2 Tryd.underlying26 h
  rw [dcells30] at hl
  obtain ⟨c0, c1, rfl⟩ : ∃ c0 c1, cs = [c0, c1] := by
    rcases cs with _ | ⟨c0, _ | ⟨c1, _ | ⟨c2, r⟩⟩⟩
    · simp at hl
    · simp at hl
    · exact ⟨c0, c1, rfl⟩
    · simp at hl
  · have e0 : (([c0, c1] : List Value).drop 0).take (Tryd.prog.cellsOf 23) = [c0] := by rw [dcells27]; rfl
    have e1 : (([c0, c1] : List Value).drop 1).take (Tryd.prog.cellsOf 24) = [c1] := by rw [dcells28]; rfl
    obtain ⟨i, hi, _, wi⟩ := DataW.trod_int Tryd.underlying23 (e0 ▸ h0)
    obtain ⟨c, hc, _, wc⟩ := DataW.trod_int Tryd.underlying24 (e1 ▸ h1)
    cases hi; cases hc
    have b0 := bounds_u16 wi
    have b1 := bounds_u32 wc
    exact ⟨i, c, rfl, b0.1, by have := b0.2; simp only; omega, b1.1, by have := b1.2; simp only; omega⟩
theorem open_pidV {base : Nat} {v : Value} {d : DataW H} {p : List MemPlace} (hv : Value.okWide Tryd.prog w .any base 26 v) (h : DataW.Trod enc Tryd.prog w 0 (fun _ => true) true 26 v d p) :
    ∃ (x y : Int), v = .agg #[.int .u16 x, .int .u32 y] ∧ ok (x, y) := by
  obtain ⟨cs, rfl, hsz⟩ := Go.WideShapes.okWide_struct Tryd.underlying26 hv
  obtain ⟨fuel, hf⟩ := h
  obtain ⟨i, c, hcs, b⟩ := open_pid (x := (d, p)) hf
  exact ⟨i, c, by rw [← Array.toArray_toList (xs := cs)]; simp only [Value.cells] at hcs; rw [hcs], b⟩
theorem dcells5 : Tryd.prog.cellsOf 5 = 1 := by kernel_rfl
set_option maxRecDepth 100000 in
theorem open_bytesN {base : Nat} {v : Value} {d : DataW H} {p : List MemPlace} (hv : Value.okWide Tryd.prog w .any base 22 v) (h : DataW.Trod enc Tryd.prog w 0 (fun _ => true) true 22 v d p) :
    ∃ (a : Option Addr) (c : Nat) (bs : List Nat), v = .slice a bs.length c ∧ ByteRow w a bs ∧ (∀ b ∈ bs, b < 256) ∧ bs.length ≤ c := by
  obtain ⟨a0, len0, cap0, rfl⟩ := Go.WideShapes.okWide_slice Tryd.underlying22 hv
  obtain ⟨fuel, hf⟩ := h
  rcases open_ints (x := (d, p)) Tryd.underlying22 Tryd.underlying5 dcells5 (by simpa [Value.cells] using hf) with ⟨hcs, _⟩ | ⟨a, len, cap, zs, hcs, _, hl, hm, hz, hx, hcell, hwf⟩
  · cases hcs
    exact ⟨none, 0, [], rfl, .inl rfl, (by intro x hx; cases hx), Nat.le_refl _⟩
  · cases hcs
    simp only [if_true] at hz
    have hzl : ((zs.take len0).map Int.toNat).length = len0 := by simp; omega
    have hb : ∀ z ∈ zs, 0 ≤ z ∧ z ≤ 255 := fun z hz => bounds_u8 (hwf z hz)
    refine ⟨some a, cap0, (zs.take len0).map Int.toNat, by rw [hzl], ?_, ?_, by rw [hzl]; exact hl⟩
    · by_cases h0 : len0 = 0
      · subst h0; exact .inl (by simp)
      · have ha := hcell 0 (by omega)
        have hsp : a.spot = none := by simpa [Addr.add] using World.cell?_spot ha
        obtain ⟨b, off, sp⟩ := a
        simp only at hsp
        subst hsp
        refine .inr ⟨b, off, rfl, ?_, fun i hi => ?_⟩
        · have := World.block_lt_of_cell? w _ ha
          simpa [addr_addB] using this
        · have hi2 : i < len0 := by rw [hzl] at hi; exact hi
          have g := hcell i (by omega)
          rw [addr_addB] at g
          rw [g]
          have hzi : i < zs.length := by omega
          have hbz := hb zs[i] (List.getElem_mem _)
          simp only [List.getElem_map, List.getElem_take, List.getD_eq_getElem?_getD, List.getElem?_eq_getElem hzi, Option.getD_some]
          congr 2; omega
    · intro x hx'
      obtain ⟨z, hz1, rfl⟩ := List.mem_map.1 hx'
      have := hb z (List.mem_of_mem_take hz1)
      omega
end
end Go.Proofs.YteodaakdjnjhmaaDoor
