import Derived.Test.YtjjahefedpfnaaaDoorD6
import Derived.Deep.Slices
import Derived.Lib.SmallJoins
import Derived.SizedLaws
import Derived.ProofKit
import Derived.OpenShut
namespace Go.Proofs.YtjjahefedpfnaaaDoor
open Go.RowKit Go.Deep Go.Joins Go.ChangeShapes
theorem dcells30 : Tryd.prog.cellsOf 30 = 2 := by kernel_rfl
theorem dcells27 : Tryd.prog.cellsOf 27 = 1 := by kernel_rfl
theorem dcells28 : Tryd.prog.cellsOf 28 = 1 := by kernel_rfl
section
variable {H : Type} {enc : TypeId × Value → H} {w : World}
theorem open_pid {n : Nat} {cs : List Value} {x : DataW H × List MemPlace} (h : DataW.trod enc Tryd.prog w 0 (fun _ => true) true n 30 cs = some x) :
    ∃ i c : Int, cs = [.int .u16 i, .int .u32 c] ∧ ok (i, c) := by
  obtain ⟨y0, y1, m, _, hl, h0, h1⟩ := trod_struct2 Tryd.underlying30 h
  rw [dcells30] at hl
  obtain ⟨c0, c1, rfl⟩ : ∃ c0 c1, cs = [c0, c1] := by
    rcases cs with _ | ⟨c0, _ | ⟨c1, _ | ⟨c2, r⟩⟩⟩
    · simp at hl
    · simp at hl
    · exact ⟨c0, c1, rfl⟩
    · simp at hl
  · have e0 : (([c0, c1] : List Value).drop 0).take (Tryd.prog.cellsOf 27) = [c0] := by rw [dcells27]; rfl
    have e1 : (([c0, c1] : List Value).drop 1).take (Tryd.prog.cellsOf 28) = [c1] := by rw [dcells28]; rfl
    obtain ⟨i, hi, _, wi⟩ := DataW.trod_int Tryd.underlying27 (e0 ▸ h0)
    obtain ⟨c, hc, _, wc⟩ := DataW.trod_int Tryd.underlying28 (e1 ▸ h1)
    cases hi; cases hc
    have b0 := bounds_u16 wi
    have b1 := bounds_u32 wc
    exact ⟨i, c, rfl, b0.1, by have := b0.2; simp only; omega, b1.1, by have := b1.2; simp only; omega⟩
set_option maxRecDepth 100000 in
theorem open_pidsN {base : Nat} {v : Value} {d : DataW H} {p : List MemPlace} (hv : Value.okWide Tryd.prog w .any base 22 v) (h : DataW.Trod enc Tryd.prog w 0 (fun _ => true) true 22 v d p) :
    ∃ (a : Option Addr) (c : Nat) (xs : List Pid), v = .slice a xs.length c ∧ PidRow w a xs ∧ ∀ p ∈ xs, ok p := by
  obtain ⟨a0, len0, cap0, rfl⟩ := Go.WideShapes.okWide_slice Tryd.underlying22 hv
  obtain ⟨fuel, hf⟩ := h
  rcases open_slice (x := (d, p)) Tryd.underlying22 (by simpa [Value.cells] using hf) with ⟨hcs, _⟩ | ⟨a, len, cap, m, k, D, Pl, hcs, _, hl, hm, hmm, hx, hel⟩
  · cases hcs
    exact ⟨none, 0, [], rfl, .inl rfl, (by intro p hp; cases hp)⟩
  · cases hcs
    simp only [if_true] at hmm
    subst hmm
    rw [dcells30] at hel
    have hex : ∀ i, ∃ p : Pid, i < len0 → (w.cell? (a.add (i * 2)) = some (.int .u16 p.1) ∧ w.cell? ((a.add (i * 2)).add 1) = some (.int .u32 p.2) ∧ ok p) := by
      intro i
      by_cases hi : i < len0
      · obtain ⟨cs', h1, h2⟩ := hel i (by omega)
        obtain ⟨pi, pc, rfl, b0⟩ := open_pid h2
        obtain ⟨_, _, hc⟩ := World.cells?_some h1
        exact ⟨(pi, pc), fun _ => ⟨by simpa [Addr.add] using hc 0 (by omega), by simpa using hc 1 (by omega), b0⟩⟩
      · exact ⟨(0, 0), fun h => absurd h hi⟩
    obtain ⟨f, hf⟩ := Classical.axiomOfChoice hex
    refine ⟨some a, m, (List.range len0).map f, by simp, ?_, ?_⟩
    · by_cases h0 : len0 = 0
      · subst h0; exact .inl rfl
      · have ha := (hf 0 (by omega)).1
        have hsp : a.spot = none := by simpa [Addr.add] using World.cell?_spot ha
        obtain ⟨b, off, sp⟩ := a
        simp only at hsp
        subst hsp
        refine .inr ⟨b, off, rfl, ?_, fun i hi => ?_⟩
        · have := World.block_lt_of_cell? w _ ha
          simpa [addr_add] using this
        · have hi' : i < len0 := by simpa using hi
          obtain ⟨g1, g2, _⟩ := hf i hi'
          rw [addr_add] at g1
          rw [addr_add, addr_add] at g2
          exact ⟨by simpa using g1, by simpa using g2⟩
    · intro q hq
      obtain ⟨i, hi, rfl⟩ := List.mem_map.1 hq
      exact (hf i (by simpa using hi)).2.2
end
end Go.Proofs.YtjjahefedpfnaaaDoor
