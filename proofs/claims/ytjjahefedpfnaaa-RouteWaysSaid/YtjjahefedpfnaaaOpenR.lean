import Derived.Test.YtjjahefedpfnaaaOpenC
import Derived.Test.YtjjahefedpfnaaaE5
namespace Go.Proofs.Ytjjahefedpfnaaa
open Go.RowKit Go.Deep Go.Joins Go.ChangeShapes
theorem cells70 : Try.prog.cellsOf 70 = 16 := by kernel_rfl
theorem cells30 : Try.prog.cellsOf 30 = 1 := by kernel_rfl
section
variable {H : Type} {enc : TypeId × Value → H} {w : World}
set_option maxRecDepth 100000 in
theorem okWide_array {r : Reach} {base : Nat} {t e : TypeId} {n : Nat} {v : Value} (ht : Try.prog.underlying t = some (.array n e)) (h : Value.okWide Try.prog w r base t v) : ∃ cs, v = .agg cs ∧ cs.size = Try.prog.cellsOf t := by
  simp only [Value.okWide, ht] at h
  obtain ⟨cs, h1, h2, _⟩ := h
  exact ⟨cs, h1, h2⟩
set_option maxRecDepth 100000 in
theorem open_rumor {base : Nat} {v : Value} {d : DataW H} {p : List MemPlace} (hv : Value.okWide Try.prog w .any base 70 v) (h : DataW.Trod enc Try.prog w 0 (fun _ => true) true 70 v d p) (_ : Sz 70 d) :
    ∃ r : Nat → Int, v = .agg (RL r).toArray := by
  obtain ⟨cs, rfl, hsz⟩ := okWide_array Try.underlying70 hv
  obtain ⟨fuel, hf⟩ := h
  obtain ⟨xs, m, -, -, -, hxl, hel⟩ := DataW.trod_array Try.underlying70 hf
  rw [cells70] at hsz
  have hget : ∀ i, i < 16 → ∃ z : Int, cs[i]? = some (.int .u32 z) := fun i hi => by
    have h1 := hel i hi
    rw [cells30] at h1
    have hx : ∃ x, xs[i]? = some x := ⟨xs[i]'(by omega), List.getElem?_eq_getElem (by omega)⟩
    obtain ⟨x, hx⟩ := hx
    rw [hx] at h1
    obtain ⟨z, hz, _, _⟩ := DataW.trod_int Try.underlying30 h1
    refine ⟨z, ?_⟩
    have h2 : ((cs.toList.drop (i * 1)).take 1)[0]? = some (.int .u32 z) := by
      have e : (Value.agg cs).cells.toList = cs.toList := rfl
      rw [← e, hz]; rfl
    simpa using h2
  have hex : ∀ i, ∃ z : Int, i < 16 → cs[i]? = some (.int .u32 z) := fun i => by
    by_cases hi : i < 16
    · obtain ⟨z, hz⟩ := hget i hi; exact ⟨z, fun _ => hz⟩
    · exact ⟨0, fun h => absurd h hi⟩
  obtain ⟨f, hf'⟩ := Classical.axiomOfChoice hex
  refine ⟨f, ?_⟩
  congr 1
  rw [RL_arr]
  apply Array.ext_getElem?
  intro i
  by_cases hi : i < 16
  · rw [hf' i hi, rumC_get f hi]
  · rw [Array.getElem?_eq_none (by omega), Array.getElem?_eq_none (by show 16 ≤ i; omega)]
end
end Go.Proofs.Ytjjahefedpfnaaa
