/- Parts of the proof: TZ6. -/
import GoSem.ClaimGoes
import Derived.Test.YtehagnbphamjhaaGreatDoorPBn
namespace Go.Proofs.YtehagnbphamjhaaGreatDoor
open Go
theorem tz_go : Tryz.prog.funcs.any Func.goes = false := by kernel_rfl
theorem goes_none {P : Program} (h : P.funcs.any Func.goes = false) (f : FuncId) : P.goes f = false := by
  have h2 : ∀ g : FuncId, (P.funcs[g]?).any Func.goes = false := fun g => by
    cases hg : P.funcs[g]? with
    | none => rfl
    | some fn =>
      obtain ⟨hl, he⟩ := Array.getElem?_eq_some_iff.1 hg
      have := Array.any_eq_false.1 h g hl
      rw [he] at this
      simpa using this
  unfold Program.goes
  simp [h, h2]
theorem goesBy_none {P : Program} (h : P.funcs.any Func.goes = false) (c : OpenClaim) (hs : c.start = .entering) : false = c.goesBy P := by
  unfold OpenClaim.goesBy Program.goesAt Program.goesFrom
  rw [hs]
  cases P.funcNamed c.func <;> simp [goes_none h]
end Go.Proofs.YtehagnbphamjhaaGreatDoor

