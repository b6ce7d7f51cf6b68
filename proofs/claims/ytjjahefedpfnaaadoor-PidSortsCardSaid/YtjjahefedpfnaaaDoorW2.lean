import Derived.Test.YtjjahefedpfnaaaDoorW1
namespace Go.Proofs.YtjjahefedpfnaaaDoor
open Go.RowKit

theorem atFrom_neg {p : Pid} : ∀ {xs : List Pid} {k : Nat}, atFrom p xs k < 0 ↔ p ∉ xs
  | [], _ => by simp [atFrom]
  | x :: xs, k => by
    unfold atFrom
    split
    · next h => simp [h]
    · next h =>
      rw [atFrom_neg]
      have h' : ¬ p = x := fun e => h e.symm
      simp [h']
theorem atIx_nonneg {p : Pid} {xs : List Pid} : decide (0 ≤ atIx xs p) = decide (p ∈ xs) := by
  have := atFrom_neg (p := p) (xs := xs) (k := 0)
  unfold atIx
  by_cases h : p ∈ xs <;> simp [h] <;> simp [h] at this <;> omega

/-- the first list of ls that holds p -/
def leafFrom (p : Pid) : List (List Pid) → Nat → Int
  | [], _ => -1
  | x :: xs, k => if p ∈ x then k else leafFrom p xs (k + 1)
def leafIx (ls : List (List Pid)) (p : Pid) : Int := leafFrom p ls 0
theorem leafFrom_drop {xs : List (List Pid)} {k : Nat} (h : k < xs.length) (p : Pid) : leafFrom p (xs.drop k) k = if p ∈ xs[k] then (k : Int) else leafFrom p (xs.drop (k + 1)) (k + 1) := by
  rw [List.drop_eq_getElem_cons h]; rfl
theorem leafFrom_end {xs : List (List Pid)} {k : Nat} (h : xs.length ≤ k) (p : Pid) : leafFrom p (xs.drop k) k = -1 := by
  rw [List.drop_eq_nil_of_le h]; rfl

end Go.Proofs.YtjjahefedpfnaaaDoor
