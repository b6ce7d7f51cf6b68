import Derived.Test.YtjjahefedpfnaaaA1
namespace Go.Proofs.Ytjjahefedpfnaaa
open Go.RowKit
theorem isSome_union {p : Pid} {l : List Pid} : (look p (unionL [] l)).isSome = true ↔ p ∈ l := by
  rw [look_isSome, mem_unionL]; simp [keys]

end Go.Proofs.Ytjjahefedpfnaaa
