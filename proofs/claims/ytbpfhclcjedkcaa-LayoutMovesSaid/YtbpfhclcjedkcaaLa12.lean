/- Parts of the proof: X18. -/
import Derived.Test.YtbpfhclcjedkcaaLa10
import Derived.Test.YtbpfhclcjedkcaaX16
namespace Go.Proofs.Ytbpfhclcjedkcaa
open Go.RowKit
theorem OwnP.mono2 {w : World} {b b' : Nat} {v : Value} {xs : List Pid} (h : OwnP w b v xs) (hb : b' ≤ b) : OwnP w b' v xs := by
  refine ⟨h.1, ?_⟩
  rcases h.2 with hn | ⟨g, cap, cur, rfl, hbb, rest⟩
  · exact .inl hn
  · exact .inr ⟨g, cap, cur, rfl, Nat.le_trans hb hbb, rest⟩
end Go.Proofs.Ytbpfhclcjedkcaa

