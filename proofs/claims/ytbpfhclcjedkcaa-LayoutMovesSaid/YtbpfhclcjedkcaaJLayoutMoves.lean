/- Parts of the proof: JLayoutMoves. -/
import Derived.Test.YtbpfhclcjedkcaaRows
import Derived.ChangeOld
import Derived.ShutString
import Derived.JoinedOf
namespace Go.Proofs.Ytbpfhclcjedkcaa.LayoutMovesProof
open Go.RowKit
theorem closed : joinedFacts Try.pinned.checked.prog 9 Try.f9 Rows.layoutMovesSpec Rows.layoutMovesRow = true := by kernel_rfl
end Go.Proofs.Ytbpfhclcjedkcaa.LayoutMovesProof

