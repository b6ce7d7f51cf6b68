import Derived.Test.YtbpfhclcjedkcaaRows
import Derived.ChangeOld
import Derived.ShutString
import Derived.JoinedOf
namespace Go.Proofs.Ytbpfhclcjedkcaa.LayoutFirstsProof
open Go.RowKit
theorem closed : joinedFacts Try.pinned.checked.prog 13 Try.f13 Rows.layoutFirstsSpec Rows.layoutFirstsRow = true := by kernel_rfl
end Go.Proofs.Ytbpfhclcjedkcaa.LayoutFirstsProof
