import Derived.Test.YtbpfhclcjedkcaaRows
import Derived.ChangeOld
import Derived.ShutString
import Derived.JoinedOf
namespace Go.Proofs.Ytbpfhclcjedkcaa.LayoutGrowsProof
open Go.RowKit
theorem closed : joinedFacts Try.pinned.checked.prog 16 Try.f16 Rows.layoutGrowsSpec Rows.layoutGrowsRow = true := by kernel_rfl
end Go.Proofs.Ytbpfhclcjedkcaa.LayoutGrowsProof
