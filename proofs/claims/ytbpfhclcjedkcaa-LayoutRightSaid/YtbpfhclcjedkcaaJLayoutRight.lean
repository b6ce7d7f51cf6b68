import Derived.Test.YtbpfhclcjedkcaaRows
import Derived.ChangeOld
import Derived.ShutString
import Derived.JoinedOf
namespace Go.Proofs.Ytbpfhclcjedkcaa.LayoutRightProof
open Go.RowKit
theorem closed : joinedFacts Try.pinned.checked.prog 14 Try.f14 Rows.layoutRightSpec Rows.layoutRightRow = true := by kernel_rfl
end Go.Proofs.Ytbpfhclcjedkcaa.LayoutRightProof
