import Derived.Test.YtbpfhclcjedkcaaRows
import Derived.ChangeOld
import Derived.ShutString
import Derived.JoinedOf
namespace Go.Proofs.Ytbpfhclcjedkcaa.LayoutStillProof
open Go.RowKit
theorem closed : joinedFacts Try.pinned.checked.prog 15 Try.f15 Rows.layoutStillSpec Rows.layoutStillRow = true := by kernel_rfl
end Go.Proofs.Ytbpfhclcjedkcaa.LayoutStillProof
