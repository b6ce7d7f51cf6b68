import Derived.Test.YtbpfhclcjedkcaaRows
import Derived.ChangeOld
import Derived.ShutString
import Derived.JoinedOf
namespace Go.Proofs.Ytbpfhclcjedkcaa.ViewLocalsProof
open Go.RowKit
theorem closed : joinedFacts Try.pinned.checked.prog 3 Try.f3 Rows.viewLocalsSpec Rows.viewLocalsRow = true := by kernel_rfl
end Go.Proofs.Ytbpfhclcjedkcaa.ViewLocalsProof
