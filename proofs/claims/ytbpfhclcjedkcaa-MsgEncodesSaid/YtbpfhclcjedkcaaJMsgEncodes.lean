import Derived.Test.YtbpfhclcjedkcaaRows
import Derived.ChangeOld
import Derived.ShutString
import Derived.JoinedOf
namespace Go.Proofs.Ytbpfhclcjedkcaa.MsgEncodesProof
open Go.RowKit
theorem closed : joinedFacts Try.pinned.checked.prog 4 Try.f4 Rows.msgEncodesSpec Rows.msgEncodesRow = true := by kernel_rfl
end Go.Proofs.Ytbpfhclcjedkcaa.MsgEncodesProof
