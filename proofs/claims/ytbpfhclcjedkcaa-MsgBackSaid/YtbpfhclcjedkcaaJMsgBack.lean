/- Parts of the proof: JMsgBack. -/
import Derived.Test.YtbpfhclcjedkcaaRows
import Derived.ChangeOld
import Derived.ShutString
import Derived.JoinedOf
namespace Go.Proofs.Ytbpfhclcjedkcaa.MsgBackProof
open Go.RowKit
theorem closed : joinedFacts Try.pinned.checked.prog 7 Try.f7 Rows.msgBackSpec Rows.msgBackRow = true := by kernel_rfl
end Go.Proofs.Ytbpfhclcjedkcaa.MsgBackProof

