/- Parts of the proof: JMsgWhole. -/
import Derived.Test.YtbpfhclcjedkcaaRows
import Derived.ChangeOld
import Derived.ShutString
import Derived.JoinedOf
namespace Go.Proofs.Ytbpfhclcjedkcaa.MsgWholeProof
open Go.RowKit
theorem closed : joinedFacts Try.pinned.checked.prog 8 Try.f8 Rows.msgWholeSpec Rows.msgWholeRow = true := by kernel_rfl
end Go.Proofs.Ytbpfhclcjedkcaa.MsgWholeProof

