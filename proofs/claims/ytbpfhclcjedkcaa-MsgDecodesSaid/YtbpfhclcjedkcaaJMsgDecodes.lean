/- Parts of the proof: JMsgDecodes. -/
import Derived.Test.YtbpfhclcjedkcaaRows
import Derived.ChangeOld
import Derived.ShutString
import Derived.JoinedOf
namespace Go.Proofs.Ytbpfhclcjedkcaa.MsgDecodesProof
open Go.RowKit
theorem closed : joinedFacts Try.pinned.checked.prog 6 Try.f6 Rows.msgDecodesSpec Rows.msgDecodesRow = true := by kernel_rfl
end Go.Proofs.Ytbpfhclcjedkcaa.MsgDecodesProof

