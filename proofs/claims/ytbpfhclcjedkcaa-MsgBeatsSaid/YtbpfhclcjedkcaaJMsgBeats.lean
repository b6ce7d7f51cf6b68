/- Parts of the proof: JMsgBeats. -/
import Derived.Test.YtbpfhclcjedkcaaRows
import Derived.ChangeOld
import Derived.ShutString
import Derived.JoinedOf
namespace Go.Proofs.Ytbpfhclcjedkcaa.MsgBeatsProof
open Go.RowKit
theorem closed : joinedFacts Try.pinned.checked.prog 5 Try.f5 Rows.msgBeatsSpec Rows.msgBeatsRow = true := by kernel_rfl
end Go.Proofs.Ytbpfhclcjedkcaa.MsgBeatsProof

