import Derived.Test.YtidohmpnefcpcaaRows
import Derived.ChangeOld
import Derived.ShutString
import Derived.JoinedOf
namespace Go.Proofs.Ytidohmpnefcpcaa.HubNilProof
open Go.RowKit
theorem closed : joinedFacts Try.pinned.checked.prog 5 Try.f5 Rows.hubNilSpec Rows.hubNilRow = true := by kernel_rfl
end Go.Proofs.Ytidohmpnefcpcaa.HubNilProof
