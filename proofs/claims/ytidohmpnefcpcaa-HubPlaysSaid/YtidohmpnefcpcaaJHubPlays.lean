import Derived.Test.YtidohmpnefcpcaaRows
import Derived.ChangeOld
import Derived.ShutString
import Derived.JoinedOf
namespace Go.Proofs.Ytidohmpnefcpcaa.HubPlaysProof
open Go.RowKit
theorem closed : joinedFacts Try.pinned.checked.prog 4 Try.f4 Rows.hubPlaysSpec Rows.hubPlaysRow = true := by kernel_rfl
end Go.Proofs.Ytidohmpnefcpcaa.HubPlaysProof
