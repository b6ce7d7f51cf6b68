import Derived.Test.YtidohmpnefcpcaaRows
import Derived.ChangeOld
import Derived.ShutString
import Derived.JoinedOf
namespace Go.Proofs.Ytidohmpnefcpcaa.HubPairProof
open Go.RowKit
theorem closed : joinedFacts Try.pinned.checked.prog 3 Try.f3 Rows.hubPairSpec Rows.hubPairRow = true := by kernel_rfl
end Go.Proofs.Ytidohmpnefcpcaa.HubPairProof
