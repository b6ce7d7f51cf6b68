import Derived.Test.YtcdpaflmofljaaaGreatRows
import Derived.ChangeOld
import Derived.ShutString
import Derived.JoinedOf
namespace Go.Proofs.YtcdpaflmofljaaaGreat.NodeNilProof
open Go.RowKit
theorem closed : joinedFacts Tryz.pinned.checked.prog 6 Tryz.f6 Rows.nodeNilSpec Rows.nodeNilRow = true := by kernel_rfl
end Go.Proofs.YtcdpaflmofljaaaGreat.NodeNilProof
