/- Parts of the proof: PRc. -/
import Derived.Test.YtehagnbphamjhaaGreatDoorPRb
namespace Go.Proofs.YtehagnbphamjhaaGreatDoor
open Go Go.ChangeShapes Go.WideShapes Go.ChangeAt Go.RowKit
theorem playReports_j11 : (Rows.playReportsRow.unfollowed == Tryz.pinned.checked.prog.unfollowed 3) = true := by kernel_rfl
end Go.Proofs.YtehagnbphamjhaaGreatDoor

