/- Parts of the proof: PRd. -/
import Derived.Test.YtehagnbphamjhaaGreatDoorPRc
namespace Go.Proofs.YtehagnbphamjhaaGreatDoor
open Go Go.ChangeShapes Go.WideShapes Go.ChangeAt Go.RowKit
theorem playReports_j12 : (Rows.playReportsRow.recurses == Tryz.pinned.checked.prog.recurses 3) = true := by kernel_rfl
end Go.Proofs.YtehagnbphamjhaaGreatDoor

