/- Parts of the proof: PRe. -/
import Derived.Test.YtehagnbphamjhaaGreatDoorPRd
namespace Go.Proofs.YtehagnbphamjhaaGreatDoor
open Go Go.ChangeShapes Go.WideShapes Go.ChangeAt Go.RowKit
theorem playReports_j13 : (Rows.playReportsRow.named == Tryz.pinned.checked.prog.varsNamed 3) = true := by kernel_rfl
end Go.Proofs.YtehagnbphamjhaaGreatDoor

