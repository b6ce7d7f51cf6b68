/- Parts of the proof: PRb. -/
import Derived.Test.YtehagnbphamjhaaGreatDoorPRa
namespace Go.Proofs.YtehagnbphamjhaaGreatDoor
open Go Go.ChangeShapes Go.WideShapes Go.ChangeAt Go.RowKit
theorem playReports_j10 : (Rows.playReportsRow.inPlace == Tryz.pinned.checked.prog.inPlace 3) = true := by kernel_rfl
end Go.Proofs.YtehagnbphamjhaaGreatDoor

