/- Parts of the proof: PRa. -/
import Derived.Test.YtehagnbphamjhaaGreatDoorPF2
namespace Go.Proofs.YtehagnbphamjhaaGreatDoor
open Go Go.ChangeShapes Go.WideShapes Go.ChangeAt Go.RowKit
theorem playReports_j1 : Rows.playReportsRow.wf (OpenSpec.ofChange (OpenSpec.ofChange Rows.playReportsSpec).bare) = true := by kernel_rfl
theorem playReports_j4 : (Tryz.f3.params.all (Tryz.pinned.checked.prog.readableRec ·)) = true := by kernel_rfl
theorem playReports_j5 : namedTie Tryz.pinned.checked.prog Rows.playReportsRow.named (OpenSpec.ofChange Rows.playReportsSpec).bare.vars = true := by kernel_rfl
theorem playReports_j6 : (Rows.playReportsRow.stops == []) = true := by kernel_rfl
theorem playReports_j8 : (Rows.playReportsRow.knobs == []) = true := by kernel_rfl
theorem playReports_j14 : (Rows.playReportsRow.maps == (Tryz.f3.params.toList ++ (OpenSpec.ofChange Rows.playReportsSpec).bare.plain.varTypes Tryz.pinned.checked.prog).any (Tryz.pinned.checked.prog.mapsRec ·)) = true := by kernel_rfl
theorem playReports_j15 : (Rows.playReportsRow.ifaces == (Tryz.f3.params.toList ++ (OpenSpec.ofChange Rows.playReportsSpec).bare.plain.varTypes Tryz.pinned.checked.prog).any (Tryz.pinned.checked.prog.ifacesRec ·)) = true := by kernel_rfl
theorem playReports_j16 : (Rows.playReportsRow.mapsOut == Tryz.pinned.checked.prog.mapsAmong Tryz.f3.resultTypes.toList) = true := by kernel_rfl
theorem playReports_j17 : (Rows.playReportsRow.loops == (Tryz.f3.params.toList ++ (OpenSpec.ofChange Rows.playReportsSpec).bare.plain.varTypes Tryz.pinned.checked.prog).any (Tryz.pinned.checked.prog.loopsFrom ·)) = true := by kernel_rfl
theorem playReports_j17b : (Rows.playReportsRow.wideKeys == (Tryz.f3.params.toList ++ (OpenSpec.ofChange Rows.playReportsSpec).bare.plain.varTypes Tryz.pinned.checked.prog ++ Tryz.f3.resultTypes.toList).any (Tryz.pinned.checked.prog.wideKeysFrom ·)) = true := by kernel_rfl
theorem playReports_j18 : ((OpenSpec.ofChange Rows.playReportsSpec).bare.vars.all (Tryz.pinned.checked.prog.varReadable ·)) = true := by kernel_rfl
theorem playReports_j19 : (Tryz.f3.resultTypes.all (fun t => Tryz.pinned.checked.prog.readableRec t && decide (t < Tryz.pinned.checked.prog.types.size))) = true := by kernel_rfl
theorem playReports_j20 : (Rows.playReportsRow.ifacesOut == Tryz.f3.resultTypes.toList.any (Tryz.pinned.checked.prog.ifacesRec ·)) = true := by kernel_rfl
theorem playReports_j21 : (Rows.playReportsRow.loopsOut == Tryz.f3.resultTypes.toList.any (Tryz.pinned.checked.prog.loopsFrom ·)) = true := by kernel_rfl
theorem playReports_j23 : Rows.playReportsRow.shortTexts.isNone = true := by kernel_rfl
end Go.Proofs.YtehagnbphamjhaaGreatDoor

