/- Parts of the proof: PRf. -/
import Derived.Test.YtehagnbphamjhaaGreatDoorPRe
namespace Go.Proofs.YtehagnbphamjhaaGreatDoor
open Go Go.ChangeShapes Go.WideShapes Go.ChangeAt Go.RowKit
theorem playReports_j22 : (Rows.playReportsRow.plainKeys == Tryz.pinned.checked.prog.plainKeys) = true := by kernel_rfl
theorem playReports_j24 : (Rows.playReportsRow.lifted == Tryz.pinned.checked.prog.liftsFinal) = true := by kernel_rfl
theorem playReports_j25 : (Tryz.pinned.checked.prog.make == some Rows.playReportsRow.make) = true := by kernel_rfl
theorem playReports_j26 : (Rows.playReportsRow.kinds == (if Rows.playReportsRow.domain.isEmpty then [] else Tryz.f3.params.toList.map fun t => match Tryz.pinned.checked.prog.underlying t with | some (.int k) => some k | _ => none)) = true := by kernel_rfl
theorem playReports_j27 : (Rows.playReportsRow.pinned == Rows.playReportsRow.pinnedBy) = true := by kernel_rfl
theorem playReports_j28 : (Rows.playReportsRow.veiled == (Tryz.f3.params.toList ++ (OpenSpec.ofChange Rows.playReportsSpec).bare.plain.varTypes Tryz.pinned.checked.prog ++ Tryz.f3.resultTypes.toList).any (Tryz.pinned.checked.prog.veiledRec ·)) = true := by kernel_rfl
theorem playReports_j29 : Rows.playReportsRow.veiledFits Tryz.pinned.checked.prog Tryz.f3.params.toList (Tryz.f3.params.toList ++ (OpenSpec.ofChange Rows.playReportsSpec).bare.plain.varTypes Tryz.pinned.checked.prog ++ Tryz.f3.resultTypes.toList) = true := by kernel_rfl
theorem playReports_wft : Rows.playReportsRow.wfByText (OpenSpec.ofChange Rows.playReportsSpec) = true := by kernel_rfl
end Go.Proofs.YtehagnbphamjhaaGreatDoor

