/- Parts of the proof: PRg. -/
import Derived.Test.YtehagnbphamjhaaGreatDoorPRf
namespace Go.Proofs.YtehagnbphamjhaaGreatDoor
open Go Go.ChangeShapes Go.WideShapes Go.ChangeAt Go.RowKit
theorem playReports_vref (os : Os) : ((World.laidAll Tryz.prog os Rows.playReportsRow.laid).forCall (fun _ _ => 0) ⟨#[], #[.slice none 0 0], []⟩).variablesRefB Tryz.checked.prog = true := by kernel_rfl
end Go.Proofs.YtehagnbphamjhaaGreatDoor

