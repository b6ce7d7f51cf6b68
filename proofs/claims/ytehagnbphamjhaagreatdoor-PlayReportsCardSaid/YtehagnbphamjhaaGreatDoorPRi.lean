/- Parts of the proof: PRi. -/
import Derived.Test.YtehagnbphamjhaaGreatDoorPRh
namespace Go.Proofs.YtehagnbphamjhaaGreatDoor
open Go Go.ChangeShapes Go.WideShapes Go.ChangeAt Go.RowKit
theorem playReports_met (os : Os) : laidMet Tryz.prog Rows.playReportsRow.laid ((World.laidAll Tryz.prog os Rows.playReportsRow.laid).forCall (fun _ _ => 0) ⟨#[], #[.slice none 0 0], []⟩).memory := laidMet_laidAll _ (by kernel_rfl) (by kernel_rfl)
end Go.Proofs.YtehagnbphamjhaaGreatDoor

