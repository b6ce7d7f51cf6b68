/- Parts of the proof: PRh. -/
import Derived.Test.YtehagnbphamjhaaGreatDoorPRg
namespace Go.Proofs.YtehagnbphamjhaaGreatDoor
open Go Go.ChangeShapes Go.WideShapes Go.ChangeAt Go.RowKit
theorem playReports_heap (os : Os) : (((World.laidAll Tryz.prog os Rows.playReportsRow.laid).forCall (fun _ _ => 0) ⟨#[], #[.slice none 0 0], []⟩).heap.toList.drop Tryz.checked.prog.globals.size).take ((begin Tryz.checked.prog (fun _ _ => 0) default).world.heap.size - Tryz.checked.prog.globals.size) = (begin Tryz.checked.prog (fun _ _ => 0) default).world.heap.toList.drop Tryz.checked.prog.globals.size := by kernel_rfl
theorem playReports_okw (os : Os) : Input.okWideB Tryz.checked.prog ((World.laidAll Tryz.prog os Rows.playReportsRow.laid).forCall (fun _ _ => 0) ⟨#[], #[.slice none 0 0], []⟩) 3 ⟨#[], #[.slice none 0 0], []⟩ = true := by kernel_rfl
theorem playReports_fnm : Tryz.pinned.checked.prog.funcNamed Rows.playReportsRow.func = some 3 := by kernel_rfl
end Go.Proofs.YtehagnbphamjhaaGreatDoor

