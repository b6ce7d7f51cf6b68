/- Parts of the proof: PSn. -/
import Derived.Test.YtehagnbphamjhaaGreatDoorPSm
namespace Go.Proofs.YtehagnbphamjhaaGreatDoor
open Go Go.ChangeShapes Go.WideShapes Go.ChangeAt Go.RowKit
theorem playStorms_j12 : (Rows.playStormsRow.recurses == Tryz.pinned.checked.prog.recurses 4) = true := by kernel_rfl
theorem playStorms_j13 : (Rows.playStormsRow.named == Tryz.pinned.checked.prog.varsNamed 4) = true := by kernel_rfl
theorem playStorms_vref (os : Os) : ((World.laidAll Tryz.prog os Rows.playStormsRow.laid).forCall (fun _ _ => 0) ⟨#[], #[.int .u64 0, .int .u8 0, .int .u8 0], []⟩).variablesRefB Tryz.checked.prog = true := by kernel_rfl
theorem playStorms_heap (os : Os) : (((World.laidAll Tryz.prog os Rows.playStormsRow.laid).forCall (fun _ _ => 0) ⟨#[], #[.int .u64 0, .int .u8 0, .int .u8 0], []⟩).heap.toList.drop Tryz.checked.prog.globals.size).take ((begin Tryz.checked.prog (fun _ _ => 0) default).world.heap.size - Tryz.checked.prog.globals.size) = (begin Tryz.checked.prog (fun _ _ => 0) default).world.heap.toList.drop Tryz.checked.prog.globals.size := by kernel_rfl
theorem playStorms_okw (os : Os) : Input.okWideB Tryz.checked.prog ((World.laidAll Tryz.prog os Rows.playStormsRow.laid).forCall (fun _ _ => 0) ⟨#[], #[.int .u64 0, .int .u8 0, .int .u8 0], []⟩) 4 ⟨#[], #[.int .u64 0, .int .u8 0, .int .u8 0], []⟩ = true := by kernel_rfl
theorem playStorms_fnm : Tryz.pinned.checked.prog.funcNamed Rows.playStormsRow.func = some 4 := by kernel_rfl
theorem playStorms_met (os : Os) : laidMet Tryz.prog Rows.playStormsRow.laid ((World.laidAll Tryz.prog os Rows.playStormsRow.laid).forCall (fun _ _ => 0) ⟨#[], #[.int .u64 0, .int .u8 0, .int .u8 0], []⟩).memory := laidMet_laidAll _ (by kernel_rfl) (by kernel_rfl)
end Go.Proofs.YtehagnbphamjhaaGreatDoor

