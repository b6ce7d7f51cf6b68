/- Parts of the proof: PBn. -/
import Derived.Test.YtehagnbphamjhaaGreatDoorPBm
namespace Go.Proofs.YtehagnbphamjhaaGreatDoor
open Go Go.ChangeShapes Go.WideShapes Go.ChangeAt Go.RowKit
theorem playBack_j12 : (Rows.playBackRow.recurses == Tryz.pinned.checked.prog.recurses 6) = true := by kernel_rfl
theorem playBack_j13 : (Rows.playBackRow.named == Tryz.pinned.checked.prog.varsNamed 6) = true := by kernel_rfl
theorem playBack_vref (os : Os) : ((World.laidAll Tryz.prog os Rows.playBackRow.laid).forCall (fun _ _ => 0) ⟨#[], #[.slice none 0 0, .string ⟨#[]⟩], []⟩).variablesRefB Tryz.checked.prog = true := by kernel_rfl
theorem playBack_heap (os : Os) : (((World.laidAll Tryz.prog os Rows.playBackRow.laid).forCall (fun _ _ => 0) ⟨#[], #[.slice none 0 0, .string ⟨#[]⟩], []⟩).heap.toList.drop Tryz.checked.prog.globals.size).take ((begin Tryz.checked.prog (fun _ _ => 0) default).world.heap.size - Tryz.checked.prog.globals.size) = (begin Tryz.checked.prog (fun _ _ => 0) default).world.heap.toList.drop Tryz.checked.prog.globals.size := by kernel_rfl
theorem playBack_okw (os : Os) : Input.okWideB Tryz.checked.prog ((World.laidAll Tryz.prog os Rows.playBackRow.laid).forCall (fun _ _ => 0) ⟨#[], #[.slice none 0 0, .string ⟨#[]⟩], []⟩) 6 ⟨#[], #[.slice none 0 0, .string ⟨#[]⟩], []⟩ = true := by kernel_rfl
theorem playBack_fnm : Tryz.pinned.checked.prog.funcNamed Rows.playBackRow.func = some 6 := by kernel_rfl
theorem playBack_met (os : Os) : laidMet Tryz.prog Rows.playBackRow.laid ((World.laidAll Tryz.prog os Rows.playBackRow.laid).forCall (fun _ _ => 0) ⟨#[], #[.slice none 0 0, .string ⟨#[]⟩], []⟩).memory := laidMet_laidAll _ (by kernel_rfl) (by kernel_rfl)
end Go.Proofs.YtehagnbphamjhaaGreatDoor

