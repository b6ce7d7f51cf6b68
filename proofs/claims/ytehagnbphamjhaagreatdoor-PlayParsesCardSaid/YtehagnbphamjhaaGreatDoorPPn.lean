/- Parts of the proof: PPn. -/
import Derived.Test.YtehagnbphamjhaaGreatDoorPPm
namespace Go.Proofs.YtehagnbphamjhaaGreatDoor
open Go Go.ChangeShapes Go.WideShapes Go.ChangeAt Go.RowKit
theorem playParses_j12 : (Rows.playParsesRow.recurses == Tryz.pinned.checked.prog.recurses 5) = true := by kernel_rfl
theorem playParses_j13 : (Rows.playParsesRow.named == Tryz.pinned.checked.prog.varsNamed 5) = true := by kernel_rfl
theorem playParses_vref (os : Os) : ((World.laidAll Tryz.prog os Rows.playParsesRow.laid).forCall (fun _ _ => 0) ⟨#[], #[.string ⟨#[]⟩], []⟩).variablesRefB Tryz.checked.prog = true := by kernel_rfl
theorem playParses_heap (os : Os) : (((World.laidAll Tryz.prog os Rows.playParsesRow.laid).forCall (fun _ _ => 0) ⟨#[], #[.string ⟨#[]⟩], []⟩).heap.toList.drop Tryz.checked.prog.globals.size).take ((begin Tryz.checked.prog (fun _ _ => 0) default).world.heap.size - Tryz.checked.prog.globals.size) = (begin Tryz.checked.prog (fun _ _ => 0) default).world.heap.toList.drop Tryz.checked.prog.globals.size := by kernel_rfl
theorem playParses_okw (os : Os) : Input.okWideB Tryz.checked.prog ((World.laidAll Tryz.prog os Rows.playParsesRow.laid).forCall (fun _ _ => 0) ⟨#[], #[.string ⟨#[]⟩], []⟩) 5 ⟨#[], #[.string ⟨#[]⟩], []⟩ = true := by kernel_rfl
theorem playParses_fnm : Tryz.pinned.checked.prog.funcNamed Rows.playParsesRow.func = some 5 := by kernel_rfl
theorem playParses_met (os : Os) : laidMet Tryz.prog Rows.playParsesRow.laid ((World.laidAll Tryz.prog os Rows.playParsesRow.laid).forCall (fun _ _ => 0) ⟨#[], #[.string ⟨#[]⟩], []⟩).memory := laidMet_laidAll _ (by kernel_rfl) (by kernel_rfl)
end Go.Proofs.YtehagnbphamjhaaGreatDoor

