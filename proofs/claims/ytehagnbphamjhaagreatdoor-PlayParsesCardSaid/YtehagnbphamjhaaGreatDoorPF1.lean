/- Parts of the proof: PF1. -/
import Derived.Test.YtehagnbphamjhaaGreatDoorPF0
namespace Go.Proofs.YtehagnbphamjhaaGreatDoor
open Go Go.ChangeShapes Go.WideShapes Go.ChangeAt Go.RowKit
/-! ### closed facts that all rows share -/
theorem pf_own : ownKnob Tryz.prog.godebug = none := by kernel_rfl
theorem pf_mapsRowed : mapsRowed Tryz.pinned.checked.prog = true := by kernel_rfl
theorem pf_s2 : (Tryz.pinned.checked.prog.stops == []) = true := by kernel_rfl
theorem pf_s4 : (Tryz.pinned.checked.prog.stopKnobs == []) = true := by kernel_rfl
theorem pf_heard : Tryz.pinned.checked.prog.stopsHeard = true := by kernel_rfl
theorem pf_enter : Tryz.pinned.checked.prog.mayEnter = true := by kernel_rfl
theorem pf_main : Tryz.pinned.checked.prog.mainIs = some (true, "da2b24cb185f7814a18bf9ea4920a1aaf1488149ec416d87f7f1f59c3f10168d".toList) := by kernel_rfl
theorem pf_looks : true = Tryz.pinned.checked.prog.looks [] := by kernel_rfl
end Go.Proofs.YtehagnbphamjhaaGreatDoor

