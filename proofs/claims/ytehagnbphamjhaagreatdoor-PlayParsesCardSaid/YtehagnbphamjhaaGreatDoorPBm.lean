/- Parts of the proof: PBm. -/
import Derived.Test.YtehagnbphamjhaaGreatDoorPF2
namespace Go.Proofs.YtehagnbphamjhaaGreatDoor
open Go Go.ChangeShapes Go.WideShapes Go.ChangeAt Go.RowKit
theorem playBack_j1 : Rows.playBackRow.wf (OpenSpec.ofChange (OpenSpec.ofChange Rows.playBackSpec).bare) = true := by kernel_rfl
theorem playBack_j4 : (Tryz.f6.params.all (Tryz.pinned.checked.prog.readableRec ·)) = true := by kernel_rfl
theorem playBack_j5 : namedTie Tryz.pinned.checked.prog Rows.playBackRow.named (OpenSpec.ofChange Rows.playBackSpec).bare.vars = true := by kernel_rfl
theorem playBack_j6 : (Rows.playBackRow.stops == []) = true := by kernel_rfl
theorem playBack_j8 : (Rows.playBackRow.knobs == []) = true := by kernel_rfl
theorem playBack_j14 : (Rows.playBackRow.maps == (Tryz.f6.params.toList ++ (OpenSpec.ofChange Rows.playBackSpec).bare.plain.varTypes Tryz.pinned.checked.prog).any (Tryz.pinned.checked.prog.mapsRec ·)) = true := by kernel_rfl
theorem playBack_j15 : (Rows.playBackRow.ifaces == (Tryz.f6.params.toList ++ (OpenSpec.ofChange Rows.playBackSpec).bare.plain.varTypes Tryz.pinned.checked.prog).any (Tryz.pinned.checked.prog.ifacesRec ·)) = true := by kernel_rfl
theorem playBack_j16 : (Rows.playBackRow.mapsOut == Tryz.pinned.checked.prog.mapsAmong Tryz.f6.resultTypes.toList) = true := by kernel_rfl
theorem playBack_j17 : (Rows.playBackRow.loops == (Tryz.f6.params.toList ++ (OpenSpec.ofChange Rows.playBackSpec).bare.plain.varTypes Tryz.pinned.checked.prog).any (Tryz.pinned.checked.prog.loopsFrom ·)) = true := by kernel_rfl
theorem playBack_j17b : (Rows.playBackRow.wideKeys == (Tryz.f6.params.toList ++ (OpenSpec.ofChange Rows.playBackSpec).bare.plain.varTypes Tryz.pinned.checked.prog ++ Tryz.f6.resultTypes.toList).any (Tryz.pinned.checked.prog.wideKeysFrom ·)) = true := by kernel_rfl
theorem playBack_j18 : ((OpenSpec.ofChange Rows.playBackSpec).bare.vars.all (Tryz.pinned.checked.prog.varReadable ·)) = true := by kernel_rfl
theorem playBack_j19 : (Tryz.f6.resultTypes.all (fun t => Tryz.pinned.checked.prog.readableRec t && decide (t < Tryz.pinned.checked.prog.types.size))) = true := by kernel_rfl
theorem playBack_j20 : (Rows.playBackRow.ifacesOut == Tryz.f6.resultTypes.toList.any (Tryz.pinned.checked.prog.ifacesRec ·)) = true := by kernel_rfl
theorem playBack_j21 : (Rows.playBackRow.loopsOut == Tryz.f6.resultTypes.toList.any (Tryz.pinned.checked.prog.loopsFrom ·)) = true := by kernel_rfl
theorem playBack_j23 : Rows.playBackRow.shortTexts.isNone = true := by kernel_rfl
theorem playBack_j10 : (Rows.playBackRow.inPlace == Tryz.pinned.checked.prog.inPlace 6) = true := by kernel_rfl
theorem playBack_j11 : (Rows.playBackRow.unfollowed == Tryz.pinned.checked.prog.unfollowed 6) = true := by kernel_rfl
theorem playBack_j22 : (Rows.playBackRow.plainKeys == Tryz.pinned.checked.prog.plainKeys) = true := by kernel_rfl
theorem playBack_j24 : (Rows.playBackRow.lifted == Tryz.pinned.checked.prog.liftsFinal) = true := by kernel_rfl
theorem playBack_j25 : (Tryz.pinned.checked.prog.make == some Rows.playBackRow.make) = true := by kernel_rfl
theorem playBack_j26 : (Rows.playBackRow.kinds == (if Rows.playBackRow.domain.isEmpty then [] else Tryz.f6.params.toList.map fun t => match Tryz.pinned.checked.prog.underlying t with | some (.int k) => some k | _ => none)) = true := by kernel_rfl
theorem playBack_j27 : (Rows.playBackRow.pinned == Rows.playBackRow.pinnedBy) = true := by kernel_rfl
theorem playBack_j28 : (Rows.playBackRow.veiled == (Tryz.f6.params.toList ++ (OpenSpec.ofChange Rows.playBackSpec).bare.plain.varTypes Tryz.pinned.checked.prog ++ Tryz.f6.resultTypes.toList).any (Tryz.pinned.checked.prog.veiledRec ·)) = true := by kernel_rfl
theorem playBack_j29 : Rows.playBackRow.veiledFits Tryz.pinned.checked.prog Tryz.f6.params.toList (Tryz.f6.params.toList ++ (OpenSpec.ofChange Rows.playBackSpec).bare.plain.varTypes Tryz.pinned.checked.prog ++ Tryz.f6.resultTypes.toList) = true := by kernel_rfl
theorem playBack_wft : Rows.playBackRow.wfByText (OpenSpec.ofChange Rows.playBackSpec) = true := by kernel_rfl
end Go.Proofs.YtehagnbphamjhaaGreatDoor

