/- Parts of the proof: PPm. -/
import Derived.Test.YtehagnbphamjhaaGreatDoorGPlayBack37
namespace Go.Proofs.YtehagnbphamjhaaGreatDoor
open Go Go.ChangeShapes Go.WideShapes Go.ChangeAt Go.RowKit
theorem playParses_j1 : Rows.playParsesRow.wf (OpenSpec.ofChange (OpenSpec.ofChange Rows.playParsesSpec).bare) = true := by kernel_rfl
theorem playParses_j4 : (Tryz.f5.params.all (Tryz.pinned.checked.prog.readableRec ·)) = true := by kernel_rfl
theorem playParses_j5 : namedTie Tryz.pinned.checked.prog Rows.playParsesRow.named (OpenSpec.ofChange Rows.playParsesSpec).bare.vars = true := by kernel_rfl
theorem playParses_j6 : (Rows.playParsesRow.stops == []) = true := by kernel_rfl
theorem playParses_j8 : (Rows.playParsesRow.knobs == []) = true := by kernel_rfl
theorem playParses_j14 : (Rows.playParsesRow.maps == (Tryz.f5.params.toList ++ (OpenSpec.ofChange Rows.playParsesSpec).bare.plain.varTypes Tryz.pinned.checked.prog).any (Tryz.pinned.checked.prog.mapsRec ·)) = true := by kernel_rfl
theorem playParses_j15 : (Rows.playParsesRow.ifaces == (Tryz.f5.params.toList ++ (OpenSpec.ofChange Rows.playParsesSpec).bare.plain.varTypes Tryz.pinned.checked.prog).any (Tryz.pinned.checked.prog.ifacesRec ·)) = true := by kernel_rfl
theorem playParses_j16 : (Rows.playParsesRow.mapsOut == Tryz.pinned.checked.prog.mapsAmong Tryz.f5.resultTypes.toList) = true := by kernel_rfl
theorem playParses_j17 : (Rows.playParsesRow.loops == (Tryz.f5.params.toList ++ (OpenSpec.ofChange Rows.playParsesSpec).bare.plain.varTypes Tryz.pinned.checked.prog).any (Tryz.pinned.checked.prog.loopsFrom ·)) = true := by kernel_rfl
theorem playParses_j17b : (Rows.playParsesRow.wideKeys == (Tryz.f5.params.toList ++ (OpenSpec.ofChange Rows.playParsesSpec).bare.plain.varTypes Tryz.pinned.checked.prog ++ Tryz.f5.resultTypes.toList).any (Tryz.pinned.checked.prog.wideKeysFrom ·)) = true := by kernel_rfl
theorem playParses_j18 : ((OpenSpec.ofChange Rows.playParsesSpec).bare.vars.all (Tryz.pinned.checked.prog.varReadable ·)) = true := by kernel_rfl
theorem playParses_j19 : (Tryz.f5.resultTypes.all (fun t => Tryz.pinned.checked.prog.readableRec t && decide (t < Tryz.pinned.checked.prog.types.size))) = true := by kernel_rfl
theorem playParses_j20 : (Rows.playParsesRow.ifacesOut == Tryz.f5.resultTypes.toList.any (Tryz.pinned.checked.prog.ifacesRec ·)) = true := by kernel_rfl
theorem playParses_j21 : (Rows.playParsesRow.loopsOut == Tryz.f5.resultTypes.toList.any (Tryz.pinned.checked.prog.loopsFrom ·)) = true := by kernel_rfl
theorem playParses_j23 : Rows.playParsesRow.shortTexts.isNone = true := by kernel_rfl
theorem playParses_j10 : (Rows.playParsesRow.inPlace == Tryz.pinned.checked.prog.inPlace 5) = true := by kernel_rfl
theorem playParses_j11 : (Rows.playParsesRow.unfollowed == Tryz.pinned.checked.prog.unfollowed 5) = true := by kernel_rfl
theorem playParses_j22 : (Rows.playParsesRow.plainKeys == Tryz.pinned.checked.prog.plainKeys) = true := by kernel_rfl
theorem playParses_j24 : (Rows.playParsesRow.lifted == Tryz.pinned.checked.prog.liftsFinal) = true := by kernel_rfl
theorem playParses_j25 : (Tryz.pinned.checked.prog.make == some Rows.playParsesRow.make) = true := by kernel_rfl
theorem playParses_j26 : (Rows.playParsesRow.kinds == (if Rows.playParsesRow.domain.isEmpty then [] else Tryz.f5.params.toList.map fun t => match Tryz.pinned.checked.prog.underlying t with | some (.int k) => some k | _ => none)) = true := by kernel_rfl
theorem playParses_j27 : (Rows.playParsesRow.pinned == Rows.playParsesRow.pinnedBy) = true := by kernel_rfl
theorem playParses_j28 : (Rows.playParsesRow.veiled == (Tryz.f5.params.toList ++ (OpenSpec.ofChange Rows.playParsesSpec).bare.plain.varTypes Tryz.pinned.checked.prog ++ Tryz.f5.resultTypes.toList).any (Tryz.pinned.checked.prog.veiledRec ·)) = true := by kernel_rfl
theorem playParses_j29 : Rows.playParsesRow.veiledFits Tryz.pinned.checked.prog Tryz.f5.params.toList (Tryz.f5.params.toList ++ (OpenSpec.ofChange Rows.playParsesSpec).bare.plain.varTypes Tryz.pinned.checked.prog ++ Tryz.f5.resultTypes.toList) = true := by kernel_rfl
theorem playParses_wft : Rows.playParsesRow.wfByText (OpenSpec.ofChange Rows.playParsesSpec) = true := by kernel_rfl
end Go.Proofs.YtehagnbphamjhaaGreatDoor

