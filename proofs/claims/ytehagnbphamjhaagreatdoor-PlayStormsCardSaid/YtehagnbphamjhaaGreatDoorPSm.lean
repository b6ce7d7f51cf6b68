/- Parts of the proof: PSm. -/
import Derived.Test.YtehagnbphamjhaaGreatDoorGPlayBack37
namespace Go.Proofs.YtehagnbphamjhaaGreatDoor
open Go Go.ChangeShapes Go.WideShapes Go.ChangeAt Go.RowKit
theorem playStorms_j1 : Rows.playStormsRow.wf (OpenSpec.ofChange (OpenSpec.ofChange Rows.playStormsSpec).bare) = true := by kernel_rfl
theorem playStorms_j4 : (Tryz.f4.params.all (Tryz.pinned.checked.prog.readableRec ·)) = true := by kernel_rfl
theorem playStorms_j5 : namedTie Tryz.pinned.checked.prog Rows.playStormsRow.named (OpenSpec.ofChange Rows.playStormsSpec).bare.vars = true := by kernel_rfl
theorem playStorms_j6 : (Rows.playStormsRow.stops == []) = true := by kernel_rfl
theorem playStorms_j8 : (Rows.playStormsRow.knobs == []) = true := by kernel_rfl
theorem playStorms_j14 : (Rows.playStormsRow.maps == (Tryz.f4.params.toList ++ (OpenSpec.ofChange Rows.playStormsSpec).bare.plain.varTypes Tryz.pinned.checked.prog).any (Tryz.pinned.checked.prog.mapsRec ·)) = true := by kernel_rfl
theorem playStorms_j15 : (Rows.playStormsRow.ifaces == (Tryz.f4.params.toList ++ (OpenSpec.ofChange Rows.playStormsSpec).bare.plain.varTypes Tryz.pinned.checked.prog).any (Tryz.pinned.checked.prog.ifacesRec ·)) = true := by kernel_rfl
theorem playStorms_j16 : (Rows.playStormsRow.mapsOut == Tryz.pinned.checked.prog.mapsAmong Tryz.f4.resultTypes.toList) = true := by kernel_rfl
theorem playStorms_j17 : (Rows.playStormsRow.loops == (Tryz.f4.params.toList ++ (OpenSpec.ofChange Rows.playStormsSpec).bare.plain.varTypes Tryz.pinned.checked.prog).any (Tryz.pinned.checked.prog.loopsFrom ·)) = true := by kernel_rfl
theorem playStorms_j17b : (Rows.playStormsRow.wideKeys == (Tryz.f4.params.toList ++ (OpenSpec.ofChange Rows.playStormsSpec).bare.plain.varTypes Tryz.pinned.checked.prog ++ Tryz.f4.resultTypes.toList).any (Tryz.pinned.checked.prog.wideKeysFrom ·)) = true := by kernel_rfl
theorem playStorms_j18 : ((OpenSpec.ofChange Rows.playStormsSpec).bare.vars.all (Tryz.pinned.checked.prog.varReadable ·)) = true := by kernel_rfl
theorem playStorms_j19 : (Tryz.f4.resultTypes.all (fun t => Tryz.pinned.checked.prog.readableRec t && decide (t < Tryz.pinned.checked.prog.types.size))) = true := by kernel_rfl
theorem playStorms_j20 : (Rows.playStormsRow.ifacesOut == Tryz.f4.resultTypes.toList.any (Tryz.pinned.checked.prog.ifacesRec ·)) = true := by kernel_rfl
theorem playStorms_j21 : (Rows.playStormsRow.loopsOut == Tryz.f4.resultTypes.toList.any (Tryz.pinned.checked.prog.loopsFrom ·)) = true := by kernel_rfl
theorem playStorms_j23 : Rows.playStormsRow.shortTexts.isNone = true := by kernel_rfl
theorem playStorms_j10 : (Rows.playStormsRow.inPlace == Tryz.pinned.checked.prog.inPlace 4) = true := by kernel_rfl
theorem playStorms_j11 : (Rows.playStormsRow.unfollowed == Tryz.pinned.checked.prog.unfollowed 4) = true := by kernel_rfl
theorem playStorms_j22 : (Rows.playStormsRow.plainKeys == Tryz.pinned.checked.prog.plainKeys) = true := by kernel_rfl
theorem playStorms_j24 : (Rows.playStormsRow.lifted == Tryz.pinned.checked.prog.liftsFinal) = true := by kernel_rfl
theorem playStorms_j25 : (Tryz.pinned.checked.prog.make == some Rows.playStormsRow.make) = true := by kernel_rfl
theorem playStorms_j26 : (Rows.playStormsRow.kinds == (if Rows.playStormsRow.domain.isEmpty then [] else Tryz.f4.params.toList.map fun t => match Tryz.pinned.checked.prog.underlying t with | some (.int k) => some k | _ => none)) = true := by kernel_rfl
theorem playStorms_j27 : (Rows.playStormsRow.pinned == Rows.playStormsRow.pinnedBy) = true := by kernel_rfl
theorem playStorms_j28 : (Rows.playStormsRow.veiled == (Tryz.f4.params.toList ++ (OpenSpec.ofChange Rows.playStormsSpec).bare.plain.varTypes Tryz.pinned.checked.prog ++ Tryz.f4.resultTypes.toList).any (Tryz.pinned.checked.prog.veiledRec ·)) = true := by kernel_rfl
theorem playStorms_j29 : Rows.playStormsRow.veiledFits Tryz.pinned.checked.prog Tryz.f4.params.toList (Tryz.f4.params.toList ++ (OpenSpec.ofChange Rows.playStormsSpec).bare.plain.varTypes Tryz.pinned.checked.prog ++ Tryz.f4.resultTypes.toList) = true := by kernel_rfl
theorem playStorms_wft : Rows.playStormsRow.wfByText (OpenSpec.ofChange Rows.playStormsSpec) = true := by kernel_rfl
end Go.Proofs.YtehagnbphamjhaaGreatDoor

