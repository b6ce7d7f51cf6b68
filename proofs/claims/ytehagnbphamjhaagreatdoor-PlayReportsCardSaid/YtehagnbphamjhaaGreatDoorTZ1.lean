/- Parts of the proof: TZ1. -/
import Derived.Test.YtehagnbphamjhaaGreatDoorTZ6
namespace Go.Proofs.YtehagnbphamjhaaGreatDoor
open Go
theorem tz_w : Tryz.prog.worded (varsWordLater true) = true := by kernel_rfl
theorem tz_w2 : Tryz.prog.worded (varsWordLater !true) = false := by kernel_rfl
theorem tz_root : Tryz.prog.worded rootWordLater = true := by kernel_rfl
theorem tz_k : tzL.map (fun x => Tryz.prog.kindOfLater x.1) = tzK.map some := by kernel_rfl
theorem tz_g : (Tryz.prog.funcNamed "gosem.cut.vars").isSome = true := by kernel_rfl
end Go.Proofs.YtehagnbphamjhaaGreatDoor

