/- Parts of the proof: TZ2. -/
import Derived.Test.YtehagnbphamjhaaGreatDoorTZ1
namespace Go.Proofs.YtehagnbphamjhaaGreatDoor
open Go
theorem tz_n : varsNamedLaterB Tryz.prog (varsId Tryz.prog) tzL = true := by kernel_rfl
end Go.Proofs.YtehagnbphamjhaaGreatDoor

