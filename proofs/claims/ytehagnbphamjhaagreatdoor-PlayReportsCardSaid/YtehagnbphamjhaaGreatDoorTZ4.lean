/- Parts of the proof: TZ4. -/
import Derived.Test.YtehagnbphamjhaaGreatDoorTZ3
namespace Go.Proofs.YtehagnbphamjhaaGreatDoor
open Go
theorem tz_h1 : ∀ os tape, (DataW.laidRun Tryz.prog (varsWorld Tryz.prog 400 (varsId Tryz.prog) os tape).memory 8 (tzL.map (·.1))).map (·.1) = some tzL := fun _ _ => by kernel_rfl
end Go.Proofs.YtehagnbphamjhaaGreatDoor

