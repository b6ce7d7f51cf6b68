/- Parts of the proof: TZ3. -/
import Derived.Test.YtehagnbphamjhaaGreatDoorTZ2
namespace Go.Proofs.YtehagnbphamjhaaGreatDoor
open Go
theorem tz_d : ∀ os tape, varsDone Tryz.prog 400 (varsId Tryz.prog) os tape = true := fun _ _ => by kernel_rfl
end Go.Proofs.YtehagnbphamjhaaGreatDoor

