/- Parts of the proof: TZ5. -/
import Derived.Test.YtehagnbphamjhaaGreatDoorTZ4
namespace Go.Proofs.YtehagnbphamjhaaGreatDoor
open Go
theorem tz_h2 : ∀ os tape, (DataW.laidRun Tryz.prog (varsWorld Tryz.prog 400 (varsId Tryz.prog) os tape).memory 8 (tzL.map (·.1))).map (fun x => decide x.2.Nodup && laidRowsB Tryz.prog (varsWorld Tryz.prog 400 (varsId Tryz.prog) os tape).memory x.2) = some true := fun _ _ => by kernel_rfl
end Go.Proofs.YtehagnbphamjhaaGreatDoor

