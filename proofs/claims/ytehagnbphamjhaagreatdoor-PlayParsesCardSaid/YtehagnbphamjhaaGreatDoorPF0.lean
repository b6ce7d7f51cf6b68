/- Parts of the proof: PF0. -/
import Derived.Test.YtehagnbphamjhaaGreatDoorRows
import Derived.Test.YtehagnbphamjhaaGreatDoorCards
import Derived.WalkKit
import Derived.ProofKit
import Derived.OpenShut
import Derived.ChangeOld
import Derived.Deep.DeepHandedRow
import Derived.Deep.DeepWitnessRowRef
import Derived.Lib.LaidTab
import Derived.Lay
import Derived.Stop.LaidErr
import Derived.Shelf.Vars
import Derived.ChangeMaps5
import Derived.JoinedCond
import Derived.SevenTiedAt
namespace Go.Proofs.YtehagnbphamjhaaGreatDoor
open Go Go.ChangeShapes Go.WideShapes Go.ChangeAt Go.RowKit
/-! ### a laid program: one closed fact -/
theorem pf_laidOut : laidOutB Tryz.prog = true := by kernel_rfl
end Go.Proofs.YtehagnbphamjhaaGreatDoor

