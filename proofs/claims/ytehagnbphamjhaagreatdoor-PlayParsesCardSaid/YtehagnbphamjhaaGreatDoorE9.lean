/- Parts of the proof: E9. -/
import Derived.Test.YtehagnbphamjhaaGreatDoorGPlayBack24
namespace Go.Proofs.YtehagnbphamjhaaGreatDoor
open Go.RowKit
theorem leafA_is {V : View} {am al ad : Option Addr} {cm cl cd : Nat} {x y : Int} {w : World} {A : Int} (h : Hid (leafIx V.ls (x, y) = A)) (hV : ViewR w am al ad V) :
   Calls Tryz.prog 324 #[viewV V am al ad cm cl cd, .agg #[.int .u16 x, .int .u32 y]] w fun e w' => e = .returned (.int .i64 A) ∧ Below w.heap.size w w' := by
  have := leaf_any V am al ad cm cl cd x y w hV
  rw [h.out] at this
  exact this
end Go.Proofs.YtehagnbphamjhaaGreatDoor

