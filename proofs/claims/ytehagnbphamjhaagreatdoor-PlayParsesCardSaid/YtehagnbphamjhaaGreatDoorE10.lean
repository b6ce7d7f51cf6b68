/- Parts of the proof: E10. -/
import Derived.Test.YtehagnbphamjhaaGreatDoorE9
namespace Go.Proofs.YtehagnbphamjhaaGreatDoor
open Go.RowKit
theorem hasV_is {V : View} {am al ad : Option Addr} {cm cl cd : Nat} {x y : Int} {w : World} {b : Bool} (h : Hid (decide ((x, y) ∈ V.ms) = b)) (hV : ViewR w am al ad V) :
   Calls Tryz.prog 104 #[viewV V am al ad cm cl cd, .agg #[.int .u16 x, .int .u32 y]] w fun e w' => e = .returned (.bool b) ∧ Below w.heap.size w w' := by
  have := hasView_any V am al ad cm cl cd x y w hV
  rw [h.out] at this
  exact this
end Go.Proofs.YtehagnbphamjhaaGreatDoor

