/- Parts of the proof: R2. -/
import Derived.Test.YtehagnbphamjhaaGreatDoorGPlayBack6
namespace Go.Proofs.YtehagnbphamjhaaGreatDoor
open Go.RowKit

section
variable {w : World} {b : Nat} {V : View} {am al ad : Option Addr} {cm cl cd : Nat}
end

theorem cell_extw {w : World} {a : Addr} {v : Value} (h : w.cell? a = some v) : ∀ U : ExtW w, U.W.cell? a = some v := fun U => (U.h.cell (World.block_lt_of_cell? w _ h)).trans h
theorem cell_to {w wr : World} {a : Addr} {v : Value} (h : w.cell? a = some v) (hb : Below w.heap.size w wr) : wr.cell? a = some v := (hb.cell (World.block_lt_of_cell? w _ h)).trans h
end Go.Proofs.YtehagnbphamjhaaGreatDoor

