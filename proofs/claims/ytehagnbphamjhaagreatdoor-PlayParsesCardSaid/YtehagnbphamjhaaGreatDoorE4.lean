/- Parts of the proof: E4. -/
import Derived.Test.YtehagnbphamjhaaGreatDoorE3
namespace Go.Proofs.YtehagnbphamjhaaGreatDoor
open Go.RowKit
/-- a block of two cells that may be written -/
structure Box2 (w : World) (b : Nat) (v0 v1 : Value) : Prop where
  c0 : w.cell? ⟨b, 0, none⟩ = some v0
  c1 : w.cell? ⟨b, 1, none⟩ = some v1
  f0 : w.frozen? ⟨b, 0, none⟩ = false
  f1 : w.frozen? ⟨b, 1, none⟩ = false
section
variable {w w' : World} {b : Nat} {v0 v1 : Value}
theorem Box2.lt (h : Box2 w b v0 v1) : b < w.heap.size := World.block_lt_of_cell? w _ h.c0
theorem Box2.ext (h : Box2 w b v0 v1) (hb : Below w.heap.size w w') : Box2 w' b v0 v1 :=
  ⟨(hb.cell (by exact h.lt)).trans h.c0, (hb.cell (by exact h.lt)).trans h.c1, (hb.frozen (by exact h.lt)).trans h.f0, (hb.frozen (by exact h.lt)).trans h.f1⟩
theorem Box2.made (w : World) (t : TypeId) : Box2 (w.alloc (.cells #[v0, v1] t)) w.heap.size v0 v1 := ⟨by simp, by simp, by simp, by simp⟩
theorem Box2.put (h : Box2 w b v0 v1) (x y : Value) : Box2 ((w.setCell ⟨b, 0, none⟩ x).setCell ⟨b, 1, none⟩ y) b x y :=
  ⟨(two_cell h.c0 h.c1).1, (two_cell h.c0 h.c1).2, by simp [h.f0], by simp [h.f1]⟩
end
end Go.Proofs.YtehagnbphamjhaaGreatDoor

