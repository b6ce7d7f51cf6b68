/- Parts of the proof: E3. -/
import Derived.Test.YtehagnbphamjhaaGreatDoorGPlayBack21
namespace Go.Proofs.YtehagnbphamjhaaGreatDoor
open Go.RowKit
/-- a rumor's sixteen cells -/
def RumBox (w : World) (b : Nat) (r : Nat → Int) : Prop := ∀ i, i < 16 → w.cell? ⟨b, i, none⟩ = some (.int .u32 (r i))
theorem RumBox.made (w : World) (r : Nat → Int) : RumBox (w.alloc (.cells (rumC r) 230)) w.heap.size r := fun i h => by
  have hr0 : (w.alloc (.cells (rumC r) 230)).heap[w.heap.size]? = some (.cells (rumC r) 230) := by
    show (w.heap.push _)[w.heap.size]? = _
    simp only [Array.getElem?_push_size]
  simp only [World.cell?, hr0]
  exact rumC_get r h
theorem RumBox.ext {w w' : World} {b : Nat} {r : Nat → Int} (h : RumBox w b r) {B : Nat} (hb : Below B w w') (hB : b < B) : RumBox w' b r := fun i hi => (hb.cell (by exact hB)).trans (h i hi)
theorem RumBox.all {w : World} {b : Nat} {r : Nat → Int} (h : RumBox w b r) : w.cell? ⟨b, 0, none⟩ = some (.int .u32 (r 0)) ∧ w.cell? ⟨b, 1, none⟩ = some (.int .u32 (r 1)) ∧ w.cell? ⟨b, 2, none⟩ = some (.int .u32 (r 2)) ∧ w.cell? ⟨b, 3, none⟩ = some (.int .u32 (r 3)) ∧ w.cell? ⟨b, 4, none⟩ = some (.int .u32 (r 4)) ∧ w.cell? ⟨b, 5, none⟩ = some (.int .u32 (r 5)) ∧ w.cell? ⟨b, 6, none⟩ = some (.int .u32 (r 6)) ∧ w.cell? ⟨b, 7, none⟩ = some (.int .u32 (r 7)) ∧ w.cell? ⟨b, 8, none⟩ = some (.int .u32 (r 8)) ∧ w.cell? ⟨b, 9, none⟩ = some (.int .u32 (r 9)) ∧ w.cell? ⟨b, 10, none⟩ = some (.int .u32 (r 10)) ∧ w.cell? ⟨b, 11, none⟩ = some (.int .u32 (r 11)) ∧ w.cell? ⟨b, 12, none⟩ = some (.int .u32 (r 12)) ∧ w.cell? ⟨b, 13, none⟩ = some (.int .u32 (r 13)) ∧ w.cell? ⟨b, 14, none⟩ = some (.int .u32 (r 14)) ∧ w.cell? ⟨b, 15, none⟩ = some (.int .u32 (r 15)) :=
  ⟨h 0 (by decide), h 1 (by decide), h 2 (by decide), h 3 (by decide), h 4 (by decide), h 5 (by decide), h 6 (by decide), h 7 (by decide), h 8 (by decide), h 9 (by decide), h 10 (by decide), h 11 (by decide), h 12 (by decide), h 13 (by decide), h 14 (by decide), h 15 (by decide)⟩
end Go.Proofs.YtehagnbphamjhaaGreatDoor

