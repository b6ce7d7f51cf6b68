import Derived.Test.YtjjahefedpfnaaaB4
namespace Go.Proofs.Ytjjahefedpfnaaa
open Go.RowKit
/-- the sixteen cells of a rumor -/
abbrev rumC (r : Nat → Int) : Array Value := #[.int .u32 (r 0), .int .u32 (r 1), .int .u32 (r 2), .int .u32 (r 3), .int .u32 (r 4), .int .u32 (r 5), .int .u32 (r 6), .int .u32 (r 7), .int .u32 (r 8), .int .u32 (r 9), .int .u32 (r 10), .int .u32 (r 11), .int .u32 (r 12), .int .u32 (r 13), .int .u32 (r 14), .int .u32 (r 15)]
theorem rumC_get (r : Nat → Int) {i : Nat} (h : i < 16) : (rumC r)[i]? = some (.int .u32 (r i)) := by
  rcases (show i = 0 ∨ i = 1 ∨ i = 2 ∨ i = 3 ∨ i = 4 ∨ i = 5 ∨ i = 6 ∨ i = 7 ∨ i = 8 ∨ i = 9 ∨ i = 10 ∨ i = 11 ∨ i = 12 ∨ i = 13 ∨ i = 14 ∨ i = 15 by omega) with rfl | rfl | rfl | rfl | rfl | rfl | rfl | rfl | rfl | rfl | rfl | rfl | rfl | rfl | rfl | rfl <;> rfl
/-- is p told of -/
def hasRu (r : Nat → Int) (p : Pid) : Bool := mayB p && decide (p.2 ≤ r p.1.toNat)
theorem may_ext {x y : Int} {w0 : World} {U : ExtW w0} {b : Bool} (h : Hid (mayB (x, y) = b)) : Calls Try.prog 125 #[.agg #[.int .u16 x, .int .u32 y]] U.W fun e w' => e = .returned (.bool b) ∧ ∃ U' : ExtW w0, w' = U'.W :=
  quiet_of (may_any x y U.W) (by rw [h.out])
set_option maxRecDepth 100000 in
set_option maxHeartbeats 1600000 in
theorem hasRu_any (r : Nat → Int) (x y : Int) (w : World) (hx : 0 ≤ x) : Calls Try.prog 118 #[.agg (rumC r), .agg #[.int .u16 x, .int .u32 y]] w fun e w' => e = .returned (.bool (hasRu r (x, y))) ∧ Below w.heap.size w w' := by
  obtain ⟨i, rfl⟩ : ∃ i : Nat, x = (i : Int) := Int.eq_ofNat_of_zero_le hx
  have hB : Below w.heap.size w ((w.alloc (.cells (rumC r) 70)).alloc (.cells #[.int .u16 i, .int .u32 y] 32)) := ((Below.refl _ _).alloc (Nat.le_refl _) _).alloc (by simp) _
  have k0 : ((w.alloc (.cells (rumC r) 70)).alloc (.cells #[.int .u16 i, .int .u32 y] 32)).cell? ⟨w.heap.size + 1, 0, none⟩ = some (.int .u16 i) := by simp
  have k1 : ((w.alloc (.cells (rumC r) 70)).alloc (.cells #[.int .u16 i, .int .u32 y] 32)).cell? ⟨w.heap.size + 1, 1, none⟩ = some (.int .u32 y) := by simp
  have hz : w.heap.size ≤ ((w.alloc (.cells (rumC r) 70)).alloc (.cells #[.int .u16 i, .int .u32 y] 32)).heap.size := by simp; omega
  have hr0 : (w.alloc (.cells (rumC r) 70)).heap[w.heap.size]? = some (.cells (rumC r) 70) := by
    show (w.heap.push _)[w.heap.size]? = _
    simp only [Array.getElem?_push_size]
  have k2 : ∀ h : i < 16, ((w.alloc (.cells (rumC r) 70)).alloc (.cells #[.int .u16 i, .int .u32 y] 32)).cell? ⟨w.heap.size, i, none⟩ = some (.int .u32 (r i)) := fun h => by
    refine (Below.cell (p := ⟨w.heap.size, i, none⟩) ((Below.refl _ _).alloc (Nat.le_refl _) _) (by simp)).trans ?_
    simp only [World.cell?, hr0]
    exact rumC_get r h
  clear hr0
  go_enter Try.func118, Try.ntmps118
  go_wp2
  revert hB hz k0 k1 k2
  generalize (w.alloc (.cells (rumC r) 70)).alloc (.cells #[.int .u16 i, .int .u32 y] 32) = wr
  intro hB k0 k1 hz k2
  have f0 := cell_extw k0
  have f1 := cell_extw k1
  cases hm : mayB ((i : Int), y)
  · have HM := hid hm
    have HD : Hid (hasRu r ((i : Int), y) = false) := hid (by unfold hasRu; rw [hm]; rfl)
    clear hm k0 k1 k2
    refine wp_region_ext (w := wr) (Below.refl _ _) (by kernel_rfl) (by kernel_rfl) ?_
    repeat (go_big_quiet_step (exact may_ext HM))
    refine wpQuiet_nil ?_
    rintro w9 ⟨⟨_, hb9⟩, rfl⟩
    go_wp2
    go_ret
    exact ⟨by rw [HD.out]; rfl, hB.trans (hb9.mono hz)⟩
  · have HM := hid hm
    have hi : i < 16 := by
      have : (i : Int) < 16 := by simp [mayB] at hm; omega
      omega
    have f2 := cell_extw (k2 hi)
    obtain ⟨b, hb⟩ : ∃ b, decide (y ≤ r i) = b := ⟨_, rfl⟩
    have HD : Hid (hasRu r ((i : Int), y) = b) := hid (by unfold hasRu; rw [hm, ← hb]; simp)
    have hi2 : decide ((i : Int) < 16) = true := by simp; omega
    have hi0 : (0 : Int) ≤ (i : Int) := by omega
    have hi3 : (i : Int) < 16 := by omega
    clear hm k0 k1 k2
    refine wp_region_ext (w := wr) (Below.refl _ _) (by kernel_rfl) (by kernel_rfl) ?_
    repeat (go_big_quiet_step (exact may_ext HM))
    refine wpQuiet_nil ?_
    rintro w9 ⟨⟨_, hb9⟩, rfl⟩
    go_wp2
    go_ret
    exact ⟨by rw [HD.out]; rfl, hB.trans (hb9.mono hz)⟩
end Go.Proofs.Ytjjahefedpfnaaa
