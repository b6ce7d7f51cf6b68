import Derived.Test.YtjcgijchmnnfaaaDoorD2
namespace Go.Proofs.YtjcgijchmnnfaaaDoor
open Go.RowKit

set_option maxRecDepth 100000 in
set_option maxHeartbeats 3200000 in
theorem pidStrict_law (n1 a1 b1 n2 a2 b2 n3 a3 b3 : Int) (w : World) (h1 : ok (a1, b1)) (h2 : ok (a2, b2)) (h3 : ok (a3, b3)) :
   Calls Tryd.prog 3 #[.agg #[.int .u32 n1, .int .u16 a1, .int .u32 b1], .agg #[.int .u32 n2, .int .u16 a2, .int .u32 b2], .agg #[.int .u32 n3, .int .u16 a3, .int .u32 b3]] w fun e w' => e = .returned (.bool true) ∧ Below w.heap.size w w' := by
  obtain ⟨A, hA⟩ : ∃ A, before n1 (a1, b1) n2 (a2, b2) = A := ⟨_, rfl⟩
  obtain ⟨B, hB⟩ : ∃ B, before n2 (a2, b2) n3 (a3, b3) = B := ⟨_, rfl⟩
  obtain ⟨C, hC⟩ : ∃ C, before n1 (a1, b1) n3 (a3, b3) = C := ⟨_, rfl⟩
  obtain ⟨D, hD⟩ : ∃ D, before n2 (a2, b2) n1 (a1, b1) = D := ⟨_, rfl⟩
  obtain ⟨N, hN⟩ : ∃ N, (!decide ((n1, a1, b1) = (n2, a2, b2))) = N := ⟨_, rfl⟩
  have hpl := strict_plain h1 h2 h3 hA hB hC hD hN
  have ne : ∀ W, (binOp .neq 27 (.agg #[.int .u32 n1, .int .u16 a1, .int .u32 b1]) (.agg #[.int .u32 n2, .int .u16 a2, .int .u32 b2])).run Tryd.prog W = .ok (.bool N) W := fun W => by rw [neq_bal, hN]
  have hw : ∃ wr, wr = ((w.alloc (.cells #[.int .u32 n1, .int .u16 a1, .int .u32 b1] 27)).alloc (.cells #[.int .u32 n2, .int .u16 a2, .int .u32 b2] 27)).alloc (.cells #[.int .u32 n3, .int .u16 a3, .int .u32 b3] 27) := ⟨_, rfl⟩
  obtain ⟨wr, hwr⟩ := hw
  have hB0 : Below w.heap.size w wr := hwr ▸ (((Below.refl _ _).alloc (Nat.le_refl _) _).alloc (by simp) _).alloc (by simp; omega) _
  have hz : w.heap.size ≤ wr.heap.size := by rw [hwr]; simp; omega
  have k0 : wr.cell? ⟨w.heap.size, 0, none⟩ = some (.int .u32 n1) := by rw [hwr, World.cell?_alloc_past _ _ _ (by simp; try omega)]; simp
  have k1 : wr.cell? ⟨w.heap.size, 1, none⟩ = some (.int .u16 a1) := by rw [hwr, World.cell?_alloc_past _ _ _ (by simp; try omega)]; simp
  have k2 : wr.cell? ⟨w.heap.size, 2, none⟩ = some (.int .u32 b1) := by rw [hwr, World.cell?_alloc_past _ _ _ (by simp; try omega)]; simp
  have k3 : wr.cell? ⟨w.heap.size + 1, 0, none⟩ = some (.int .u32 n2) := by rw [hwr, World.cell?_alloc_past _ _ _ (by simp; try omega)]; simp
  have k4 : wr.cell? ⟨w.heap.size + 1, 1, none⟩ = some (.int .u16 a2) := by rw [hwr, World.cell?_alloc_past _ _ _ (by simp; try omega)]; simp
  have k5 : wr.cell? ⟨w.heap.size + 1, 2, none⟩ = some (.int .u32 b2) := by rw [hwr, World.cell?_alloc_past _ _ _ (by simp; try omega)]; simp
  have k6 : wr.cell? ⟨w.heap.size + 1 + 1, 0, none⟩ = some (.int .u32 n3) := by rw [hwr, World.cell?_alloc_at _ _ _ _ (by simp)]; simp
  have k7 : wr.cell? ⟨w.heap.size + 1 + 1, 1, none⟩ = some (.int .u16 a3) := by rw [hwr, World.cell?_alloc_at _ _ _ _ (by simp)]; simp
  have k8 : wr.cell? ⟨w.heap.size + 1 + 1, 2, none⟩ = some (.int .u32 b3) := by rw [hwr, World.cell?_alloc_at _ _ _ _ (by simp)]; simp
  have n1' : ∀ U : ExtW wr, Calls Tryd.prog 6 #[.agg #[.int .u32 n1, .int .u16 a1, .int .u32 b1], .agg #[.int .u32 n2, .int .u16 a2, .int .u32 b2]] U.W fun e w' => e = .returned (.bool A) ∧ ∃ U' : ExtW wr, w' = U'.W := fun U => ext_of (before_any _ _ _ _ _ _ U.W h1 h2) (by rw [hA])
  have n2' : ∀ U : ExtW wr, Calls Tryd.prog 6 #[.agg #[.int .u32 n2, .int .u16 a2, .int .u32 b2], .agg #[.int .u32 n3, .int .u16 a3, .int .u32 b3]] U.W fun e w' => e = .returned (.bool B) ∧ ∃ U' : ExtW wr, w' = U'.W := fun U => ext_of (before_any _ _ _ _ _ _ U.W h2 h3) (by rw [hB])
  have n3' : ∀ U : ExtW wr, Calls Tryd.prog 6 #[.agg #[.int .u32 n1, .int .u16 a1, .int .u32 b1], .agg #[.int .u32 n3, .int .u16 a3, .int .u32 b3]] U.W fun e w' => e = .returned (.bool C) ∧ ∃ U' : ExtW wr, w' = U'.W := fun U => ext_of (before_any _ _ _ _ _ _ U.W h1 h3) (by rw [hC])
  have m1 : ∀ W, Below wr.heap.size wr W → Calls Tryd.prog 6 #[.agg #[.int .u32 n1, .int .u16 a1, .int .u32 b1], .agg #[.int .u32 n1, .int .u16 a1, .int .u32 b1]] W fun e w' => e = .returned (.bool false) ∧ Below wr.heap.size wr w' := fun W h => rel h (before_any _ _ _ _ _ _ W h1 h1) (by rw [before_irr h1])
  have m2 : ∀ W, Below wr.heap.size wr W → Calls Tryd.prog 6 #[.agg #[.int .u32 n2, .int .u16 a2, .int .u32 b2], .agg #[.int .u32 n1, .int .u16 a1, .int .u32 b1]] W fun e w' => e = .returned (.bool D) ∧ Below wr.heap.size wr w' := fun W h => rel h (before_any _ _ _ _ _ _ W h2 h1) (by rw [hD])
  have m3 : ∀ W, Below wr.heap.size wr W → Calls Tryd.prog 7 #[] W fun e w' => e = .returned (.bool true) ∧ Below wr.heap.size wr w' := fun W h => rel h (awake_any W) rfl
  have F : ∀ W, Below wr.heap.size wr W → W.cell? ⟨w.heap.size, 0, none⟩ = some (.int .u32 n1) ∧ W.cell? ⟨w.heap.size, 1, none⟩ = some (.int .u16 a1) ∧ W.cell? ⟨w.heap.size, 2, none⟩ = some (.int .u32 b1) ∧ W.cell? ⟨w.heap.size + 1, 0, none⟩ = some (.int .u32 n2) ∧ W.cell? ⟨w.heap.size + 1, 1, none⟩ = some (.int .u16 a2) ∧ W.cell? ⟨w.heap.size + 1, 2, none⟩ = some (.int .u32 b2) := fun W h => ⟨cell_to k0 h, cell_to k1 h, cell_to k2 h, cell_to k3 h, cell_to k4 h, cell_to k5 h⟩
  have f0 := cell_extw k0
  have f1 := cell_extw k1
  have f2 := cell_extw k2
  have f3 := cell_extw k3
  have f4 := cell_extw k4
  have f5 := cell_extw k5
  have f6 := cell_extw k6
  have f7 := cell_extw k7
  have f8 := cell_extw k8
  have M1 := hid m1
  have M2 := hid m2
  have M3 := hid m3
  have HF := hid F
  clear m1 m2 m3 F k0 k1 k2 k3 k4 k5 k6 k7 k8 hA hB hC hD hN
  go_enter Tryd.func3, Tryd.ntmps3
  go_wp2
  rw [← hwr]
  clear hwr
  refine wp_region_ext (w := wr) (Below.refl _ _) (by kernel_rfl) (by kernel_rfl) ?_
  repeat (go_big_quiet_step (first | (with_reducible exact n1' _) | (with_reducible exact n2' _) | (with_reducible exact n3' _)))
  refine wpQuiet_nil ?_
  rintro w9 ⟨⟨_, hb9⟩, rfl⟩
  clear n1' n2' n3' f0 f1 f2 f3 f4 f5 f6 f7 f8
  obtain ⟨q0, q1, q2, q3, q4, q5⟩ := HF.out _ hb9
  rcases hpl with ⟨rfl, rfl, rfl, rfl⟩ | ⟨rfl, rfl, rfl⟩ | ⟨rfl, rfl⟩ | ⟨rfl, rfl, rfl⟩
  all_goals (
    go_wp2_with (first
      | (go_at_call 7; refine (M3.out _ (by assumption)).mono ?_; rintro e w3 ⟨rfl, hb3⟩; obtain ⟨q0, q1, q2, q3, q4, q5⟩ := HF.out _ hb3)
      | (go_at_call 6; (first | (with_reducible refine (M1.out _ ?_).mono ?_) | (with_reducible refine (M2.out _ ?_).mono ?_)); assumption; rintro e w3 ⟨rfl, hb3⟩; obtain ⟨q0, q1, q2, q3, q4, q5⟩ := HF.out _ hb3))
    all_goals (go_ret; exact ⟨rfl, hB0.trans (Below.mono (by assumption) hz)⟩))
end Go.Proofs.YtjcgijchmnnfaaaDoor
