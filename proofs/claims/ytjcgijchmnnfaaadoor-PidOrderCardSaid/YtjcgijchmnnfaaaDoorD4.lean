import Derived.Test.YtjcgijchmnnfaaaDoorD2
namespace Go.Proofs.YtjcgijchmnnfaaaDoor
open Go.RowKit

set_option maxRecDepth 100000 in
set_option maxHeartbeats 3200000 in
theorem pidOrder_law (n1 a1 b1 n2 a2 b2 : Int) (w : World) (hr0 : 0 ≤ n1) (hr1 : n1 < 4294967296) (h1 : ok (a1, b1)) (h2 : ok (a2, b2)) :
   Calls Tryd.prog 4 #[.agg #[.int .u32 n1, .int .u16 a1, .int .u32 b1], .agg #[.int .u32 n2, .int .u16 a2, .int .u32 b2]] w fun e w' => e = .returned (.bool true) ∧ Below w.heap.size w w' := by
  obtain ⟨A, hA⟩ : ∃ A, ahead (a1, b1) (a2, b2) = A := ⟨_, rfl⟩
  obtain ⟨B, hB⟩ : ∃ B, before n1 (a1, b1) n2 (a2, b2) = B := ⟨_, rfl⟩
  have hw : ∃ wr, wr = ((w.alloc (.cells #[.int .u32 n1, .int .u16 a1, .int .u32 b1] 27)).alloc (.cells #[.int .u32 n2, .int .u16 a2, .int .u32 b2] 27)) := ⟨_, rfl⟩
  obtain ⟨wr, hwr⟩ := hw
  have hB0 : Below w.heap.size w wr := hwr ▸ ((Below.refl _ _).alloc (Nat.le_refl _) _).alloc (by simp) _
  have hz : w.heap.size ≤ wr.heap.size := by rw [hwr]; simp; omega
  have k0 : wr.cell? ⟨w.heap.size, 0, none⟩ = some (.int .u32 n1) := by rw [hwr]; simp
  have k1 : wr.cell? ⟨w.heap.size, 1, none⟩ = some (.int .u16 a1) := by rw [hwr]; simp
  have k2 : wr.cell? ⟨w.heap.size, 2, none⟩ = some (.int .u32 b1) := by rw [hwr]; simp
  have k3 : wr.cell? ⟨w.heap.size + 1, 0, none⟩ = some (.int .u32 n2) := by rw [hwr]; simp
  have k4 : wr.cell? ⟨w.heap.size + 1, 1, none⟩ = some (.int .u16 a2) := by rw [hwr]; simp
  have k5 : wr.cell? ⟨w.heap.size + 1, 2, none⟩ = some (.int .u32 b2) := by rw [hwr]; simp
  have c1 : ∀ U : ExtW wr, Calls Tryd.prog 8 #[.agg #[.int .u16 a1, .int .u32 b1], .agg #[.int .u16 a2, .int .u32 b2]] U.W fun e w' => e = .returned (.bool A) ∧ ∃ U' : ExtW wr, w' = U'.W := fun U => ext_of (ahead_any _ _ _ _ U.W h1 h2) (by rw [hA])
  have c2 : ∀ U : ExtW wr, Calls Tryd.prog 9 #[.agg #[.int .u16 a1, .int .u32 b1], .agg #[.int .u16 a2, .int .u32 b2]] U.W fun e w' => e = .returned (.bool A) ∧ ∃ U' : ExtW wr, w' = U'.W := fun U => ext_of (aheadR_any _ _ _ _ U.W) (by rw [← ahead_eq h1 h2, hA])
  have c3 : ∀ U : ExtW wr, Calls Tryd.prog 6 #[.agg #[.int .u32 n1, .int .u16 a1, .int .u32 b1], .agg #[.int .u32 n2, .int .u16 a2, .int .u32 b2]] U.W fun e w' => e = .returned (.bool B) ∧ ∃ U' : ExtW wr, w' = U'.W := fun U => ext_of (before_any _ _ _ _ _ _ U.W h1 h2) (by rw [hB])
  have c4 : ∀ U : ExtW wr, Calls Tryd.prog 10 #[.agg #[.int .u32 n1, .int .u16 a1, .int .u32 b1], .agg #[.int .u32 n2, .int .u16 a2, .int .u32 b2]] U.W fun e w' => e = .returned (.bool B) ∧ ∃ U' : ExtW wr, w' = U'.W := fun U => ext_of (beforeR_any _ _ _ _ _ _ U.W) (by rw [← before_eq h1 h2, hB])
  have m3 : ∀ W, Below wr.heap.size wr W → Calls Tryd.prog 7 #[] W fun e w' => e = .returned (.bool true) ∧ Below wr.heap.size wr w' := fun W h => rel h (awake_any W) rfl
  have F : ∀ W, Below wr.heap.size wr W → W.cell? ⟨w.heap.size, 0, none⟩ = some (.int .u32 n1) ∧ W.cell? ⟨w.heap.size, 1, none⟩ = some (.int .u16 a1) ∧ W.cell? ⟨w.heap.size, 2, none⟩ = some (.int .u32 b1) ∧ W.cell? ⟨w.heap.size + 1, 0, none⟩ = some (.int .u32 n2) ∧ W.cell? ⟨w.heap.size + 1, 1, none⟩ = some (.int .u16 a2) ∧ W.cell? ⟨w.heap.size + 1, 2, none⟩ = some (.int .u32 b2) := fun W h => ⟨cell_to k0 h, cell_to k1 h, cell_to k2 h, cell_to k3 h, cell_to k4 h, cell_to k5 h⟩
  have f0 := cell_extw k0
  have f1 := cell_extw k1
  have f2 := cell_extw k2
  have f3 := cell_extw k3
  have f4 := cell_extw k4
  have f5 := cell_extw k5
  have M3 := hid m3
  have HF := hid F
  clear m3 F k0 k1 k2 k3 k4 k5 hA hB
  have hAA : (A != A) = false := by simp
  have hBB : (B != B) = false := by simp
  go_enter Tryd.func4, Tryd.ntmps4
  go_wp2
  rw [← hwr]
  clear hwr
  refine wp_region_ext (w := wr) (Below.refl _ _) (by kernel_rfl) (by kernel_rfl) ?_
  repeat (go_big_quiet_step (first | (with_reducible exact c1 _) | (with_reducible exact c2 _) | (with_reducible exact c3 _) | (with_reducible exact c4 _)))
  refine wpQuiet_nil ?_
  rintro w9 ⟨⟨_, hb9⟩, rfl⟩
  clear c1 c2 c3 c4 f0 f1 f2 f3 f4 f5
  obtain ⟨q0, q1, q2, q3, q4, q5⟩ := HF.out _ hb9
  generalize ExtW.W _ = w8 at *
  by_cases hmx : n1 = 4294967295
  · have e1 : (n1 == 4294967295) = true := by simpa using hmx
    have N1 : Hid (∀ W, Below wr.heap.size wr W → Calls Tryd.prog 11 #[.agg #[.int .u32 n1, .int .u16 a1, .int .u32 b1], .agg #[.int .u16 a2, .int .u32 b2]] W fun e w' => e = .returned (.tuple #[.agg #[.int .u32 0, .int .u16 0, .int .u32 0], .int .i64 16]) ∧ Below wr.heap.size wr w') := hid fun W h => rel h (next_max _ _ _ _ _ W hmx) rfl
    have HM := hid hmx
    clear hmx
    have eb : ∀ W, (binOp .eql 27 (.agg #[.int .u32 0, .int .u16 0, .int .u32 0]) (.agg #[.int .u32 0, .int .u16 0, .int .u32 0])).run Tryd.prog W = .ok (.bool true) W := fun W => by rw [eql_bal]; rfl
    go_wp2_with (first
      | (go_at_call 7; refine (M3.out _ (by assumption)).mono ?_; rintro e w3 ⟨rfl, hb3⟩; obtain ⟨q0, q1, q2, q3, q4, q5⟩ := HF.out _ hb3)
      | (go_at_call 11; refine (N1.out _ (by assumption)).mono ?_; rintro e w3 ⟨rfl, hb3⟩; have hb4 : Below wr.heap.size wr (w3.alloc (.cells #[.int .u32 0, .int .u16 0, .int .u32 0] 27)) := hb3.alloc hb3.size _; obtain ⟨q0, q1, q2, q3, q4, q5⟩ := HF.out _ hb4))
    all_goals (go_ret; exact ⟨rfl, hB0.trans (Below.mono (by assumption) hz)⟩)
  · have e1 : (n1 == 4294967295) = false := by simpa using hmx
    have N1 : Hid (∀ W, Below wr.heap.size wr W → Calls Tryd.prog 11 #[.agg #[.int .u32 n1, .int .u16 a1, .int .u32 b1], .agg #[.int .u16 a2, .int .u32 b2]] W fun e w' => e = .returned (.tuple #[.agg #[.int .u32 (n1 + 1), .int .u16 a2, .int .u32 b2], .int .i64 0]) ∧ Below wr.heap.size wr w') := hid fun W h => rel h (next_small _ _ _ _ _ W hr0 hr1 hmx) rfl
    have B2 : Hid (∀ W, Below wr.heap.size wr W → Calls Tryd.prog 6 #[.agg #[.int .u32 n1, .int .u16 a1, .int .u32 b1], .agg #[.int .u32 (n1 + 1), .int .u16 a2, .int .u32 b2]] W fun e w' => e = .returned (.bool true) ∧ Below wr.heap.size wr w') := hid fun W h => rel h (before_any _ _ _ _ _ _ W h1 h2) (by rw [before_spell h1 h2]; exact congrArg Value.bool (decide_eq_true (by omega)))
    have ep : ∀ W, (binOp .eql 25 (.agg #[.int .u16 a2, .int .u32 b2]) (.agg #[.int .u16 a2, .int .u32 b2])).run Tryd.prog W = .ok (.bool true) W := fun W => by rw [eql_pid]; simp
    go_wp2_with (first
      | (go_at_call 7; refine (M3.out _ (by assumption)).mono ?_; rintro e w3 ⟨rfl, hb3⟩; obtain ⟨q0, q1, q2, q3, q4, q5⟩ := HF.out _ hb3)
      | (go_at_call 6; refine (B2.out _ (by assumption)).mono ?_; rintro e w3 ⟨rfl, hb3⟩; obtain ⟨q0, q1, q2, q3, q4, q5⟩ := HF.out _ hb3)
      | (go_at_call 11; refine (N1.out _ (by assumption)).mono ?_; rintro e w3 ⟨rfl, hb3⟩; have hb4 : Below wr.heap.size wr (w3.alloc (.cells #[.int .u32 (n1 + 1), .int .u16 a2, .int .u32 b2] 27)) := hb3.alloc hb3.size _; obtain ⟨q0, q1, q2, q3, q4, q5⟩ := HF.out _ hb4))
    all_goals (go_ret; exact ⟨rfl, hB0.trans (Below.mono (by assumption) hz)⟩)
end Go.Proofs.YtjcgijchmnnfaaaDoor
