/- Parts of the proof: X63. -/
import Derived.Test.YtbpfhclcjedkcaaX65
namespace Go.Proofs.Ytbpfhclcjedkcaa
open Go.RowKit
/-! ### truths and ballots are laid -/
set_option maxRecDepth 100000 in
set_option maxHeartbeats 1600000 in
theorem wTruth_any {s : Nat} {v : Value} {bs : List Nat} {w : World} (b : Bool) (hW : WrIs w s v bs) (hl : bs.length ≤ 137438953472) :
    Calls Try.prog 95 #[.pointer (some ⟨s, 0, none⟩), .bool b] w fun e w' => e = .returned (.tuple #[]) ∧ ∃ v', Wrote w w' s v' (bs ++ short (if b then 1 else 0)) := by
  cases b
  · have N1 := hid (wNum_z 0 (z := 0) rfl hW hl (by decide))
    clear hW
    go_enter Try.func95, Try.ntmps95
    go_wp2_with fail
    refine N1.out.mono ?_
    rintro e w2 ⟨rfl, v2, hw2⟩
    have HW := hid hw2
    clear hw2 N1
    go_wp2
    exact bodyPost_end (results_none rfl _ _ _) rfl ⟨rfl, v2, HW.out⟩
  · have N1 := hid (wNum_z 1 (z := 1) rfl hW hl (by decide))
    clear hW
    go_enter Try.func95, Try.ntmps95
    go_wp2_with fail
    refine N1.out.mono ?_
    rintro e w2 ⟨rfl, v2, hw2⟩
    have HW := hid hw2
    clear hw2 N1
    go_wp2
    exact bodyPost_end (results_none rfl _ _ _) rfl ⟨rfl, v2, HW.out⟩
set_option maxRecDepth 100000 in
set_option maxHeartbeats 1600000 in
theorem wBal_any {s : Nat} {v : Value} {bs : List Nat} {w : World} (n x y : Nat) (hW : WrIs w s v bs) (hl : bs.length ≤ 60000000000) (hn : n < 4294967296) (hx : x < 65536) (hy : y < 4294967296) :
    Calls Try.prog 94 #[.pointer (some ⟨s, 0, none⟩), .agg #[.int .u32 n, .int .u16 x, .int .u32 y]] w fun e w' => e = .returned (.tuple #[]) ∧ ∃ v', Wrote w w' s v' (bs ++ (short n ++ (short x ++ short y))) := by
  obtain ⟨W1, hW1⟩ : ∃ W1, w.alloc (.cells #[.int .u32 n, .int .u16 x, .int .u32 y] 41) = W1 := ⟨_, rfl⟩
  have hB1 : Below w.heap.size w W1 := by rw [← hW1]; exact (Below.refl _ _).alloc (Nat.le_refl _) _
  have c0 : W1.cell? ⟨w.heap.size, 0, none⟩ = some (.int .u32 n) := by rw [← hW1]; simp
  have c1 : W1.cell? ⟨w.heap.size, 1, none⟩ = some (.int .u16 x) := by rw [← hW1]; simp
  have c2 : W1.cell? ⟨w.heap.size, 2, none⟩ = some (.int .u32 y) := by rw [← hW1]; simp
  have hs := hW.lt
  have hns : w.heap.size ≠ s := by omega
  have hl2 := short_len10 (n := n) (by omega)
  have N1 := hid (wNum_any n (hW.ext hB1) (by omega) (by omega))
  have C1 := hid c1
  have C2 := hid c2
  have HB1 := hid hB1
  have e1 : IntKind.u64.wrap ((n : Nat) : Int) = ((n : Nat) : Int) := by rw [IntKind.wrap_u64]; omega
  clear hW c1 c2 hB1
  go_enter Try.func94, Try.ntmps94
  go_wp2_with fail
  refine N1.out.mono ?_
  rintro e w2 ⟨rfl, v2, hw2⟩
  have d1 := cell_mut C1.out hw2.mt hns
  have d2 := cell_mut C2.out hw2.mt hns
  have N2 := hid (wPid_any x y hw2.wr (by rw [List.length_append]; omega) hx hy)
  have HW2 := hid hw2
  clear hw2 N1 c0
  go_wp2_with fail
  refine N2.out.mono ?_
  rintro e w3 ⟨rfl, v3, hw3⟩
  have HW3 := hid ((HW2.out.step hw3).pre HB1.out)
  clear hw3 N2 d1 d2
  go_wp2
  exact bodyPost_end (results_none rfl _ _ _) rfl ⟨rfl, v3, by have := HW3.out; rw [List.append_assoc] at this; exact this⟩
theorem truthR_any {w : World} (b : Bool) :
    Calls Try.prog 110 #[.bool b] w fun e w' => ∃ v, e = .returned v ∧ OwnB w' w.heap.size v (short (if b then 1 else 0)) ∧ Below w.heap.size w w' := by
  have key : ∀ n : Nat, n < 128 → OwnB (w.alloc (.cells #[.int .u8 n] 5)) w.heap.size (.slice (some ⟨w.heap.size, 0, none⟩) 1 1) (short n) := fun n hn => by
    rw [short_lt hn]
    exact ⟨by simp [u8C], .inr ⟨w.heap.size, 1, #[.int .u8 n], rfl, Nat.le_refl _, heap_alloc_new w _, Nat.le_refl _, by unfold maxLen; simp, rfl, by simp [u8C, u8V]⟩⟩
  cases b
  · go_enter Try.func110, Try.ntmps110
    go_wp2
    go_ret
    exact ⟨_, rfl, key 0 (by decide), (Below.refl _ _).alloc (Nat.le_refl _) _⟩
  · go_enter Try.func110, Try.ntmps110
    go_wp2
    go_ret
    exact ⟨_, rfl, key 1 (by decide), (Below.refl _ _).alloc (Nat.le_refl _) _⟩
set_option maxRecDepth 100000 in
set_option maxHeartbeats 3200000 in
theorem balR_any {w : World} (n x y : Nat) (hn : n < 4294967296) (hx : x < 65536) (hy : y < 4294967296) :
    Calls Try.prog 109 #[.agg #[.int .u32 n, .int .u16 x, .int .u32 y]] w fun e w' => ∃ v, e = .returned v ∧ OwnB w' w.heap.size v (short n ++ (short x ++ short y)) ∧ Below w.heap.size w w' := by
  obtain ⟨w1, hw1⟩ : ∃ W1, w.alloc (.cells #[.int .u32 n, .int .u16 x, .int .u32 y] 41) = W1 := ⟨_, rfl⟩
  have hB : Below w.heap.size w w1 := by rw [← hw1]; exact (Below.refl _ _).alloc (Nat.le_refl _) _
  have c0 : w1.cell? ⟨w.heap.size, 0, none⟩ = some (.int .u32 n) := by rw [← hw1]; simp
  have c1 : w1.cell? ⟨w.heap.size, 1, none⟩ = some (.int .u16 x) := by rw [← hw1]; simp
  have c2 : w1.cell? ⟨w.heap.size, 2, none⟩ = some (.int .u32 y) := by rw [← hw1]; simp
  have hlx := short_len10 (n := x) (by omega)
  have hly := short_len10 (n := y) (by omega)
  have hln := short_len10 (n := n) (by omega)
  obtain ⟨X, hX⟩ : ∃ F, short n = F := ⟨_, rfl⟩
  obtain ⟨Y, hY⟩ : ∃ F, short x ++ short y = F := ⟨_, rfl⟩
  obtain ⟨NY, hNY⟩ : ∃ N, Y.length = N := ⟨_, rfl⟩
  have hlX : X.length ≤ 10 := by rw [← hX]; exact hln
  have hlY : NY ≤ 20 := by rw [← hNY, ← hY, List.length_append]; omega
  rw [hX, hY]
  have HX := hid hX
  have HY := hid hY
  have HNY := hid hNY
  clear hX hY hNY hlx hly hln
  have H0 : Below w1.heap.size w1 w1.drew := (Below.refl _ _).drew
  have HS : Hid (∀ W, Below w1.heap.size w1 W → Below w1.heap.size w1 W ∧ W.cell? ⟨w.heap.size, 0, none⟩ = some (.int .u32 n) ∧ W.cell? ⟨w.heap.size, 1, none⟩ = some (.int .u16 x) ∧ W.cell? ⟨w.heap.size, 2, none⟩ = some (.int .u32 y)) := hid fun W h => ⟨h, cell_toB c0 h, cell_toB c1 h, cell_toB c2 h⟩
  have C1 : Hid (∀ W, Below w1.heap.size w1 W → Calls Try.prog 107 #[.int .u64 n] W fun e w' => ∃ v, e = .returned v ∧ OwnB w' w1.heap.size v X ∧ Below w1.heap.size w1 w') := hid fun W h => (numR_any n (by omega)).mono fun e w' ⟨v, h1, h2, h3⟩ => ⟨v, h1, by rw [← HX.out]; exact h2.mono h.size, h.trans (h3.mono h.size)⟩
  have C2 : Hid (∀ W, Below w1.heap.size w1 W → Calls Try.prog 108 #[.agg #[.int .u16 x, .int .u32 y]] W fun e w' => ∃ a' c', e = .returned (.slice a' NY c') ∧ ByteRow w' a' Y ∧ Below W.heap.size W w' ∧ Below w1.heap.size w1 w') := hid fun W h => (pidPutR_is HY HNY hx hy).mono fun e w' ⟨a', c', h1, h2, h3⟩ => ⟨a', c', h1, h2, h3, h.trans (h3.mono h.size)⟩
  clear c0 c1 c2
  have ew1 : IntKind.u64.wrap ((n : Nat) : Int) = ((n : Nat) : Int) := by rw [IntKind.wrap_u64]; omega
  go_enter Try.func109, Try.ntmps109
  go_wp2
  go_region_held3 (fun W => Below w1.heap.size w1 W ∧ W.cell? ⟨w.heap.size, 0, none⟩ = some (.int .u32 n) ∧ W.cell? ⟨w.heap.size, 1, none⟩ = some (.int .u16 x) ∧ W.cell? ⟨w.heap.size, 2, none⟩ = some (.int .u32 y)) (first | exact HS.out _ H0 | exact HS.out _ (by assumption)) (first
    | ((go_at_call 107; (with_reducible refine (C1.out _ (by exact H0)).mono ?_); rintro e w11 ⟨v11, rfl, hown11, hb11⟩; obtain ⟨a11, c11, he11, -, -⟩ := hown11.row; subst he11))
    | ((go_at_call 108; (with_reducible refine (C2.out _ hb11).mono ?_); rintro e w12 ⟨a12, c12, rfl, hrow12, hbb12, hb12⟩))
    | ((refine step_appendB (by rfl) (hown11.ext hbb12) hrow12 HNY (by clear ew1; omega) hb12.size rfl rfl rfl ?_; intro v13 w13 hown13 hg13; have hb13 : Below w1.heap.size w1 w13 := below_of_grown hb12 hg13 (hown11.ext hbb12) hb12.size (Nat.le_refl _))))
  all_goals (
    clear ew1
    go_wp2
    go_ret
    exact ⟨_, rfl, hown13.mono hB.size, hB.trans (hb13.mono hB.size)⟩)
end Go.Proofs.Ytbpfhclcjedkcaa

