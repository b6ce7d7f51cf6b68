/- Parts of the proof: X63. -/
import Derived.Test.YtppapeoainafbaaGreatDoorX65
namespace Go.Proofs.YtppapeoainafbaaGreatDoor
open Go.RowKit
/-! ### truths and ballots are laid -/
set_option maxRecDepth 100000 in
set_option maxHeartbeats 1600000 in
theorem wTruth_any {s : Nat} {v : Value} {bs : List Nat} {w : World} (b : Bool) (hW : WrIs w s v bs) (hl : bs.length ≤ 137438953472) :
    Calls Tryz.prog 69 #[.pointer (some ⟨s, 0, none⟩), .bool b] w fun e w' => e = .returned (.tuple #[]) ∧ ∃ v', Wrote w w' s v' (bs ++ short (if b then 1 else 0)) := by
  cases b
  · have N1 := hid (wNum_z 0 (z := 0) rfl hW hl (by decide))
    clear hW
    go_enter Tryz.func69, Tryz.ntmps69
    go_wp2_with fail
    refine N1.out.mono ?_
    rintro e w2 ⟨rfl, v2, hw2⟩
    have HW := hid hw2
    clear hw2 N1
    go_wp2
    exact bodyPost_end (results_none rfl _ _ _) rfl ⟨rfl, v2, HW.out⟩
  · have N1 := hid (wNum_z 1 (z := 1) rfl hW hl (by decide))
    clear hW
    go_enter Tryz.func69, Tryz.ntmps69
    go_wp2_with fail
    refine N1.out.mono ?_
    rintro e w2 ⟨rfl, v2, hw2⟩
    have HW := hid hw2
    clear hw2 N1
    go_wp2
    exact bodyPost_end (results_none rfl _ _ _) rfl ⟨rfl, v2, HW.out⟩
set_option maxRecDepth 100000 in
set_option maxHeartbeats 1600000 in
theorem wBal_any {s : Nat} {v : Value} {bs : List Nat} {w : World} (n x y : Nat) (hW : WrIs w s v bs) (hl : bs.length ≤ 60000000000) (hn : n < 4294967296) (hx : x < 65536) (hy : y < 4294967296) :
    Calls Tryz.prog 68 #[.pointer (some ⟨s, 0, none⟩), .agg #[.int .u32 n, .int .u16 x, .int .u32 y]] w fun e w' => e = .returned (.tuple #[]) ∧ ∃ v', Wrote w w' s v' (bs ++ (short n ++ (short x ++ short y))) := by
  obtain ⟨W1, hW1⟩ : ∃ W1, w.alloc (.cells #[.int .u32 n, .int .u16 x, .int .u32 y] 28) = W1 := ⟨_, rfl⟩
  have hB1 : Below w.heap.size w W1 := by rw [← hW1]; exact (Below.refl _ _).alloc (Nat.le_refl _) _
  have c0 : W1.cell? ⟨w.heap.size, 0, none⟩ = some (.int .u32 n) := by rw [← hW1]; simp
  have c1 : W1.cell? ⟨w.heap.size, 1, none⟩ = some (.int .u16 x) := by rw [← hW1]; simp
  have c2 : W1.cell? ⟨w.heap.size, 2, none⟩ = some (.int .u32 y) := by rw [← hW1]; simp
  have hs := hW.lt
  have hns : w.heap.size ≠ s := by omega
  have hl2 := short_len10 (n := n) (by omega)
  have N1 := hid (wNum_any n (hW.ext hB1) (by omega) (by omega))
  have C1 := hid c1
  have C2 := hid c2
  have HB1 := hid hB1
  have e1 : IntKind.u64.wrap ((n : Nat) : Int) = ((n : Nat) : Int) := by rw [IntKind.wrap_u64]; omega
  clear hW c1 c2 hB1
  go_enter Tryz.func68, Tryz.ntmps68
  go_wp2_with fail
  refine N1.out.mono ?_
  rintro e w2 ⟨rfl, v2, hw2⟩
  have d1 := cell_mut C1.out hw2.mt hns
  have d2 := cell_mut C2.out hw2.mt hns
  have N2 := hid (wPid_any x y hw2.wr (by rw [List.length_append]; omega) hx hy)
  have HW2 := hid hw2
  clear hw2 N1 c0
  go_wp2_with fail
  refine N2.out.mono ?_
  rintro e w3 ⟨rfl, v3, hw3⟩
  have HW3 := hid ((HW2.out.step hw3).pre HB1.out)
  clear hw3 N2 d1 d2
  go_wp2
  exact bodyPost_end (results_none rfl _ _ _) rfl ⟨rfl, v3, by have := HW3.out; rw [List.append_assoc] at this; exact this⟩
end Go.Proofs.YtppapeoainafbaaGreatDoor

