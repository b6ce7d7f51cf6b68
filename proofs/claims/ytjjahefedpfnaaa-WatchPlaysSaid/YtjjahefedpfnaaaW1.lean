import Derived.Test.YtjjahefedpfnaaaBase
namespace Go.Proofs.Ytjjahefedpfnaaa
open Go.RowKit

set_option maxHeartbeats 400000 in
theorem at_any (a : Option Addr) (c : Nat) (xs : List Pid) (id inc : Int) (w : World) (hn : xs.length ≤ 9223372036854775807) (hrow : PidRow w a xs) :
   Calls Try.prog 83 #[.slice a xs.length c, .agg #[.int .u16 id, .int .u32 inc]] w fun e w' => e = .returned (.int .i64 (atIx xs (id, inc))) ∧ Below w.heap.size w w' := by
  go_enter Try.func83, Try.ntmps83
  go_wp2
  go_loopw [4, 5] (fun r i wr => r = .int .i64 0 ∧ ∃ k : Nat, k ≤ xs.length ∧ i = .int .i64 k ∧ Hid (atIx xs (id, inc) = atFrom (id, inc) (xs.drop k) k) ∧ Below w.heap.size w wr ∧ wr.cell? ⟨w.heap.size, 0, none⟩ = some (.int .u16 id) ∧ wr.cell? ⟨w.heap.size, 1, none⟩ = some (.int .u32 inc)) (fun _ i _ => xs.length - (intOf i).toNat)
  case atStart => exact ⟨rfl, 0, Nat.zero_le _, rfl, rfl, (Below.refl _ _).alloc (Nat.le_refl _) _, by simp, by simp⟩
  case round =>
    obtain ⟨rfl, k, hk, rfl, ha, hb, c0, c1⟩ := hrel
    by_cases hlt : k < xs.length
    · obtain ⟨b, off, x, y, rfl, hx, d1, d2⟩ := hrow.at hb rfl hlt
      have HX := hid hx
      clear hx hrow
      have he := fun w => eql_pid x y id inc w
      go_wp2
      go_quiet (fail)
      all_goals go_wp2
      · have h := ‹x = id ∧ y = inc›
        go_ret
        exact ⟨ret_int (by rw [ha.out, atFrom_drop hlt, if_pos (by rw [← HX.out, h.1, h.2])]), below_drewN hb _⟩
      · have h := ‹¬x = id ∨ ¬y = inc›
        go_roundw
        case rel => exact ⟨rfl, k + 1, by omega, by go_num, (ha.out.trans (by rw [atFrom_drop hlt, if_neg (by rw [← HX.out]; simp; omega)]) : _), below_drewN hb _, by simpa using c0, by simpa using c1⟩
        case measure => simp [intOf]; omega
    · go_wp2
      go_ret
      exact ⟨ret_int (by rw [ha.out, atFrom_end (by omega)]), hb⟩
end Go.Proofs.Ytjjahefedpfnaaa
