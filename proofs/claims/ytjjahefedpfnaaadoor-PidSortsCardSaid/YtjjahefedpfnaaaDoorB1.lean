import Derived.Test.YtjjahefedpfnaaaDoorN2
namespace Go.Proofs.YtjjahefedpfnaaaDoor
open Go.RowKit
def minusP (xs ys : List Pid) : List Pid := xs.filter fun p => !decide (p ∈ ys)
def commonP (xs ys : List Pid) : List Pid := xs.filter fun p => decide (p ∈ ys)
theorem filter_drop {xs : List Pid} {k : Nat} (h : k < xs.length) {x y : Int} (hx : (x, y) = xs[k]) (f : Pid → Bool) : (xs.drop k).filter f = if f (x, y) = true then (x, y) :: (xs.drop (k + 1)).filter f else (xs.drop (k + 1)).filter f := by
  rw [List.drop_eq_getElem_cons h, ← hx, List.filter_cons]
def inFrom (p : Pid) : List Pid → Bool
  | [] => false
  | x :: xs => if x = p then true else inFrom p xs
theorem inFrom_eq (p : Pid) : ∀ xs : List Pid, inFrom p xs = decide (p ∈ xs)
  | [] => by simp [inFrom]
  | x :: xs => by
    unfold inFrom
    rw [inFrom_eq p xs]
    by_cases h : x = p
    · simp [h]
    · simp [h, Ne.symm h]
theorem inFrom_drop {xs : List Pid} {k : Nat} (h : k < xs.length) (p : Pid) : inFrom p (xs.drop k) = if xs[k] = p then true else inFrom p (xs.drop (k + 1)) := by
  rw [List.drop_eq_getElem_cons h]; rfl

set_option maxHeartbeats 400000 in
theorem hasR_any (a : Option Addr) (c : Nat) (xs : List Pid) (id inc : Int) (w : World) (hn : xs.length ≤ 9223372036854775807) (hrow : PidRow w a xs) :
   Calls Tryd.prog 13 #[.slice a xs.length c, .agg #[.int .u16 id, .int .u32 inc]] w fun e w' => e = .returned (.bool (decide ((id, inc) ∈ xs))) ∧ Below w.heap.size w w' := by
  go_enter Tryd.func13, Tryd.ntmps13
  go_wp2
  go_loopw [4, 5] (fun r i wr => r = .bool false ∧ ∃ k : Nat, k ≤ xs.length ∧ i = .int .i64 k ∧ Hid (decide ((id, inc) ∈ xs) = inFrom (id, inc) (xs.drop k)) ∧ Below w.heap.size w wr ∧ wr.cell? ⟨w.heap.size, 0, none⟩ = some (.int .u16 id) ∧ wr.cell? ⟨w.heap.size, 1, none⟩ = some (.int .u32 inc)) (fun _ i _ => xs.length - (intOf i).toNat)
  case atStart => exact ⟨rfl, 0, Nat.zero_le _, rfl, hid (by rw [List.drop_zero, inFrom_eq]), (Below.refl _ _).alloc (Nat.le_refl _) _, by simp, by simp⟩
  case round =>
    obtain ⟨rfl, k, hk, rfl, ha, hb, c0, c1⟩ := hrel
    by_cases hlt : k < xs.length
    · obtain ⟨b, off, x, y, rfl, hx, d1, d2⟩ := hrow.at hb rfl hlt
      have HX := hid hx
      clear hx hrow
      have he := fun w => eql_pid x y id inc w
      go_wp2
      go_quiet (fail)
      all_goals go_wp2
      · have h := ‹x = id ∧ y = inc›
        go_ret
        exact ⟨ret_bool (by rw [ha.out, inFrom_drop hlt, if_pos (by rw [← HX.out, h.1, h.2])]), below_drewN hb _⟩
      · have h := ‹¬x = id ∨ ¬y = inc›
        go_roundw
        case rel => exact ⟨rfl, k + 1, by omega, by go_num, hid (ha.out.trans (by rw [inFrom_drop hlt, if_neg (by rw [← HX.out]; simp; omega)])), below_drewN hb _, by simpa using c0, by simpa using c1⟩
        case measure => simp [intOf]; omega
    · go_wp2
      go_ret
      exact ⟨ret_bool (by rw [ha.out, List.drop_eq_nil_of_le (by omega)]; rfl), hb⟩
theorem hasR_is {a : Option Addr} {c : Nat} {xs : List Pid} {id inc : Int} {w : World} {bm : Bool} (h : Hid (decide ((id, inc) ∈ xs) = bm)) (hn : xs.length ≤ 70368744177664) (hrow : PidRow w a xs) :
   Calls Tryd.prog 13 #[.slice a xs.length c, .agg #[.int .u16 id, .int .u32 inc]] w fun e w' => e = .returned (.bool bm) ∧ Below w.heap.size w w' := by
  have := hasR_any a c xs id inc w (by omega) hrow
  rw [h.out] at this
  exact this

theorem minus_minus (xs ys : List Pid) : minusP xs (minusP xs ys) = commonP xs ys := by
  unfold minusP commonP
  apply List.filter_congr
  intro p hp
  simp [hp]
end Go.Proofs.YtjjahefedpfnaaaDoor
