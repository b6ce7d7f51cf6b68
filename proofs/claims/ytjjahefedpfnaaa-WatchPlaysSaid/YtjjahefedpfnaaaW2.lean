import Derived.Test.YtjjahefedpfnaaaW1
namespace Go.Proofs.Ytjjahefedpfnaaa
open Go.RowKit

set_option maxHeartbeats 400000 in
theorem index_any (a : Option Addr) (c : Nat) (xs : List Pid) (id inc : Int) (w : World) (hn : xs.length ≤ 70368744177664) (hrow : PidRow w a xs) :
   Calls Try.prog 106 #[.slice a xs.length c, .agg #[.int .u16 id, .int .u32 inc]] w fun e w' => e = .returned (.int .i64 (atIx xs (id, inc))) ∧ Below w.heap.size w w' := by
  go_enter Try.func106, Try.ntmps106
  go_wp2
  go_loopw [4, 8] (fun r i wr => r = .int .i64 0 ∧ ∃ k : Nat, k ≤ xs.length ∧ i = .int .i64 k ∧ Hid (atIx xs (id, inc) = atFrom (id, inc) (xs.drop k) k) ∧ Below w.heap.size w wr ∧ wr.cell? ⟨w.heap.size, 0, none⟩ = some (.int .u16 id) ∧ wr.cell? ⟨w.heap.size, 1, none⟩ = some (.int .u32 inc)) (fun _ i _ => xs.length - (intOf i).toNat)
  case atStart => exact ⟨rfl, 0, Nat.zero_le _, rfl, rfl, (Below.refl _ _).alloc (Nat.le_refl _) _, by simp, by simp⟩
  case round =>
    obtain ⟨rfl, k, hk, rfl, ha, hb, c0, c1⟩ := hrel
    by_cases hlt : k < xs.length
    · obtain ⟨b, off, x, y, rfl, hx, d1, d2⟩ := hrow.at hb rfl hlt
      have HX := hid hx
      clear hx hrow
      have he := fun w => eql_pid id inc x y w
      go_wp2
      go_quiet (fail)
      all_goals go_wp2
      · have h := ‹id = x ∧ inc = y›
        go_ret
        exact ⟨ret_int (by rw [ha.out, atFrom_drop hlt, if_pos (by rw [← HX.out, h.1, h.2])]), below_drewN hb _⟩
      · have h := ‹¬id = x ∨ ¬inc = y›
        go_roundw
        case rel => exact ⟨rfl, k + 1, by omega, by go_num, (ha.out.trans (by rw [atFrom_drop hlt, if_neg (by rw [← HX.out]; simp; omega)]) : _), below_drewN hb _, by simpa using c0, by simpa using c1⟩
        case measure => simp [intOf]; omega
    · go_wp2
      go_ret
      exact ⟨ret_int (by rw [ha.out, atFrom_end (by omega)]), hb⟩

theorem atFrom_neg {p : Pid} : ∀ {xs : List Pid} {k : Nat}, atFrom p xs k < 0 ↔ p ∉ xs
  | [], _ => by simp [atFrom]
  | x :: xs, k => by
    unfold atFrom
    split
    · next h => simp [h]
    · next h =>
      rw [atFrom_neg]
      have h' : ¬ p = x := fun e => h e.symm
      simp [h']
theorem atIx_nonneg {p : Pid} {xs : List Pid} : decide (0 ≤ atIx xs p) = decide (p ∈ xs) := by
  have := atFrom_neg (p := p) (xs := xs) (k := 0)
  unfold atIx
  by_cases h : p ∈ xs <;> simp [h] <;> simp [h] at this <;> omega

theorem contains_any (a : Option Addr) (c : Nat) (xs : List Pid) (id inc : Int) (w : World) (hn : xs.length ≤ 70368744177664) (hrow : PidRow w a xs) :
   Calls Try.prog 98 #[.slice a xs.length c, .agg #[.int .u16 id, .int .u32 inc]] w fun e w' => e = .returned (.bool (decide ((id, inc) ∈ xs))) ∧ Below w.heap.size w w' := by
  go_enter Try.func98, Try.ntmps98
  go_wp2_with (go_at_call 106; refine (index_any _ _ _ _ _ _ hn (hrow.ext ((Below.refl _ _).alloc (Nat.le_refl _) _))).mono ?_; rintro e w1 ⟨rfl, hb1⟩)
  go_ret
  exact ⟨ret_bool atIx_nonneg, ((Below.refl _ _).alloc (Nat.le_refl _) _).trans (hb1.mono (by simp))⟩

theorem leaf1_any (a : Option Addr) (c : Nat) (xs : List Pid) (bp : Nat) (id inc : Int) (w : World) (hn : xs.length ≤ 70368744177664) (hrow : PidRow w a xs)
   (h0 : w.cell? ⟨bp, 0, none⟩ = some (.int .u16 id)) (h1 : w.cell? ⟨bp, 1, none⟩ = some (.int .u32 inc)) :
   Calls Try.prog 100 #[.slice a xs.length c, .pointer (some ⟨bp, 0, none⟩)] w fun e w' => e = .returned (.bool (decide ((id, inc) ∈ xs))) ∧ Below w.heap.size w w' := by
  go_enter Try.func100, Try.ntmps100
  go_wp2_with (go_at_call 98; refine (contains_any _ _ _ _ _ _ hn hrow).mono ?_; rintro e w1 ⟨rfl, hb1⟩)
  go_ret
  exact ⟨rfl, hb1⟩

/-- the first list of ls that holds p -/
def leafFrom (p : Pid) : List (List Pid) → Nat → Int
  | [], _ => -1
  | x :: xs, k => if p ∈ x then k else leafFrom p xs (k + 1)
def leafIx (ls : List (List Pid)) (p : Pid) : Int := leafFrom p ls 0
theorem leafFrom_drop {xs : List (List Pid)} {k : Nat} (h : k < xs.length) (p : Pid) : leafFrom p (xs.drop k) k = if p ∈ xs[k] then (k : Int) else leafFrom p (xs.drop (k + 1)) (k + 1) := by
  rw [List.drop_eq_getElem_cons h]; rfl
theorem leafFrom_end {xs : List (List Pid)} {k : Nat} (h : xs.length ≤ k) (p : Pid) : leafFrom p (xs.drop k) k = -1 := by
  rw [List.drop_eq_nil_of_le h]; rfl

set_option maxHeartbeats 400000 in
theorem indexFunc_any (a : Option Addr) (c : Nat) (ls : List (List Pid)) (bp : Nat) (id inc : Int) (w : World) (hn : ls.length ≤ 70368744177664) (hl : ∀ l ∈ ls, l.length ≤ 70368744177664) (hrow : LeafRow w a ls)
   (h0 : w.cell? ⟨bp, 0, none⟩ = some (.int .u16 id)) (h1 : w.cell? ⟨bp, 1, none⟩ = some (.int .u32 inc)) :
   Calls Try.prog 99 #[.slice a ls.length c, .func (.func 100) #[] #[.pointer (some ⟨bp, 0, none⟩)]] w fun e w' => e = .returned (.int .i64 (leafIx ls (id, inc))) ∧ Below w.heap.size w w' := by
  have hbp := World.block_lt_of_cell? w _ h0
  simp only at hbp
  go_enter Try.func99, Try.ntmps99
  go_wp2
  go_loopw [4, 8] (fun r i wr => r = .int .i64 0 ∧ ∃ k : Nat, k ≤ ls.length ∧ i = .int .i64 k ∧ Hid (leafIx ls (id, inc) = leafFrom (id, inc) (ls.drop k) k) ∧ Below w.heap.size w wr) (fun _ i _ => ls.length - (intOf i).toNat)
  case atStart => exact ⟨rfl, 0, Nat.zero_le _, rfl, rfl, Below.refl _ _⟩
  case round =>
    obtain ⟨rfl, k, hk, rfl, ha, hb⟩ := hrel
    by_cases hlt : k < ls.length
    · obtain ⟨b, off, ai, ci, l, rfl, hx, d1, d2⟩ := hrow.at hb rfl hlt
      have hll : l.length ≤ 70368744177664 := hl l (by rw [hx]; exact List.getElem_mem _)
      have HX := hid hx
      clear hx hrow
      have e0 := (hb.cell (p := ⟨bp, 0, none⟩) hbp).trans h0
      have e1 := (hb.cell (p := ⟨bp, 1, none⟩) hbp).trans h1
      go_wp2_with (go_at_call 100; refine (leaf1_any _ _ _ _ _ _ _ hll d2 e0 e1).mono ?_; rintro e w1 ⟨rfl, hb1⟩)
      · have h := ‹(id, inc) ∈ l›
        go_ret
        exact ⟨ret_int (by rw [ha.out, leafFrom_drop hlt, if_pos (by rw [← HX.out]; exact h)]), hb.trans (hb1.mono hb.size)⟩
      · have h := ‹¬(id, inc) ∈ l›
        go_roundw
        case rel => exact ⟨rfl, k + 1, by omega, by go_num, (ha.out.trans (by rw [leafFrom_drop hlt, if_neg (by rw [← HX.out]; exact h)]) : _), hb.trans (hb1.mono hb.size)⟩
        case measure => simp [intOf]; omega
    · go_wp2
      go_ret
      exact ⟨ret_int (by rw [ha.out, leafFrom_end (by omega)]), hb⟩
end Go.Proofs.Ytjjahefedpfnaaa
