import Derived.Test.YtjjahefedpfnaaaA2
import Derived.Lib.EndianBits
import Derived.Laws.ShiftsVar
namespace Go.Proofs.Ytjjahefedpfnaaa
open Go.RowKit
set_option maxHeartbeats 800000 in
theorem bit_any (i : Nat) (w : World) (hi : i < 128) :
   Calls Try.prog 119 #[.int .i64 i] w fun e w' => e = .returned (.tuple #[.int .i64 (i / 64 : Nat), .int .u64 (2 ^ (i % 64) : Nat), .bool true]) ∧ w' = w := by
  obtain ⟨j, hj⟩ : ∃ j, i % 64 = j := ⟨_, rfl⟩
  have hj2 : j < 64 := by omega
  have ha : bits .and .u64 (i : Int) 63 = (j : Int) := by
    have := (bits_nat .u64 64 (by decide) wraps_u64 i 63 (by omega) (by decide)).1
    rw [← hj, ← show i &&& 63 = i % 64 from Nat.and_two_pow_sub_one_eq_mod i 6]
    exact this
  have h0 : decide ((i : Int) < 0) = false := by simp
  have h1 : decide (128 ≤ (i : Int)) = false := by simp; omega
  go_enter Try.func119, Try.ntmps119
  go_wp2
  have hw : IntKind.u64.wrap (2 ^ j) = ((2 ^ j : Nat) : Int) := by
    have h2 : (2 : Nat) ^ j < 2 ^ 64 := Nat.pow_lt_pow_of_lt (by decide) hj2
    have h3 : ((2 ^ j : Nat) : Int) = (2 : Int) ^ j := by simp
    rw [h3]
    exact wraps_u64 _ (by rw [← h3]; exact Int.natCast_nonneg _) (by rw [← h3]; exact_mod_cast h2)
  rw [hj]
  exact bodyPost_ret (v := .tuple #[.int .i64 ((i : Int) / 64), .int .u64 (IntKind.u64.wrap (2 ^ j)), .bool true]) (by simp [results, Try.results119, go_sem]) rfl ⟨by rw [hw]; rfl, rfl⟩
set_option maxHeartbeats 800000 in
theorem bit_out (i : Int) (w : World) (hi : i < 0 ∨ 128 ≤ i) :
   Calls Try.prog 119 #[.int .i64 i] w fun e w' => e = .returned (.tuple #[.int .i64 0, .int .u64 0, .bool false]) ∧ w' = w := by
  by_cases h0 : i < 0
  · have h0' : decide (i < 0) = true := by simpa using h0
    go_enter Try.func119, Try.ntmps119
    go_wp2
    exact bodyPost_ret (by simp [results, Try.results119, go_sem]) rfl ⟨rfl, rfl⟩
  · have h0' : decide (i < 0) = false := by simpa using h0
    have h1' : decide (128 ≤ i) = true := by simp; omega
    go_enter Try.func119, Try.ntmps119
    go_wp2
    exact bodyPost_ret (by simp [results, Try.results119, go_sem]) rfl ⟨rfl, rfl⟩

/-- a mask of 128 bits, as two words -/
def mset (M : Nat × Nat) (i : Int) : Nat × Nat :=
  if 0 ≤ i ∧ i < 128 then (if i < 64 then (M.1 ||| 2 ^ i.toNat, M.2) else (M.1, M.2 ||| 2 ^ (i.toNat - 64))) else M
def mok (M : Nat × Nat) : Prop := M.1 < 2 ^ 64 ∧ M.2 < 2 ^ 64
theorem mset_ok {M : Nat × Nat} {i : Int} (h : mok M) : mok (mset M i) := by
  unfold mset
  split
  · split
    · exact ⟨Nat.or_lt_two_pow h.1 (Nat.pow_lt_pow_of_lt (by decide) (by omega)), h.2⟩
    · exact ⟨h.1, Nat.or_lt_two_pow h.2 (Nat.pow_lt_pow_of_lt (by decide) (by omega))⟩
  · exact h
theorem or_u64 {a b : Nat} (ha : a < 2 ^ 64) (hb : b < 2 ^ 64) : bits .or .u64 (a : Int) (b : Int) = ((a ||| b : Nat) : Int) := (bits_nat .u64 64 (by decide) wraps_u64 a b ha hb).2

set_option maxHeartbeats 800000 in
theorem with_any (a b : Nat) (i : Int) (w : World) (hM : mok (a, b)) :
   Calls Try.prog 107 #[.agg #[.int .u64 a, .int .u64 b], .int .i64 i] w fun e w' => e = .returned (.agg #[.int .u64 (mset (a, b) i).1, .int .u64 (mset (a, b) i).2]) ∧ Below w.heap.size w w' := by
  have hB : ∀ c d, Below w.heap.size w ((w.alloc (.cells c 83)).alloc (.cells d 83)) := fun c d => ((Below.refl _ _).alloc (Nat.le_refl _) _).alloc (by simp) _
  have hp : ∀ n, (2 : Nat) ^ (n % 64) < 2 ^ 64 := fun n => Nat.pow_lt_pow_of_lt (by decide) (by omega)
  by_cases hi : 0 ≤ i ∧ i < 128
  · obtain ⟨n, rfl⟩ := Int.eq_ofNat_of_zero_le hi.1
    have hn : n < 128 := by omega
    have hpn := hp n
    by_cases h6 : n < 64
    · have hq : n / 64 = 0 := by omega
      have hc : ∀ W, Calls Try.prog 119 #[.int .i64 n] W fun e w' => e = .returned (.tuple #[.int .i64 0, .int .u64 ((2 ^ (n % 64) : Nat) : Int), .bool true]) ∧ w' = W := fun W => by have := bit_any n W hn; rw [hq] at this; exact this
      have he : mset (a, b) n = (a ||| 2 ^ (n % 64), b) := by
        unfold mset; rw [if_pos hi, if_pos (by omega), Nat.mod_eq_of_lt h6]; rfl
      rw [he]
      generalize hP : (2 : Nat) ^ (n % 64) = P at hc hpn
      have ho := or_u64 hM.1 hpn
      go_enter Try.func107, Try.ntmps107
      go_wp2_with (go_at_call 119; refine (hc _).mono ?_; rintro e w3 ⟨rfl, rfl⟩)
      refine bodyPost_ret (v := .agg #[.int .u64 ((a ||| P : Nat) : Int), .int .u64 b]) (by simp [results, Try.results107, go_sem, ho]) rfl ⟨rfl, hB _ _⟩
    · have hq : n / 64 = 1 := by omega
      have hc : ∀ W, Calls Try.prog 119 #[.int .i64 n] W fun e w' => e = .returned (.tuple #[.int .i64 1, .int .u64 ((2 ^ (n % 64) : Nat) : Int), .bool true]) ∧ w' = W := fun W => by have := bit_any n W hn; rw [hq] at this; exact this
      have he : mset (a, b) n = (a, b ||| 2 ^ (n % 64)) := by
        unfold mset; rw [if_pos hi, if_neg (by omega), show n % 64 = n - 64 by omega]; rfl
      rw [he]
      generalize hP : (2 : Nat) ^ (n % 64) = P at hc hpn
      have ho := or_u64 hM.2 hpn
      go_enter Try.func107, Try.ntmps107
      go_wp2_with (go_at_call 119; refine (hc _).mono ?_; rintro e w3 ⟨rfl, rfl⟩)
      refine bodyPost_ret (v := .agg #[.int .u64 a, .int .u64 ((b ||| P : Nat) : Int)]) (by simp [results, Try.results107, go_sem, ho]) rfl ⟨rfl, hB _ _⟩
  · have he : mset (a, b) i = (a, b) := by unfold mset; rw [if_neg hi]
    rw [he]
    have hc := fun W => bit_out i W (by omega)
    go_enter Try.func107, Try.ntmps107
    go_wp2_with (go_at_call 119; refine (hc _).mono ?_; rintro e w3 ⟨rfl, rfl⟩)
    refine bodyPost_ret (v := .agg #[.int .u64 a, .int .u64 b]) (by simp [results, Try.results107, go_sem]) rfl ⟨rfl, hB _ _⟩
end Go.Proofs.Ytjjahefedpfnaaa
