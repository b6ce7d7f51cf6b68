import Derived.Test.YtjjahefedpfnaaaA5
namespace Go.Proofs.Ytjjahefedpfnaaa
open Go.RowKit
/-- n bits of f from place k on, as a number -/
def hor (f : Nat → Bool) : Nat → Nat → Nat
  | _, 0 => 0
  | k, n + 1 => 2 * hor f (k + 1) n + (f k).toNat
theorem hor_bit (f : Nat → Bool) : ∀ (n k j : Nat), (hor f k n).testBit j = (decide (j < n) && f (k + j))
  | 0, k, j => by simp [hor]
  | n + 1, k, 0 => by
    simp only [hor, Nat.testBit_zero]
    cases f k <;> simp <;> omega
  | n + 1, k, j + 1 => by
    have hd : (2 * hor f (k + 1) n + (f k).toNat) / 2 = hor f (k + 1) n := by cases f k <;> simp <;> omega
    simp only [hor, Nat.testBit_succ, hd]
    rw [hor_bit f n (k + 1) j, show k + 1 + j = k + (j + 1) by omega]
    simp
theorem hor_lt (f : Nat → Bool) : ∀ (n k : Nat), hor f k n < 2 ^ n
  | 0, _ => by simp [hor]
  | n + 1, k => by
    have := hor_lt f n (k + 1)
    simp only [hor]
    rw [Nat.pow_succ]
    cases f k <;> simp <;> omega
/-- the bits of a mask -/
def maskF (M : Nat × Nat) (i : Nat) : Bool := if i < 64 then M.1.testBit i else M.2.testBit (i - 64)
theorem mask_hor {M : Nat × Nat} (h : mok M) : (hor (maskF M) 0 64, hor (maskF M) 64 64) = M := by
  obtain ⟨a, b⟩ := M
  obtain ⟨ha, hb⟩ := h
  simp only at ha hb
  congr 1
  · refine Nat.eq_of_testBit_eq fun j => ?_
    rw [hor_bit]
    by_cases hj : j < 64
    · simp [maskF, hj]
    · simp [hj, Nat.testBit_lt_two_pow (Nat.lt_of_lt_of_le ha (Nat.pow_le_pow_right (by decide) (Nat.le_of_not_lt hj)))]
  · refine Nat.eq_of_testBit_eq fun j => ?_
    rw [hor_bit]
    by_cases hj : j < 64
    · simp [maskF, hj]
      intro h; omega
    · simp [hj, Nat.testBit_lt_two_pow (Nat.lt_of_lt_of_le hb (Nat.pow_le_pow_right (by decide) (Nat.le_of_not_lt hj)))]
theorem maskF_in {M : Nat × Nat} {i : Int} (h : 0 ≤ i ∧ i < 128) (j : Nat) (hj : j < 128) : maskF (mset M i) j = (maskF M j || decide (j = i.toNat)) := by
  unfold mset maskF
  rw [if_pos h]
  by_cases h6 : i < 64
  · rw [if_pos h6]
    by_cases hj6 : j < 64
    · rw [if_pos hj6, if_pos hj6]
      simp only [Nat.testBit_or, Nat.testBit_two_pow]
      congr 1
      exact decide_eq_decide.mpr ⟨fun e => e.symm, fun e => e.symm⟩
    · rw [if_neg hj6, if_neg hj6]
      have : decide (j = i.toNat) = false := decide_eq_false (by omega)
      simp [this]
  · rw [if_neg h6]
    by_cases hj6 : j < 64
    · rw [if_pos hj6, if_pos hj6]
      have : decide (j = i.toNat) = false := decide_eq_false (by omega)
      simp [this]
    · rw [if_neg hj6, if_neg hj6]
      simp only [Nat.testBit_or, Nat.testBit_two_pow]
      congr 1
      exact decide_eq_decide.mpr (by omega)
theorem maskF_out {M : Nat × Nat} {i : Int} (h : ¬ (0 ≤ i ∧ i < 128)) : mset M i = M := by
  unfold mset; rw [if_neg h]
end Go.Proofs.Ytjjahefedpfnaaa
