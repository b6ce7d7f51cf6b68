import Derived.Test.YteodaakdjnjhmaaX2
namespace Go.Proofs.Yteodaakdjnjhmaa
open Go.RowKit
/-- three numbers as a call hands them back -/
def triV (q : Nat × Nat × Nat) : Value := .tuple #[.int .u64 q.1, .int .i64 q.2.1, .int .i64 q.2.2]
theorem pow128_9 {i : Nat} (h : i ≤ 9) : 128 ^ i ≤ 9223372036854775808 := by
  have : (128 : Nat) ^ i ≤ 128 ^ 9 := Nat.pow_le_pow_right (by decide) h
  have e : (128 : Nat) ^ 9 = 9223372036854775808 := by decide
  omega
/-- one more part of a number -/
theorem part_bound {i n c : Nat} (hi : i ≤ 9) (hn : n < 128 ^ i) (hc : i = 9 → c ≤ 1) : n + c % 128 * 128 ^ i < 18446744073709551616 ∧ c % 128 * 128 ^ i < 18446744073709551616 := by
  by_cases h9 : i = 9
  · subst h9
    have := hc rfl
    have e : (128 : Nat) ^ 9 = 9223372036854775808 := by decide
    have : c % 128 * 128 ^ 9 ≤ 1 * 128 ^ 9 := Nat.mul_le_mul_right _ (by omega)
    omega
  · have h8 : 128 ^ (i + 1) ≤ 9223372036854775808 := pow128_9 (by omega)
    rw [Nat.pow_succ] at h8
    have : c % 128 * 128 ^ i ≤ 127 * 128 ^ i := Nat.mul_le_mul_right _ (by omega)
    omega
theorem part_next {i n c : Nat} (hn : n < 128 ^ i) : n + c % 128 * 128 ^ i < 128 ^ (i + 1) := by
  rw [Nat.pow_succ]
  have : c % 128 * 128 ^ i ≤ 127 * 128 ^ i := Nat.mul_le_mul_right _ (by omega)
  omega
theorem or_part {i n c : Nat} (hn : n < 128 ^ i) : n ||| c % 128 * 128 ^ i = n + c % 128 * 128 ^ i := by
  have e : (128 : Nat) ^ i = 2 ^ (7 * i) := by rw [Nat.pow_mul]
  rw [e] at hn ⊢
  have := Nat.two_pow_add_eq_or_of_lt hn (c % 128)
  rw [Nat.or_comm, Nat.mul_comm (c % 128), ← this, Nat.add_comm]
theorem step_val {m x k : Nat} (hm : m < 128 ^ k) (hk : k ≤ 9) (hx : x < 256) (hc : k = 9 → x ≤ 1) :
    bits .or .u64 (m : Int) (IntKind.u64.wrap (IntKind.u64.wrap (bits .and .u8 (x : Int) 127) * 2 ^ (7 * k))) = ((m + x % 128 * 128 ^ k : Nat) : Int) := by
  have h1 := u8_and_nat x 127 hx (by decide)
  rw [show ((127 : Nat) : Int) = 127 from rfl] at h1
  have h2 : x &&& 127 = x % 128 := Nat.and_two_pow_sub_one_eq_mod x 7
  obtain ⟨b1, b2⟩ := part_bound hk hm hc
  have e : ((2 : Int) ^ (7 * k)) = ((128 ^ k : Nat) : Int) := by
    have h : (128 : Nat) ^ k = 2 ^ (7 * k) := by rw [Nat.pow_mul]
    rw [h]; simp
  have w1 : IntKind.u64.wrap ((x % 128 : Nat) : Int) = ((x % 128 : Nat) : Int) := by rw [IntKind.wrap_u64]; omega
  have w2 : IntKind.u64.wrap (((x % 128 * 128 ^ k : Nat)) : Int) = ((x % 128 * 128 ^ k : Nat) : Int) := by rw [IntKind.wrap_u64]; omega
  rw [h1, h2, w1, e, ← Int.natCast_mul, w2]
  have h3 := u64_or_nat m (x % 128 * 128 ^ k) (by have := pow128_9 hk; omega) b2
  rw [h3, or_part hm]
theorem triV_ret {q : Nat × Nat × Nat} {x y z : Int} (h : Hid (q = (x.toNat, y.toNat, z.toNat))) (hx : 0 ≤ x) (hy : 0 ≤ y) (hz : 0 ≤ z) : Ending.returned (triV q) = .returned (.tuple #[.int .u64 x, .int .i64 y, .int .i64 z]) := by
  rw [h.out]
  unfold triV
  simp only [show ((x.toNat : Nat) : Int) = x by omega, show ((y.toNat : Nat) : Int) = y by omega, show ((z.toNat : Nat) : Int) = z by omega]
set_option maxRecDepth 100000 in
set_option maxHeartbeats 1600000 in
theorem getShort_any {a : Option Addr} {c n : Nat} {bs : List Nat} {w : World} (hn : Hid (bs.length = n)) (hl : n ≤ 70368744177664) (hby : ∀ b ∈ bs, b < 256) (hrow : ByteRow w a bs) :
    Calls Try.prog 162 #[.slice a n c] w fun e w' => e = .returned (triV (getS bs)) ∧ w = w' := by
  obtain ⟨G, hG⟩ : ∃ G, getS bs = G := ⟨_, rfl⟩
  rw [hG]
  have HG : Hid (G = getFrom 0 0 bs) := hid hG.symm
  have HBY := hid hby
  clear hG hby
  go_enter Try.func162, Try.ntmps162
  go_wp2
  go_loop [2, 9] (fun v i => ∃ k m : Nat, k ≤ n ∧ k ≤ 9 ∧ m < 128 ^ k ∧ v = .int .u64 m ∧ i = .int .i64 k ∧ Hid (G = getFrom k m (bs.drop k))) (fun _ i => n - (intOf i).toNat)
  case atStart => exact ⟨0, 0, by omega, by omega, by decide, rfl, rfl, HG⟩
  case round =>
    obtain ⟨k, m, hk, hk9, hm, rfl, rfl, hM⟩ := hrel
    by_cases hlt : k < n
    · have hlt' : decide (k < n) = true := by simpa using hlt
      have hkb : k < bs.length := by rw [hn.out]; exact hlt
      obtain ⟨pb, po, x, rfl, hx, d1⟩ := hrow.at (Below.refl _ _) rfl hkb
      have hx256 : x < 256 := HBY.out x (by rw [hx]; exact List.getElem_mem _)
      have HGD := hid (getFrom_drop (i := k) (n := m) hkb hx)
      have HM := hid hm
      clear hx hm
      by_cases hA : k = 9 ∧ 1 < x
      · have HE : Hid (G = (0, 0, 5)) := hid (by rw [hM.out, HGD.out, if_pos hA])
        obtain ⟨h9, h1x⟩ := hA
        subst h9
        have t4 : decide (1 < x) = true := by simpa using h1x
        go_wp2
        exact bodyPost_ret (v := .tuple #[.int .u64 0, .int .i64 0, .int .i64 5]) (by simp [results, Try.results162, go_sem]) rfl ⟨(triV_ret (x := 0) (y := 0) (z := 5) HE (by decide) (by decide) (by decide)).symm, rfl⟩
      · by_cases h9 : k = 9
        · obtain rfl : k = 9 := h9
          have hx1 : x ≤ 1 := by
            by_cases h1 : 1 < x
            · exact absurd ⟨rfl, h1⟩ hA
            · omega
          have hsv := step_val (x := x) HM.out (by decide) hx256 (fun _ => hx1)
          have HSV := hid hsv
          have HA := hid hA
          clear hsv hA
          rcases (show x = 0 ∨ x = 1 by omega) with rfl | rfl
          · have HE : Hid (G = (0, 0, 5)) := hid (by rw [hM.out, HGD.out, if_neg HA.out, if_pos (by decide), if_pos (by decide)])
            go_wp2
            exact bodyPost_ret (v := .tuple #[.int .u64 0, .int .i64 0, .int .i64 5]) (by simp [results, Try.results162, go_sem]) rfl ⟨(triV_ret (x := 0) (y := 0) (z := 5) HE (by decide) (by decide) (by decide)).symm, rfl⟩
          · obtain ⟨N, hN⟩ : ∃ N, m + 1 % 128 * 128 ^ 9 = N := ⟨_, rfl⟩
            have HE : Hid (G = (N, 10, 0)) := hid (by rw [hM.out, HGD.out, if_neg HA.out, if_pos (by decide), if_neg (by decide), hN])
            rw [hN] at HSV
            clear hN
            go_wp2
            exact bodyPost_ret (v := .tuple #[.int .u64 ((N : Nat) : Int), .int .i64 (10), .int .i64 0]) (by simp [results, Try.results162, go_sem]; first | done | exact HSV.out | (have h := HSV.out; simpa using h)) rfl ⟨(triV_ret (x := ((N : Nat) : Int)) (y := 10) (z := 0) (hid (by rw [HE.out]; simp <;> omega)) (by omega) (by omega) (by decide)).symm, rfl⟩
        · have hsv := step_val (x := x) HM.out hk9 hx256 (fun h => absurd h h9)
          have HSV := hid hsv
          have HA := hid hA
          have hn9 := HM.out
          have H9 := hid h9
          have t1 : decide (k = 9) = false := by simpa using h9
          have t2 : decide ((k : Int) = 9) = false := by simp; omega
          have t3 : ((k : Int) == 9) = false := by simp; omega
          have hnx := part_next (c := x) HM.out
          have HNX := hid hnx
          obtain ⟨N, hN⟩ : ∃ N, m + x % 128 * 128 ^ k = N := ⟨_, rfl⟩
          rw [hN] at HSV HNX HGD
          clear hsv hA hn9 hnx hN h9
          by_cases hB : x < 128
          · have t4 : decide (x < 128) = true := by simpa using hB
            by_cases hx0 : x = 0
            · subst hx0
              by_cases hk0 : 0 < k
              · have t5 : decide (0 < k) = true := by simpa using hk0
                have HE : Hid (G = (0, 0, 5)) := hid (by rw [hM.out, HGD.out, if_neg HA.out, if_pos hB, if_pos ⟨rfl, hk0⟩])
                go_wp2
                exact bodyPost_ret (v := .tuple #[.int .u64 0, .int .i64 0, .int .i64 5]) (by simp [results, Try.results162, go_sem]) rfl ⟨(triV_ret (x := 0) (y := 0) (z := 5) HE (by decide) (by decide) (by decide)).symm, rfl⟩
              · have t5 : decide (0 < k) = false := by simpa using hk0
                have HE : Hid (G = (N, k + 1, 0)) := hid (by rw [hM.out, HGD.out, if_neg HA.out, if_pos hB, if_neg (fun h => hk0 h.2)])
                have h6 := HSV.out
                go_wp2
                exact bodyPost_ret (v := .tuple #[.int .u64 ((N : Nat) : Int), .int .i64 ((k : Int) + 1), .int .i64 0]) (by simp [results, Try.results162, go_sem]; first | done | exact HSV.out | (have h := HSV.out; simpa using h)) rfl ⟨(triV_ret (x := ((N : Nat) : Int)) (y := (k : Int) + 1) (z := 0) (hid (by rw [HE.out]; simp <;> omega)) (by omega) (by omega) (by decide)).symm, rfl⟩
            · have t6 : decide (x = 0) = false := by simpa using hx0
              have t7 : decide ((x : Int) = 0) = false := by simp; omega
              have t8 : ((x : Int) == 0) = false := by simp; omega
              have HE : Hid (G = (N, k + 1, 0)) := hid (by rw [hM.out, HGD.out, if_neg HA.out, if_pos hB, if_neg (fun h => hx0 h.1)])
              have h6 := HSV.out
              go_wp2
              exact bodyPost_ret (v := .tuple #[.int .u64 ((N : Nat) : Int), .int .i64 ((k : Int) + 1), .int .i64 0]) (by simp [results, Try.results162, go_sem]; first | done | exact HSV.out | (have h := HSV.out; simpa using h)) rfl ⟨(triV_ret (x := ((N : Nat) : Int)) (y := (k : Int) + 1) (z := 0) (hid (by rw [HE.out]; simp <;> omega)) (by omega) (by omega) (by decide)).symm, rfl⟩
          · have t4 : decide (x < 128) = false := by simpa using hB
            have hM2 : Hid (G = getFrom (k + 1) N (bs.drop (k + 1))) := hid (by rw [hM.out, HGD.out, if_neg HA.out, if_neg hB])
            have h6 := HSV.out
            go_wp2
            go_round
            case rel => exact ⟨k + 1, N, by omega, by have := H9.out; omega, HNX.out, rfl, by go_num, hM2⟩
            case measure => simp [intOf]; omega
    · have HE : Hid (G = (0, 0, 2)) := hid (by rw [hM.out, List.drop_eq_nil_of_le (by rw [hn.out]; omega)]; rfl)
      have hlt' : decide (k < n) = false := by simpa using hlt
      go_wp2
      exact bodyPost_ret (v := .tuple #[.int .u64 0, .int .i64 0, .int .i64 2]) (by simp [results, Try.results162, go_sem]) rfl ⟨(triV_ret (x := 0) (y := 0) (z := 2) HE (by decide) (by decide) (by decide)).symm, rfl⟩
end Go.Proofs.Yteodaakdjnjhmaa
