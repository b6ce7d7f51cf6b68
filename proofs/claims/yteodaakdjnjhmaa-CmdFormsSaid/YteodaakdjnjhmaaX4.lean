import Derived.Test.YteodaakdjnjhmaaXE
import Derived.Deep.RegionWith
import Derived.Deep.RegionHeld3
namespace Go.Proofs.Yteodaakdjnjhmaa
open Go.RowKit
set_option maxRecDepth 100000 in
set_option maxHeartbeats 1600000 in
theorem getShortR_any {a : Option Addr} {c n : Nat} {bs : List Nat} {w : World} (hn : Hid (bs.length = n)) (hl : n ≤ 70368744177664) (hby : ∀ b ∈ bs, b < 256) (hrow : ByteRow w a bs) :
    Calls Try.prog 149 #[.slice a n c] w fun e w' => e = .returned (triV (getS bs)) ∧ w = w' := by
  obtain ⟨G, hG⟩ : ∃ G, getS bs = G := ⟨_, rfl⟩
  rw [hG]
  have HG : Hid (G = getFrom 0 0 bs) := hid hG.symm
  have HBY := hid hby
  clear hG hby
  go_enter Try.func149, Try.ntmps149
  go_wp2
  go_loop [5, 6, 7] (fun v u i => ∃ k m P : Nat, k ≤ n ∧ k ≤ 9 ∧ m < P ∧ Hid (P = 128 ^ k) ∧ v = .int .u64 m ∧ u = .int .u64 P ∧ i = .int .i64 k ∧ Hid (G = getFrom k m (bs.drop k))) (fun _ _ i => n - (intOf i).toNat)
  case atStart => exact ⟨0, 0, 1, by omega, by omega, by omega, rfl, rfl, rfl, rfl, HG⟩
  case round =>
    obtain ⟨k, m, P, hk, hk9, hm, hP, rfl, rfl, rfl, hM⟩ := hrel
    by_cases hlt : k < n
    · have hlt' : decide (k < n) = true := by simpa using hlt
      have hlt2 : decide ((k : Int) < 10) = true := by simp; omega
      have hlt3 : decide (k < 10) = true := by simp; omega
      have hkb : k < bs.length := by rw [hn.out]; exact hlt
      obtain ⟨pb, po, x, rfl, hx, d1⟩ := hrow.at (Below.refl _ _) rfl hkb
      have hx256 : x < 256 := HBY.out x (by rw [hx]; exact List.getElem_mem _)
      have HGD := hid (getFrom_drop (i := k) (n := m) hkb hx)
      have HM := hid hm
      have hP9 : P ≤ 9223372036854775808 := by rw [hP.out]; exact pow128_9 hk9
      clear hx
      by_cases hA : k = 9 ∧ 1 < x
      · have HE : Hid (G = (0, 0, 5)) := hid (by rw [hM.out, HGD.out, if_pos hA])
        obtain ⟨h9, h1x⟩ := hA
        subst h9
        have t4 : decide (1 < x) = true := by simpa using h1x
        go_wp2
        exact bodyPost_ret (v := .tuple #[.int .u64 0, .int .i64 0, .int .i64 5]) (by simp [results, Try.results149, go_sem]) rfl ⟨(triV_ret (x := 0) (y := 0) (z := 5) HE (by decide) (by decide) (by decide)).symm, rfl⟩
      · have hx1 : k = 9 → x ≤ 1 := fun h => by
          by_cases h1 : 1 < x
          · exact absurd ⟨h, h1⟩ hA
          · omega
        have hb2 := part_bound (c := x) hk9 (by rw [← hP.out]; exact hm) hx1
        have hnx := part_next (c := x) (i := k) (n := m) (by rw [← hP.out]; exact hm)
        rw [← hP.out] at hb2
        rw [← hP.out] at hnx HGD
        obtain ⟨Y, hY⟩ : ∃ Y, x % 128 * P = Y := ⟨_, rfl⟩
        rw [hY] at hb2 hnx HGD
        obtain ⟨hb1, hb2⟩ := hb2
        have eY : ((x : Int) % 128) * (P : Int) = ((Y : Nat) : Int) := by rw [← hY]; simp
        have HA := hid hA
        have HNX := hid hnx
        clear hY hA hnx
        by_cases h9 : k = 9
        · obtain rfl : k = 9 := h9
          have hx1' := hx1 rfl
          clear hx1
          rcases (show x = 0 ∨ x = 1 by omega) with rfl | rfl
          · have HE : Hid (G = (0, 0, 5)) := hid (by rw [hM.out, HGD.out, if_neg HA.out, if_pos (by decide), if_pos (by decide)])
            go_wp2
            exact bodyPost_ret (v := .tuple #[.int .u64 0, .int .i64 0, .int .i64 5]) (by simp [results, Try.results149, go_sem]) rfl ⟨(triV_ret (x := 0) (y := 0) (z := 5) HE (by decide) (by decide) (by decide)).symm, rfl⟩
          · have HE : Hid (G = (m + Y, 10, 0)) := hid (by rw [hM.out, HGD.out, if_neg HA.out, if_pos (by decide), if_neg (by decide)])
            have eY' : (P : Int) = (Y : Int) := by simpa using eY
            obtain rfl : P = Y := by omega
            clear eY eY'
            go_wp2
            exact bodyPost_ret (v := .tuple #[.int .u64 ((m : Int) + (P : Int)), .int .i64 (10), .int .i64 0]) (by simp [results, Try.results149, go_sem]) rfl ⟨(triV_ret (x := (m : Int) + (P : Int)) (y := 10) (z := 0) (hid (by rw [HE.out]; simp <;> omega)) (by omega) (by omega) (by decide)).symm, rfl⟩
        · have H9 := hid h9
          have t1 : decide (k = 9) = false := by simpa using h9
          have t2 : decide ((k : Int) = 9) = false := by simp; omega
          have t3 : ((k : Int) == 9) = false := by simp; omega
          clear h9
          have hP8 : P ≤ 72057594037927936 := by
            have h1 : (128 : Nat) ^ k ≤ 128 ^ 8 := Nat.pow_le_pow_right (by decide) (by have := H9.out; omega)
            have e : (128 : Nat) ^ 8 = 72057594037927936 := by decide
            rw [hP.out]; omega
          clear hx1
          by_cases hB : x < 128
          · have t4 : decide (x < 128) = true := by simpa using hB
            by_cases hx0 : x = 0
            · subst hx0
              have eY0 : Y = 0 := by simp at eY; omega
              subst eY0
              clear eY
              by_cases hk0 : 0 < k
              · have t5 : decide (0 < k) = true := by simpa using hk0
                have HE : Hid (G = (0, 0, 5)) := hid (by rw [hM.out, HGD.out, if_neg HA.out, if_pos hB, if_pos ⟨rfl, hk0⟩])
                go_wp2
                exact bodyPost_ret (v := .tuple #[.int .u64 0, .int .i64 0, .int .i64 5]) (by simp [results, Try.results149, go_sem]) rfl ⟨(triV_ret (x := 0) (y := 0) (z := 5) HE (by decide) (by decide) (by decide)).symm, rfl⟩
              · have t5 : decide (0 < k) = false := by simpa using hk0
                have HE : Hid (G = (m + 0, k + 1, 0)) := hid (by rw [hM.out, HGD.out, if_neg HA.out, if_pos hB, if_neg (fun h => hk0 h.2)])
                go_wp2
                exact bodyPost_ret (v := .tuple #[.int .u64 ((m : Int)), .int .i64 ((k : Int) + 1), .int .i64 0]) (by simp [results, Try.results149, go_sem]) rfl ⟨(triV_ret (x := (m : Int)) (y := (k : Int) + 1) (z := 0) (hid (by rw [HE.out]; simp <;> omega)) (by omega) (by omega) (by decide)).symm, rfl⟩
            · have t6 : decide (x = 0) = false := by simpa using hx0
              have t7 : decide ((x : Int) = 0) = false := by simp; omega
              have t8 : ((x : Int) == 0) = false := by simp; omega
              have HE : Hid (G = (m + Y, k + 1, 0)) := hid (by rw [hM.out, HGD.out, if_neg HA.out, if_pos hB, if_neg (fun h => hx0 h.1)])
              go_wp2
              exact bodyPost_ret (v := .tuple #[.int .u64 ((m : Int) + (Y : Int)), .int .i64 ((k : Int) + 1), .int .i64 0]) (by simp [results, Try.results149, go_sem]) rfl ⟨(triV_ret (x := (m : Int) + (Y : Int)) (y := (k : Int) + 1) (z := 0) (hid (by rw [HE.out]; simp <;> omega)) (by omega) (by omega) (by decide)).symm, rfl⟩
          · have t4 : decide (x < 128) = false := by simpa using hB
            have hM2 : Hid (G = getFrom (k + 1) (m + Y) (bs.drop (k + 1))) := hid (by rw [hM.out, HGD.out, if_neg HA.out, if_neg hB])
            go_wp2
            go_round
            case rel => exact ⟨k + 1, m + Y, P * 128, by omega, by have := H9.out; omega, by rw [hP.out, ← Nat.pow_succ]; exact HNX.out, hid (by rw [hP.out, Nat.pow_succ]), by go_num, by go_num, by go_num, hM2⟩
            case measure => simp [intOf]; omega
    · have HE : Hid (G = (0, 0, 2)) := hid (by rw [hM.out, List.drop_eq_nil_of_le (by rw [hn.out]; omega)]; rfl)
      have hlt' : decide (k < n) = false := by simpa using hlt
      go_wp2
      exact bodyPost_ret (v := .tuple #[.int .u64 0, .int .i64 0, .int .i64 2]) (by simp [results, Try.results149, go_sem]) rfl ⟨(triV_ret (x := 0) (y := 0) (z := 2) HE (by decide) (by decide) (by decide)).symm, rfl⟩
end Go.Proofs.Yteodaakdjnjhmaa
