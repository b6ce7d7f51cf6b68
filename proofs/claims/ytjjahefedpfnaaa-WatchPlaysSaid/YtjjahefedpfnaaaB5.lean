import Derived.Test.YtjjahefedpfnaaaH3
import Derived.Test.YtjjahefedpfnaaaOpenB
namespace Go.Proofs.Ytjjahefedpfnaaa
open Go.RowKit
abbrev onL (n : Int) : List (Pid × Int) := [((1, 1), n)]
theorem onL_nd (n : Int) : (keys (onL n)).Nodup := by simp [keys]
theorem onL_ok (n : Int) : ∀ p ∈ keys (onL n), ok p := by simp [keys, ok]
theorem onL_late_no {T n : Int} (h : n < T) : sortL (lateL T (onL n)) = [] := by
  have : lateL T (onL n) = [] := by simp [lateL, keys, List.filter_cons, show ¬ T ≤ n by omega]
  rw [this]; simp [sortL]
theorem onL_late_yes {T n : Int} (h : T ≤ n) : sortL (lateL T (onL n)) = [(1, 1)] := by
  have : lateL T (onL n) = [(1, 1)] := by simp [lateL, keys, List.filter_cons, h]
  rw [this]; simp [sortL]
theorem onL_tick {T n m : Int} (h : min (n + 1) T = m) : tickL T (onL n) = onL m := by simp [tickL, h]
theorem newWatch_is {t T : Int} (h : max t 1 = T) (w : World) : Calls Try.prog 14 #[.int .i64 t] w fun e w' => ∃ s r, e = .returned (.pointer (some ⟨s, 0, none⟩)) ∧ w.heap.size ≤ s ∧ w.heap.size ≤ r ∧ WatchIs w' s r T [] ∧ Below w.heap.size w w' := by
  have := newWatch_any t w
  rw [h] at this; exact this

set_option maxRecDepth 100000 in
set_option maxHeartbeats 3200000 in
theorem watchBeats_law (t : Int) (a : Option Addr) (c : Nat) (xs : List Int) (w : World) (ht : 0 ≤ t ∧ t ≤ 255) (hx : BRow w a xs) (hwf : WfBytes xs) (hb : xs.length ≤ 140737488355328 ∧ xs.length ≤ c) :
    Calls Try.prog 4 #[.int .u8 t, .slice a xs.length c] w fun e w' => e = .returned (.bool true) ∧ Below w.heap.size w w' := by
  obtain ⟨t0, t1⟩ := ht
  obtain ⟨hlen, -⟩ := hb
  obtain ⟨n, hn⟩ : ∃ n : Int, 1 + t % 20 = n := ⟨_, rfl⟩
  have n0 : 1 ≤ n := by omega
  have n1 : n ≤ 20 := by omega
  have HN := hid hn
  have HWF := hid hwf
  clear hn hwf
  go_enter Try.func4, Try.ntmps4
  go_wp2_with fail
  rw [HN.out]
  refine (newWatch_is (T := n) (by omega) _).mono ?_
  rintro e w1 ⟨s, r, rfl, hs, hr, hW1, hb1⟩
  have z1 := hb1.size
  go_wp2_with fail
  refine (one_any _).mono ?_
  rintro e w2 ⟨rfl, hb2⟩
  have z2 := hb2.size
  go_wp2_with fail
  refine (follow_is (L' := onL 0) (by decide) (by decide) (PidRow.one _ 1 1) ((hW1.ext hb2).alloc _)).mono ?_
  rintro e w3 ⟨r3, rfl, hr3, hW3, hm3⟩
  have hB3 : Below w.heap.size w w3 := (((hb1.trans (hb2.mono z1)).alloc (by omega) _)).trans (hm3.below (by simp; omega) (fun k hk => by omega))
  have hr3' : w.heap.size ≤ r3 := by simp at hr3; omega
  clear hm3 hr3 hb1 hb2 z1 z2 hW1 hr r
  go_wp2_with fail
  go_loopw [4, 7] (fun rs i wr => rs = .bool false ∧ ∃ (k : Nat), k ≤ xs.length ∧ i = .int .i64 k ∧ WatchIs wr s r3 n (onL 0) ∧ Below w.heap.size w wr) (fun _ i _ => xs.length - (intOf i).toNat)
  case atStart => exact ⟨rfl, 0, Nat.zero_le _, rfl, hW3, hB3⟩
  case round =>
    obtain ⟨rfl, k, hk, rfl, hW, hB⟩ := hrel
    by_cases hgo : k < xs.length ∧ k < 40
    · obtain ⟨hlt, h40⟩ := hgo
      obtain ⟨b, off, x, rfl, hpx, d1⟩ := (hx.ext hB).at (Below.refl _ _) rfl hlt
      obtain ⟨x0, x1⟩ := HWF.out x (by rw [hpx]; exact List.getElem_mem _)
      have hl1 : decide (k < xs.length) = true := by simpa using hlt
      have hl2 : decide ((k : Int) < (xs.length : Int)) = true := by simp; omega
      have hl3 : decide (k < 40) = true := by simpa using h40
      have hl4 : decide ((k : Int) < 40) = true := by simp; omega
      obtain ⟨g, hg⟩ : ∃ g : Int, x % n = g := ⟨_, rfl⟩
      have g0 : 0 ≤ g := by rw [← hg]; exact Int.emod_nonneg _ (by omega)
      have g1 : g < n := by rw [← hg]; exact Int.emod_lt_of_pos _ (by omega)
      have htm : x.tmod n = g := by rw [Int.tmod_eq_emod_of_nonneg x0]; exact hg
      have hn0 : (n == 0) = false := by rw [beq_eq_false_iff_ne]; omega
      have HX := hid (hx.ext hB)
      clear hpx hg hk
      obtain ⟨wo, hwo⟩ : ∃ wo : World, wo = wr := ⟨_, rfl⟩
      have d1' : wo.cell? ⟨b, off + k, none⟩ = some (.int .u8 x) := by rw [hwo]; exact d1
      have hBo : Below w.heap.size w wo := by rw [hwo]; exact hB
      have hoo : Below wo.heap.size wo wr := by rw [hwo]; exact Below.refl _ _
      clear hwo d1 hB HX
      go_wp2
      go_loopw [4, 8] (fun rs j wq => rs = .bool false ∧ ∃ (m : Nat), (m : Int) ≤ g ∧ j = .int .i64 m ∧ WatchIs wq s r3 n (onL m) ∧ Below w.heap.size w wq ∧ wq.cell? ⟨b, off + k, none⟩ = some (.int .u8 x)) (fun _ j _ => (g - intOf j).toNat)
      case atStart => exact ⟨rfl, 0, g0, rfl, hW, hBo.trans (hoo.mono hBo.size), cell_to d1' hoo⟩
      case round =>
        obtain ⟨rfl, m, hm, rfl, hWq, hBq, dq⟩ := hrel
        clear hW hoo
        by_cases hmg : (m : Int) < g
        · go_wp2_with fail
          refine (tick_is (L' := onL ((m : Int) + 1)) (onL_tick (by omega)) hWq (onL_nd _) (by simp; omega)).mono ?_
          rintro e w4 ⟨rfl, hW4, hm4⟩
          have hB4 : Below w.heap.size w w4 := hBq.trans (hm4.below hBq.size (fun k hk => by omega))
          have d4 : w4.cell? ⟨b, off + k, none⟩ = some (.int .u8 x) := by
            have hne : b ≠ r3 := fun e => by
              obtain ⟨es, cl, h2, _⟩ := hWq.map
              subst e
              simp [World.cell?, h2] at dq
            exact (hm4.cell (p := ⟨b, off + k, none⟩) (World.block_lt_of_cell? _ _ dq) hne).trans dq
          clear hm4 hBq dq hWq
          go_wp2_with fail
          refine (late_is (onL_late_no (T := n) (n := (m : Int) + 1) (by omega)) hW4 (onL_nd _) (onL_ok _) (by simp)).mono ?_
          rintro e w5 ⟨a5, c5, rfl, hrow5, hb5⟩
          have hW5 := hW4.ext hb5
          have hB5 := hB4.trans (hb5.mono hB4.size)
          have d5 := cell_to d4 hb5
          clear hb5 hW4 hB4 d4 hrow5
          go_wp2
          go_roundw
          case rel => exact ⟨rfl, m + 1, by omega, by go_num, by rw [show ((m + 1 : Nat) : Int) = (m : Int) + 1 by omega]; exact hW5, hB5, d5⟩
          case measure => simp [intOf]; omega
        · go_wp2_with fail
          refine (one_any _).mono ?_
          rintro e w4 ⟨rfl, hb4⟩
          have hW4 := hWq.ext hb4
          have hB4 := hBq.trans (hb4.mono hBq.size)
          clear hb4 hWq hBq dq
          go_wp2_with fail
          refine (heard_is (b := true) (L' := onL 0) (by simp [look]) (by simp [look, ins]) hW4 (by simp)).mono ?_
          rintro e w5 ⟨rfl, hW5, hm5⟩
          have hB5 : Below w.heap.size w w5 := hB4.trans (hm5.below hB4.size (fun k hk => by omega))
          clear hm5 hW4 hB4
          go_wp2
          go_roundw
          case rel => exact ⟨rfl, k + 1, by omega, by go_num, hW5, hB5⟩
          case measure => simp [intOf]; omega
    · have hL1 := hid (onL_late_yes (T := n) (n := n) (by omega))
      by_cases hlt : k < xs.length
      · have hl1 : decide (k < xs.length) = true := by simpa using hlt
        have hl2 : decide ((k : Int) < (xs.length : Int)) = true := by simp; omega
        have hl3 : decide (k < 40) = false := by simp; omega
        have hl4 : decide ((k : Int) < 40) = false := by simp; omega
        go_wp2
        go_loopw [4, 9] (fun rs j wr => rs = .bool false ∧ ∃ (m : Nat), (m : Int) ≤ n ∧ j = .int .i64 m ∧ WatchIs wr s r3 n (onL m) ∧ Below w.heap.size w wr) (fun _ j _ => (n - intOf j).toNat)
        case atStart => exact ⟨rfl, 0, by omega, rfl, hW, hB⟩
        case round =>
          obtain ⟨rfl, m, hm, rfl, hWq, hBq⟩ := hrel
          by_cases hmn : (m : Int) < n
          · go_wp2_with fail
            refine (late_is (onL_late_no (T := n) (n := (m : Int)) hmn) hWq (onL_nd _) (onL_ok _) (by simp)).mono ?_
            rintro e w5 ⟨a5, c5, rfl, hrow5, hb5⟩
            have hW5 := hWq.ext hb5
            have hB5 := hBq.trans (hb5.mono hBq.size)
            clear hb5 hWq hBq hrow5
            go_wp2_with fail
            refine (tick_is (L' := onL ((m : Int) + 1)) (onL_tick (by omega)) hW5 (onL_nd _) (by simp; omega)).mono ?_
            rintro e w6 ⟨rfl, hW6, hm6⟩
            have hB6 : Below w.heap.size w w6 := hB5.trans (hm6.below hB5.size (fun k hk => by omega))
            clear hm6 hB5 hW5
            go_wp2
            go_roundw
            case rel => exact ⟨rfl, m + 1, by omega, by go_num, by rw [show ((m + 1 : Nat) : Int) = (m : Int) + 1 by omega]; exact hW6, hB6⟩
            case measure => simp [intOf]; omega
          · have hmeq : (m : Int) = n := by omega
            rw [hmeq] at hWq
            clear hmeq
            go_wp2_with fail
            refine (late_is hL1.out hWq (onL_nd _) (onL_ok _) (by simp)).mono ?_
            rintro e w5 ⟨a5, c5, rfl, hrow5, hb5⟩
            go_wp2_with (go_at_call 15; refine (awakeWatch_any _).mono ?_; rintro e w6 ⟨rfl, hb6⟩)
            go_ret
            exact ⟨rfl, (hBq.trans (hb5.mono hBq.size)).trans (hb6.mono (by have := hBq.size; have := hb5.size; omega))⟩
      · have hl1 : decide (k < xs.length) = false := by simp; omega
        have hl2 : decide ((k : Int) < (xs.length : Int)) = false := by simp; omega
        go_wp2
        go_loopw [4, 9] (fun rs j wr => rs = .bool false ∧ ∃ (m : Nat), (m : Int) ≤ n ∧ j = .int .i64 m ∧ WatchIs wr s r3 n (onL m) ∧ Below w.heap.size w wr) (fun _ j _ => (n - intOf j).toNat)
        case atStart => exact ⟨rfl, 0, by omega, rfl, hW, hB⟩
        case round =>
          obtain ⟨rfl, m, hm, rfl, hWq, hBq⟩ := hrel
          by_cases hmn : (m : Int) < n
          · go_wp2_with fail
            refine (late_is (onL_late_no (T := n) (n := (m : Int)) hmn) hWq (onL_nd _) (onL_ok _) (by simp)).mono ?_
            rintro e w5 ⟨a5, c5, rfl, hrow5, hb5⟩
            have hW5 := hWq.ext hb5
            have hB5 := hBq.trans (hb5.mono hBq.size)
            clear hb5 hWq hBq hrow5
            go_wp2_with fail
            refine (tick_is (L' := onL ((m : Int) + 1)) (onL_tick (by omega)) hW5 (onL_nd _) (by simp; omega)).mono ?_
            rintro e w6 ⟨rfl, hW6, hm6⟩
            have hB6 : Below w.heap.size w w6 := hB5.trans (hm6.below hB5.size (fun k hk => by omega))
            clear hm6 hB5 hW5
            go_wp2
            go_roundw
            case rel => exact ⟨rfl, m + 1, by omega, by go_num, by rw [show ((m + 1 : Nat) : Int) = (m : Int) + 1 by omega]; exact hW6, hB6⟩
            case measure => simp [intOf]; omega
          · have hmeq : (m : Int) = n := by omega
            rw [hmeq] at hWq
            clear hmeq
            go_wp2_with fail
            refine (late_is hL1.out hWq (onL_nd _) (onL_ok _) (by simp)).mono ?_
            rintro e w5 ⟨a5, c5, rfl, hrow5, hb5⟩
            go_wp2_with (go_at_call 15; refine (awakeWatch_any _).mono ?_; rintro e w6 ⟨rfl, hb6⟩)
            go_ret
            exact ⟨rfl, (hBq.trans (hb5.mono hBq.size)).trans (hb6.mono (by have := hBq.size; have := hb5.size; omega))⟩
end Go.Proofs.Ytjjahefedpfnaaa
