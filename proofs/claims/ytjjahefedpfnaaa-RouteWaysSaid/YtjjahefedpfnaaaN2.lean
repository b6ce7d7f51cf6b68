import Derived.Test.YtjjahefedpfnaaaN1
namespace Go.Proofs.Ytjjahefedpfnaaa
open Go.RowKit
section
variable (x y : Int) (a : Option Addr) (c : Nat) (xs : List Pid) (w : World)
theorem hasNil_any : Calls Try.prog 44 #[.pointer none, .agg #[.int .u16 x, .int .u32 y]] w fun e w' => e = .returned (.bool false) ∧ Below w.heap.size w w' := by
  go_enter Try.func44, Try.ntmps44
  go_wp2
  go_ret
  exact ⟨rfl, (Below.refl _ _).alloc (Nat.le_refl _) _⟩
theorem addNil_any : Calls Try.prog 41 #[.pointer none, .agg #[.int .u16 x, .int .u32 y]] w fun e w' => e = .returned (.bool false) ∧ Below w.heap.size w w' := by
  go_enter Try.func41, Try.ntmps41
  go_wp2
  go_ret
  exact ⟨rfl, (Below.refl _ _).alloc (Nat.le_refl _) _⟩
theorem dropNil_any : Calls Try.prog 38 #[.pointer none, .agg #[.int .u16 x, .int .u32 y]] w fun e w' => e = .returned (.bool false) ∧ Below w.heap.size w w' := by
  go_enter Try.func38, Try.ntmps38
  go_wp2_with (go_at_call 44; refine (hasNil_any _ _ _).mono ?_; rintro e w3 ⟨rfl, hb3⟩)
  go_ret
  exact ⟨rfl, ((Below.refl _ _).alloc (Nat.le_refl _) _).trans (hb3.mono (by simp))⟩
theorem lenNil_any : Calls Try.prog 42 #[.pointer none] w fun e w' => e = .returned (.int .i64 0) ∧ Below w.heap.size w w' := by
  go_enter Try.func42, Try.ntmps42
  go_wp2
  go_ret
  exact ⟨rfl, Below.refl _ _⟩
theorem listNil_any : Calls Try.prog 43 #[.pointer none] w fun e w' => e = .returned (.slice none 0 0) ∧ Below w.heap.size w w' := by
  go_enter Try.func43, Try.ntmps43
  go_wp2
  go_ret
  exact ⟨rfl, Below.refl _ _⟩
set_option maxHeartbeats 800000 in
theorem unionNil_any (hn : xs.length ≤ 70368744177664) (hrow : PidRow w a xs) : Calls Try.prog 39 #[.pointer none, .slice a xs.length c] w fun e w' => e = .returned (.int .i64 0) ∧ Below w.heap.size w w' := by
  go_enter Try.func39, Try.ntmps39
  go_wp2
  go_loopw [5, 10] (fun n i wr => ∃ (k : Nat), k ≤ xs.length ∧ i = .int .i64 k ∧ n = .int .i64 0 ∧ Below w.heap.size w wr) (fun _ i _ => xs.length - (intOf i).toNat)
  case atStart => exact ⟨0, Nat.zero_le _, rfl, rfl, Below.refl _ _⟩
  case round =>
    obtain ⟨k, hk, rfl, rfl, hb⟩ := hrel
    by_cases hlt : k < xs.length
    · obtain ⟨b, off, x, y, rfl, hx, d1, d2⟩ := hrow.at hb rfl hlt
      clear hx hrow
      go_wp2_with (go_at_call 41; refine (addNil_any _ _ _).mono ?_; rintro e w3 ⟨rfl, hb3⟩)
      go_roundw
      case rel => exact ⟨k + 1, by omega, by go_num, rfl, (hb.alloc hb.size _).trans (hb3.mono (by have := hb.size; simp; omega))⟩
      case measure => simp [intOf]; omega
    · go_wp2
      go_ret
      exact ⟨rfl, hb⟩
set_option maxHeartbeats 800000 in
theorem keepNil_any (hn : xs.length ≤ 70368744177664) (hrow : PidRow w a xs) : Calls Try.prog 40 #[.pointer none, .slice a xs.length c] w fun e w' => e = .returned (.int .i64 0) ∧ Below w.heap.size w w' := by
  go_enter Try.func40, Try.ntmps40
  go_wp2_with (first | (go_at_call 34; refine (new_any _ _ _ _ hn hrow).mono ?_; rintro e w3 ⟨s, r, rfl, hs, hr, hS, hb3⟩) | (go_at_call 43; refine (listNil_any _).mono ?_; rintro e w4 ⟨rfl, hb4⟩))
  refine wp_loop_rounds 1 ?_
  rw [rounds_succ]
  go_wp2
  go_ret
  exact ⟨rfl, hb3.trans (hb4.mono hb3.size)⟩
end
theorem sortL_eq {xs ys : List Pid} (h : ys.Perm xs) (hs : ys.Pairwise fun x y => (!(ahead y x)) = true) (hok : ∀ p ∈ ys, ok p) : sortL xs = ys := by
  rw [← sortL_perm h hok]
  exact List.mergeSort_of_pairwise hs
set_option maxRecDepth 100000 in
set_option maxHeartbeats 1600000 in
theorem awakeSet_any (w : World) : Calls Try.prog 28 #[] w fun e w' => e = .returned (.bool true) ∧ Below w.heap.size w w' := by
  have l1 : (look ((3, 1) : Pid) (unionL [] [(4, 1), (2, 1)])).isSome = false := by decide
  have l2 : (look ((3, 1) : Pid) (add1 (3, 1) (unionL [] [(4, 1), (2, 1)]))).isSome = true := by decide
  have l3 : (keys (add1 (3, 1) (add1 (3, 1) (unionL [] [(4, 1), (2, 1)])))) = [(4, 1), (2, 1), (3, 1)] := by decide
  have ho : ∀ p ∈ ([(4, 1), (2, 1), (3, 1)] : List Pid), ok p := by simp [ok]
  have hq : sortL [(4, 1), (2, 1), (3, 1)] = [(2, 1), (3, 1), (4, 1)] := sortL_eq (by decide) (by decide) (by simp [ok])
  have l5 : (add1 (3, 1) (add1 (3, 1) (unionL [] [(4, 1), (2, 1)]))).length ≤ 549755813888 := by decide
  have L1 := hid l1
  have L2 := hid l2
  have L3 := hid l3
  have HO := hid ho
  have HQ := hid hq
  have L5 := hid l5
  clear l1 l2 l3 ho hq l5
  have hB0 : Below w.heap.size w (w.alloc (.cells #[.int .u16 4, .int .u32 1, .int .u16 2, .int .u32 1] 32)) := (Below.refl _ _).alloc (Nat.le_refl _) _
  go_enter Try.func28, Try.ntmps28
  go_wp2_with (go_at_call 34; refine (new_any _ _ [(4, 1), (2, 1)] _ (by decide) (PidRow.two _ _ _ _ _)).mono ?_; rintro e w3 ⟨s, r, rfl, hs, hr, hS, hb3⟩)
  refine (add_is _ _ _ _ _ L1.out _ hS).mono ?_
  rintro e w4 ⟨rfl, hS4, hm4⟩
  go_wp2_with fail
  refine (add_is _ _ _ _ _ L2.out _ hS4).mono ?_
  rintro e w5 ⟨rfl, hS5, hm5⟩
  have hb5 : Below w.heap.size w w5 := (hB0.trans (hb3.mono hB0.size)).trans ((hm4.trans hm5).below (by have := hb3.size; simp at this; omega) (fun k hk => by subst hk; simp at hr; omega))
  go_wp2_with (first
    | (go_at_call 43; refine (list_any _ _ _ _ hS5 (by rw [L3.out]; decide) (by rw [L3.out]; exact HO.out) L5.out).mono ?_; rintro e w6 ⟨v, rfl, hown6, hb6⟩; rw [L3.out, HQ.out] at hown6; obtain ⟨a6, c6, rfl, hrow6, -⟩ := hown6.row)
    | (go_at_call 24; refine (sameR_is (xs := [(2, 1), (3, 1), (4, 1)]) (ys := [(2, 1), (3, 1), (4, 1)]) (bm := true) (hid (by decide)) (by decide) (by decide) (hrow6.alloc _) (PidRow.three _ _ _ _ _ _ _)).mono ?_; rintro e w7 ⟨rfl, hb7⟩))
  go_ret
  exact ⟨rfl, (hb5.trans (hb6.mono hb5.size)).trans ((((Below.refl _ _).alloc (Nat.le_refl _) _).trans (hb7.mono (by simp))).mono (by have := hb5.size; have := hb6.size; omega))⟩

end Go.Proofs.Ytjjahefedpfnaaa
