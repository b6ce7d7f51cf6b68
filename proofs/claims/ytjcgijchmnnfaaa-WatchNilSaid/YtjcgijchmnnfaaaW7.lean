import Derived.Test.YtjcgijchmnnfaaaW6
namespace Go.Proofs.Ytjcgijchmnnfaaa
open Go.RowKit

/-- the lists' lengths, together -/
def lens (ls : List (List Pid)) : Nat := (ls.map List.length).sum
theorem lens_take_succ {ls : List (List Pid)} {k : Nat} (h : k < ls.length) : lens (ls.take (k + 1)) = lens (ls.take k) + ls[k].length := by
  unfold lens
  rw [List.take_succ_eq_append_getElem h, List.map_append, List.sum_append]
  simp only [List.map_cons, List.map_nil, List.sum_cons, List.sum_nil, Nat.add_zero]
theorem lens_take_le (ls : List (List Pid)) (k : Nat) : lens (ls.take k) ≤ lens ls := by
  unfold lens
  have h : ls = ls.take k ++ ls.drop k := (List.take_append_drop k ls).symm
  conv => rhs; rw [h]
  rw [List.map_append, List.sum_append]
  omega
theorem lens_take_all {ls : List (List Pid)} {k : Nat} (h : ls.length ≤ k) : lens (ls.take k) = lens ls := by rw [List.take_of_length_le h]
theorem flatten_take_succ {ls : List (List Pid)} {k : Nat} (h : k < ls.length) : (ls.take (k + 1)).flatten = (ls.take k).flatten ++ ls[k] := by
  rw [List.take_succ_eq_append_getElem h, List.flatten_append]; simp only [List.flatten_cons, List.flatten_nil, List.append_nil]
theorem lens_flatten (ls : List (List Pid)) : ls.flatten.length = lens ls := by unfold lens; rw [List.length_flatten]

set_option maxRecDepth 100000 in
set_option maxHeartbeats 800000 in
theorem concat_any (a : Option Addr) (c : Nat) (ls : List (List Pid)) (w : World) (hn : ls.length ≤ 70368744177664) (hl : lens ls ≤ 549755813888) (hrow : LeafRow w a ls) :
   Calls Try.prog 64 #[.slice a ls.length c] w fun e w' => ∃ v, e = .returned v ∧ OwnP w' w.heap.size v ls.flatten ∧ Below w.heap.size w w' := by
  go_enter Try.func64, Try.ntmps64
  go_wp2
  go_loop [3, 11] (fun n i => ∃ (k : Nat), k ≤ ls.length ∧ i = .int .i64 k ∧ n = .int .i64 (lens (ls.take k))) (fun _ i => ls.length - (intOf i).toNat)
  case atStart => exact ⟨0, Nat.zero_le _, rfl, by simp [lens]⟩
  case round =>
    obtain ⟨k, hk, rfl, rfl⟩ := hrel
    have hle := lens_take_le ls k
    by_cases hlt : k < ls.length
    · obtain ⟨b, off, ai, ci, l, rfl, hx, d1, d2⟩ := hrow.at (Below.refl _ _) rfl hlt
      have hs := lens_take_succ hlt
      rw [← hx] at hs
      have hle' := lens_take_le ls (k + 1)
      have HS := hid hs
      have hl2 : lens (ls.take k) + l.length ≤ 549755813888 := by omega
      clear hs hx hle'
      generalize hT : lens (ls.take k) = T at *
      have HT := hid hT
      clear hT
      go_wp2
      go_round
      case rel => exact ⟨k + 1, by omega, by go_num, by rw [HS.out]; go_num⟩
      case measure => simp [intOf]; omega
    · have hall := lens_take_all (ls := ls) (k := k) (by omega)
      rw [hall]
      clear hall hle
      go_wp2_with (go_at_call 93; refine (grow_any _ _ (by omega)).mono ?_; rintro e w1 ⟨v1, rfl, hown1, hb1⟩)
      go_loopw [6, 27] (fun v i wr => ∃ (k : Nat), k ≤ ls.length ∧ i = .int .i64 k ∧ OwnP wr w.heap.size v (ls.take k).flatten ∧ Below w.heap.size w wr) (fun _ i _ => ls.length - (intOf i).toNat)
      case atStart => exact ⟨0, Nat.zero_le _, rfl, by simpa using hown1, hb1⟩
      case round =>
        obtain ⟨j, hj, rfl, hown, hb⟩ := hrel
        by_cases hjt : j < ls.length
        · obtain ⟨b, off, ai, ci, l, rfl, hx, d1, d2⟩ := hrow.at hb rfl hjt
          have hf := flatten_take_succ hjt
          have hs := lens_take_succ hjt
          rw [← hx] at hf hs
          have hle' := lens_take_le ls (j + 1)
          have hlf := lens_flatten (ls.take j)
          have HF := hid hf
          have hl2 : (ls.take j).flatten.length + l.length ≤ 1099511627776 := by omega
          clear hs hx hf hlf hle' hrow
          generalize hT : (ls.take j).flatten = T at *
          have HT := hid hT
          clear hT
          go_wp2_with (at_builtin; refine wpList_appendP hown d2 hl2 hb.size rfl rfl rfl rfl ?_; intro v2 w2 hown2 hg2 hnil2)
          go_roundw
          case rel => exact ⟨j + 1, by omega, by go_num, by rw [HF.out]; exact hown2, hb.grown hg2 hb.size (fun g hg => (World.ownsRow.lt hown g hg).1)⟩
          case measure => simp [intOf]; omega
        · have hall : (ls.take j).flatten = ls.flatten := by rw [List.take_of_length_le (by omega)]
          rw [hall] at hown
          clear hall
          go_wp2
          go_ret
          exact ⟨_, rfl, hown, hb⟩
end Go.Proofs.Ytjcgijchmnnfaaa
