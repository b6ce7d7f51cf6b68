/- Parts of the proof: X23. -/
import Derived.Test.YtehagnbphamjhaaGreatDoorGPlayBack8
namespace Go.Proofs.YtehagnbphamjhaaGreatDoor
open Go.RowKit
/-! view.members, ranks, rising, slices.Grow, Concat, view.Check -/
set_option maxRecDepth 100000 in
set_option maxHeartbeats 400000 in
theorem grow_any (n : Nat) (w : World) (hn : n ≤ 1099511627776) :
   Calls Tryz.prog 248 #[.slice none 0 0, .int .i64 n] w fun e w' => ∃ v, e = .returned v ∧ OwnP w' w.heap.size v [] ∧ Below w.heap.size w w' := by
  obtain ⟨i0, hi, hz0, hz1, hz2⟩ := info_parts info36
  by_cases h0 : n = 0
  · subst h0
    go_enter Tryz.func248, Tryz.ntmps248
    go_wp2
    go_ret
    exact ⟨_, rfl, OwnP.nil _ _, Below.refl _ _⟩
  · have h1 : (0 : Int) < n := by omega
    have hrz : ∀ ty, (Builtin.append_ #[51, 3] ty #[.slice none 0 0, .int .i64 n]).run Tryz.prog w =
        .ok (.slice (some ⟨w.heap.size, 0, none⟩) n (grownCap w n 0 46)) (w.drew.alloc (.cells ((#[] : Array Value) ++ Builtin.zeroCells #[.int .u16 0, .int .u32 0] n ++ Builtin.zeroCells #[.int .u16 0, .int .u32 0] (grownCap w n 0 46 - n)) 46)) := fun ty => by
      have h := Lib.run_append_grow_zeros w 51 3 ty 46 i0 _ .i64 .i64 Tryz.underlying51 Tryz.underlying3 hi hz0 none 0 0 [] (run_firstCells_none w.drew i0.size 0 0 0) n (by omega) (by omega) (by omega) (by omega) (by rw [hz2]; omega) (by rw [hz2]; simp [Builtin.nextslicecap]; split <;> omega)
      simpa [Value.cells] using h
    have hGn : n ≤ grownCap w n 0 46 := grownCap_ge w _ _ _
    have hG63 : grownCap w n 0 46 ≤ maxLen := grownCap_le_maxLen w n 0 46 (by unfold maxLen; omega)
    obtain ⟨G, hG⟩ : ∃ G, G = grownCap w n 0 46 := ⟨_, rfl⟩
    rw [← hG] at hrz hGn hG63
    clear hG h0
    have hown : OwnP (w.drew.alloc (.cells ((#[] : Array Value) ++ Builtin.zeroCells #[.int .u16 0, .int .u32 0] n ++ Builtin.zeroCells #[.int .u16 0, .int .u32 0] (G - n)) 46)) w.heap.size (.slice (some ⟨w.heap.size, 0, none⟩) 0 G) [] :=
      World.ownsRow_made (w := w.drew) _ G (Nat.le_refl _) hG63 (by simp [size_zeroCells]; omega)
    have hB : Below w.heap.size w (w.drew.alloc (.cells ((#[] : Array Value) ++ Builtin.zeroCells #[.int .u16 0, .int .u32 0] n ++ Builtin.zeroCells #[.int .u16 0, .int .u32 0] (G - n)) 46)) := (Below.refl _ _).drew.alloc (Nat.le_refl _) _
    generalize (w.drew.alloc (.cells ((#[] : Array Value) ++ Builtin.zeroCells #[.int .u16 0, .int .u32 0] n ++ Builtin.zeroCells #[.int .u16 0, .int .u32 0] (G - n)) 46)) = w1 at hrz hown hB
    go_enter Tryz.func248, Tryz.ntmps248
    go_wp2_with (at_builtin; refine Lib.wpList_append_run _ rfl _ _ _ _ rfl _ _ rfl rfl _ _ (hrz _) ?_)
    all_goals (go_ret; exact ⟨_, rfl, hown, hB⟩)

set_option maxRecDepth 100000 in
set_option maxHeartbeats 800000 in
theorem concat_any (a : Option Addr) (c : Nat) (ls : List (List Pid)) (w : World) (hn : ls.length ≤ 70368744177664) (hl : lens ls ≤ 549755813888) (hrow : LeafRow w a ls) :
   Calls Tryz.prog 189 #[.slice a ls.length c] w fun e w' => ∃ v, e = .returned v ∧ OwnP w' w.heap.size v ls.flatten ∧ Below w.heap.size w w' := by
  go_enter Tryz.func189, Tryz.ntmps189
  go_wp2
  go_loop [3, 11] (fun n i => ∃ (k : Nat), k ≤ ls.length ∧ i = .int .i64 k ∧ n = .int .i64 (lens (ls.take k))) (fun _ i => ls.length - (intOf i).toNat)
  case atStart => exact ⟨0, Nat.zero_le _, rfl, by simp [lens]⟩
  case round =>
    obtain ⟨k, hk, rfl, rfl⟩ := hrel
    have hle := lens_take_le ls k
    by_cases hlt : k < ls.length
    · obtain ⟨b, off, ai, ci, l, rfl, hx, d1, d2⟩ := hrow.at (Below.refl _ _) rfl hlt
      have hs := lens_take_succ hlt
      rw [← hx] at hs
      have hle' := lens_take_le ls (k + 1)
      have HS := hid hs
      have hl2 : lens (ls.take k) + l.length ≤ 549755813888 := by omega
      clear hs hx hle'
      generalize hT : lens (ls.take k) = T at *
      have HT := hid hT
      clear hT
      go_wp2
      go_round
      case rel => exact ⟨k + 1, by omega, by go_num, by rw [HS.out]; go_num⟩
      case measure => simp [intOf]; omega
    · have hall := lens_take_all (ls := ls) (k := k) (by omega)
      rw [hall]
      clear hall hle
      go_wp2_with (go_at_call 248; refine (grow_any _ _ (by omega)).mono ?_; rintro e w1 ⟨v1, rfl, hown1, hb1⟩)
      go_loopw [6, 27] (fun v i wr => ∃ (k : Nat), k ≤ ls.length ∧ i = .int .i64 k ∧ OwnP wr w.heap.size v (ls.take k).flatten ∧ Below w.heap.size w wr) (fun _ i _ => ls.length - (intOf i).toNat)
      case atStart => exact ⟨0, Nat.zero_le _, rfl, by simpa using hown1, hb1⟩
      case round =>
        obtain ⟨j, hj, rfl, hown, hb⟩ := hrel
        by_cases hjt : j < ls.length
        · obtain ⟨b, off, ai, ci, l, rfl, hx, d1, d2⟩ := hrow.at hb rfl hjt
          have hf := flatten_take_succ hjt
          have hs := lens_take_succ hjt
          rw [← hx] at hf hs
          have hle' := lens_take_le ls (j + 1)
          have hlf := lens_flatten (ls.take j)
          have HF := hid hf
          have hl2 : (ls.take j).flatten.length + l.length ≤ 1099511627776 := by omega
          clear hs hx hf hlf hle' hrow
          generalize hT : (ls.take j).flatten = T at *
          have HT := hid hT
          clear hT
          go_wp2_with (at_builtin; refine wpList_appendP hown d2 hl2 hb.size rfl rfl rfl rfl ?_; intro v2 w2 hown2 hg2 hnil2)
          go_roundw
          case rel => exact ⟨j + 1, by omega, by go_num, by rw [HF.out]; exact hown2, hb.grown hg2 hb.size (fun g hg => (World.ownsRow.lt hown g hg).1)⟩
          case measure => simp [intOf]; omega
        · have hall : (ls.take j).flatten = ls.flatten := by rw [List.take_of_length_le (by omega)]
          rw [hall] at hown
          clear hall
          go_wp2
          go_ret
          exact ⟨_, rfl, hown, hb⟩

end Go.Proofs.YtehagnbphamjhaaGreatDoor

