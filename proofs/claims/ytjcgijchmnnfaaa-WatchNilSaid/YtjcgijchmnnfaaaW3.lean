import Derived.Test.YtjcgijchmnnfaaaMaps
namespace Go.Proofs.Ytjcgijchmnnfaaa
open Go.RowKit

def mayB (p : Pid) : Bool := decide (p.1 < 16) && (p.2 != 0)
theorem may_any (x y : Int) (w : World) : Calls Try.prog 77 #[.agg #[.int .u16 x, .int .u32 y]] w fun e w' => e = .returned (.bool (mayB (x, y))) ∧ Below w.heap.size w w' := by
  have hB : Below w.heap.size w (w.alloc (.cells #[.int .u16 x, .int .u32 y] 36)) := (Below.refl _ _).alloc (Nat.le_refl _) _
  by_cases h1 : x < 16
  · have h1' : decide (x < 16) = true := by simpa using h1
    go_enter Try.func77, Try.ntmps77
    go_wp2
    go_ret
    exact ⟨ret_bool (by simp [mayB, h1]), hB⟩
  · have h1' : decide (x < 16) = false := by simpa using h1
    go_enter Try.func77, Try.ntmps77
    go_wp2
    go_ret
    exact ⟨ret_bool (by unfold mayB; rw [show decide ((x, y).1 < 16) = false from h1']; rfl), hB⟩

theorem may_is {x y : Int} {w : World} {bm : Bool} (h : Hid (mayB (x, y) = bm)) : Calls Try.prog 77 #[.agg #[.int .u16 x, .int .u32 y]] w fun e w' => e = .returned (.bool bm) ∧ Below w.heap.size w w' := by
  have := may_any x y w
  rw [h.out] at this
  exact this

def memFrom (n : Nat) : List (Int × Unit) → List Pid → Bool
  | _, [] => decide (0 < n) && decide (n ≤ 24)
  | S, p :: l => if (look p.1 S).isSome = true then false else if mayB p then memFrom n (ins p.1 () S) l else false
def membersB (xs : List Pid) : Bool := memFrom xs.length [] xs
theorem memFrom_drop {n : Nat} {S : List (Int × Unit)} {xs : List Pid} {k : Nat} (h : k < xs.length) {x y : Int} (hx : (x, y) = xs[k]) :
    memFrom n S (xs.drop k) = if (look x S).isSome = true then false else if mayB (x, y) then memFrom n (ins x () S) (xs.drop (k + 1)) else false := by
  rw [List.drop_eq_getElem_cons h, ← hx]; rfl

set_option maxRecDepth 100000 in
set_option maxHeartbeats 400000 in
theorem members_any (a : Option Addr) (c : Nat) (xs : List Pid) (w : World) (hn : xs.length ≤ 70368744177664) (hrow : PidRow w a xs) :
   Calls Try.prog 60 #[.slice a xs.length c] w fun e w' => e = .returned (.bool (membersB xs)) ∧ Below w.heap.size w w' := by
  have hmm := @run_makeMap Try.prog
  go_enter Try.func60, Try.ntmps60
  go_wp2
  go_loopw [2, 11] (fun r i wr => r = .bool false ∧ ∃ (k : Nat) (S : List (Int × Unit)), k ≤ xs.length ∧ i = .int .i64 k ∧ Hid (membersB xs = memFrom xs.length S (xs.drop k)) ∧ Below w.heap.size w wr ∧ MapIs wr w.heap.size e16 eU S) (fun _ i _ => xs.length - (intOf i).toNat)
  case atStart => exact ⟨rfl, 0, [], Nat.zero_le _, rfl, rfl, (Below.refl _ _).alloc (Nat.le_refl _) _, MapIs.made _⟩
  case round =>
    obtain ⟨rfl, k, S, hk, rfl, ha, hb, hM⟩ := hrel
    by_cases hlt : k < xs.length
    · obtain ⟨b, off, x, y, rfl, hx, d1, d2⟩ := hrow.at hb rfl hlt
      have HX := hid hx
      clear hx hrow
      have hB1 : Below w.heap.size w (wr.alloc (.cells #[.int .u16 x, .int .u32 y] 36)) := hb.alloc hb.size _
      have hB2 : Below w.heap.size w ((wr.alloc (.cells #[.int .u16 x, .int .u32 y] 36)).alloc (.cells #[] 106)) := hB1.alloc hB1.size _
      have hs2 := hB2.size
      have hd := memFrom_drop (n := xs.length) (S := S) hlt HX.out
      cases hs : (look x S).isSome
      · have HS := hid hs
        clear hs
        cases hm : mayB (x, y)
        · have HM := hid hm
          have HD := hid hd
          clear hm hd
          go_wp2_with (first
            | (at_lookup; refine wpList_lookup_is key16_116 Try.underlying116 (.agg #[]) zero106 (hM.alloc _) x _ (look_unit _ _) HS rfl rfl rfl rfl ?_)
            | (go_at_call 77; refine (may_is HM).mono ?_; rintro e w1 ⟨rfl, hb1⟩; obtain ⟨hc1, hf1⟩ := bcell hb1))
          go_ret
          exact ⟨ret_bool (by rw [ha.out, HD.out, HS.out, HM.out]; rfl), hB2.trans (hb1.mono hs2)⟩
        · have HM := hid hm
          have HD := hid hd
          clear hm hd
          go_wp2_with (first
            | (at_lookup; refine wpList_lookup_is key16_116 Try.underlying116 (.agg #[]) zero106 (hM.alloc _) x _ (look_unit _ _) HS rfl rfl rfl rfl ?_)
            | (at_mapUpdate; refine wpList_mapUpdate_is key16_116 Try.underlying116 (((hM.alloc _).alloc _).ext ‹_›) x () rfl rfl rfl rfl rfl ?_; intro w2 hM2 hbut)
            | (go_at_call 77; refine (may_is HM).mono ?_; rintro e w1 ⟨rfl, hb1⟩; obtain ⟨hc1, hf1⟩ := bcell hb1))
          go_roundw
          case rel => exact ⟨rfl, k + 1, _, by omega, by go_num, (ha.out.trans (by rw [HD.out, HS.out, HM.out]; rfl) : _), (hB2.trans (hb1.mono hs2)).trans (hbut.below (Nat.le_refl _)), hM2⟩
          case measure => simp [intOf]; omega
      · have HS := hid hs
        have HD := hid hd
        clear hs hd
        go_wp2_with (first
            | (at_lookup; refine wpList_lookup_is key16_116 Try.underlying116 (.agg #[]) zero106 (hM.alloc _) x _ (look_unit _ _) HS rfl rfl rfl rfl ?_))
        go_ret
        exact ⟨ret_bool (by rw [ha.out, HD.out, HS.out]; rfl), hB2⟩
    · by_cases h0 : 0 < xs.length
      · by_cases h1 : xs.length ≤ 24
        · go_wp2
          go_ret
          exact ⟨ret_bool (by rw [ha.out, List.drop_eq_nil_of_le (by omega)]; simp [memFrom, h0]; omega), hb⟩
        · go_wp2
          go_ret
          exact ⟨ret_bool (by rw [ha.out, List.drop_eq_nil_of_le (by omega)]; simp [memFrom, h1]; omega), hb⟩
      · go_wp2
        go_ret
        exact ⟨ret_bool (by rw [ha.out, List.drop_eq_nil_of_le (by omega)]; simp [memFrom]; omega), hb⟩
end Go.Proofs.Ytjcgijchmnnfaaa
