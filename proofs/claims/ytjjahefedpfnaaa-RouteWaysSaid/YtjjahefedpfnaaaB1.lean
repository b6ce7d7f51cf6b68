import Derived.Test.YtjjahefedpfnaaaN2
import Derived.Test.YtjjahefedpfnaaaA2
namespace Go.Proofs.Ytjjahefedpfnaaa
open Go.RowKit
def minusP (xs ys : List Pid) : List Pid := xs.filter fun p => !decide (p ∈ ys)
def commonP (xs ys : List Pid) : List Pid := xs.filter fun p => decide (p ∈ ys)
theorem filter_drop {xs : List Pid} {k : Nat} (h : k < xs.length) {x y : Int} (hx : (x, y) = xs[k]) (f : Pid → Bool) : (xs.drop k).filter f = if f (x, y) = true then (x, y) :: (xs.drop (k + 1)).filter f else (xs.drop (k + 1)).filter f := by
  rw [List.drop_eq_getElem_cons h, ← hx, List.filter_cons]
def inFrom (p : Pid) : List Pid → Bool
  | [] => false
  | x :: xs => if x = p then true else inFrom p xs
theorem inFrom_eq (p : Pid) : ∀ xs : List Pid, inFrom p xs = decide (p ∈ xs)
  | [] => by simp [inFrom]
  | x :: xs => by
    unfold inFrom
    rw [inFrom_eq p xs]
    by_cases h : x = p
    · simp [h]
    · simp [h, Ne.symm h]
theorem inFrom_drop {xs : List Pid} {k : Nat} (h : k < xs.length) (p : Pid) : inFrom p (xs.drop k) = if xs[k] = p then true else inFrom p (xs.drop (k + 1)) := by
  rw [List.drop_eq_getElem_cons h]; rfl

set_option maxHeartbeats 400000 in
theorem hasR_any (a : Option Addr) (c : Nat) (xs : List Pid) (id inc : Int) (w : World) (hn : xs.length ≤ 9223372036854775807) (hrow : PidRow w a xs) :
   Calls Try.prog 36 #[.slice a xs.length c, .agg #[.int .u16 id, .int .u32 inc]] w fun e w' => e = .returned (.bool (decide ((id, inc) ∈ xs))) ∧ Below w.heap.size w w' := by
  go_enter Try.func36, Try.ntmps36
  go_wp2
  go_loopw [4, 5] (fun r i wr => r = .bool false ∧ ∃ k : Nat, k ≤ xs.length ∧ i = .int .i64 k ∧ Hid (decide ((id, inc) ∈ xs) = inFrom (id, inc) (xs.drop k)) ∧ Below w.heap.size w wr ∧ wr.cell? ⟨w.heap.size, 0, none⟩ = some (.int .u16 id) ∧ wr.cell? ⟨w.heap.size, 1, none⟩ = some (.int .u32 inc)) (fun _ i _ => xs.length - (intOf i).toNat)
  case atStart => exact ⟨rfl, 0, Nat.zero_le _, rfl, hid (by rw [List.drop_zero, inFrom_eq]), (Below.refl _ _).alloc (Nat.le_refl _) _, by simp, by simp⟩
  case round =>
    obtain ⟨rfl, k, hk, rfl, ha, hb, c0, c1⟩ := hrel
    by_cases hlt : k < xs.length
    · obtain ⟨b, off, x, y, rfl, hx, d1, d2⟩ := hrow.at hb rfl hlt
      have HX := hid hx
      clear hx hrow
      have he := fun w => eql_pid x y id inc w
      go_wp2
      go_quiet (fail)
      all_goals go_wp2
      · have h := ‹x = id ∧ y = inc›
        go_ret
        exact ⟨ret_bool (by rw [ha.out, inFrom_drop hlt, if_pos (by rw [← HX.out, h.1, h.2])]), below_drewN hb _⟩
      · have h := ‹¬x = id ∨ ¬y = inc›
        go_roundw
        case rel => exact ⟨rfl, k + 1, by omega, by go_num, hid (ha.out.trans (by rw [inFrom_drop hlt, if_neg (by rw [← HX.out]; simp; omega)])), below_drewN hb _, by simpa using c0, by simpa using c1⟩
        case measure => simp [intOf]; omega
    · go_wp2
      go_ret
      exact ⟨ret_bool (by rw [ha.out, List.drop_eq_nil_of_le (by omega)]; rfl), hb⟩
theorem hasR_is {a : Option Addr} {c : Nat} {xs : List Pid} {id inc : Int} {w : World} {bm : Bool} (h : Hid (decide ((id, inc) ∈ xs) = bm)) (hn : xs.length ≤ 70368744177664) (hrow : PidRow w a xs) :
   Calls Try.prog 36 #[.slice a xs.length c, .agg #[.int .u16 id, .int .u32 inc]] w fun e w' => e = .returned (.bool bm) ∧ Below w.heap.size w w' := by
  have := hasR_any a c xs id inc w (by omega) hrow
  rw [h.out] at this
  exact this

set_option maxRecDepth 100000 in
set_option maxHeartbeats 1600000 in
theorem minus_any (a : Option Addr) (c : Nat) (xs : List Pid) (b : Option Addr) (d : Nat) (ys : List Pid) (w : World) (hn : xs.length ≤ 549755813888) (hm : ys.length ≤ 549755813888) (hx : PidRow w a xs) (hy : PidRow w b ys) :
   Calls Try.prog 29 #[.slice a xs.length c, .slice b ys.length d] w fun e w' => ∃ v, e = .returned v ∧ OwnP w' w.heap.size v (minusP xs ys) ∧ Below w.heap.size w w' := by
  go_enter Try.func29, Try.ntmps29
  go_wp2_with (go_at_call 34; refine (new_any _ _ ys _ (by omega) hy).mono ?_; rintro e w1 ⟨s, r, rfl, hs, hr, hS, hb1⟩)
  have hx1 := hx.ext hb1
  go_loopw [6, 13] (fun v i wr => ∃ (k : Nat) (got : List Pid), k ≤ xs.length ∧ i = .int .i64 k ∧ got.length ≤ k ∧ Hid (minusP xs ys = got ++ minusP (xs.drop k) ys) ∧ OwnP wr w1.heap.size v got ∧ Below w1.heap.size w1 wr) (fun _ i _ => xs.length - (intOf i).toNat)
  case atStart => exact ⟨0, [], Nat.zero_le _, rfl, Nat.le_refl _, rfl, OwnP.nil _ _, Below.refl _ _⟩
  case round =>
    obtain ⟨k, got, hk, rfl, hg, hM, hown, hb⟩ := hrel
    have hs0 := hb.size
    have hSr := hS.ext hb
    by_cases hlt : k < xs.length
    · obtain ⟨pb, po, x, y, rfl, hpx, d1, d2⟩ := hx1.at hb rfl hlt
      have hfd := filter_drop hlt hpx (fun p => !decide (p ∈ ys))
      have hB1 : Below w1.heap.size w1 (wr.alloc (.cells #[.int .u16 x, .int .u32 y] 32)) := hb.alloc hb.size _
      have hS1 := hSr.alloc (.cells #[.int .u16 x, .int .u32 y] 32)
      have hmem : (look (x, y) (unionL [] ys)).isSome = decide ((x, y) ∈ ys) := by rw [Bool.eq_iff_iff, isSome_union]; simp
      cases hin : decide ((x, y) ∈ ys)
      · rw [hin] at hmem hfd
        have HMEM := hid hmem
        have HFD := hid hfd
        clear hmem hfd hin hpx hx hx1
        go_wp2_with (first
          | (go_at_call 44; refine (has_any _ _ _ _ _ _ _ hS1 HMEM).mono ?_; rintro e w3 ⟨rfl, hb3⟩; have p0 := cell_to (show (wr.alloc (.cells #[.int .u16 x, .int .u32 y] 32)).cell? ⟨wr.heap.size, 0, none⟩ = some (.int .u16 x) by simp) hb3; have p1 := cell_to (show (wr.alloc (.cells #[.int .u16 x, .int .u32 y] 32)).cell? ⟨wr.heap.size, 1, none⟩ = some (.int .u32 y) by simp) hb3)
          | (at_builtin; refine wpList_appendP (((hown.alloc _).ext hb3).alloc _) (PidRow.one _ x y) ?cb ?cz rfl rfl rfl rfl ?_; rotate_right; intro v4 w4 hown4 hg4 hnil4))
        case cb => simp; omega
        case cz => have := hb3.size; simp at this; simp; omega
        have hz3 := hb3.size
        simp at hz3
        have hB3 := hB1.trans (hb3.mono hB1.size)
        have hB4 : Below w1.heap.size w1 w4 := (hB3.alloc hB3.size _).grown hg4 (by simp; omega) (fun g hg => (World.ownsRow.lt hown g hg).1)
        go_roundw
        case rel => exact ⟨k + 1, got ++ [(x, y)], by omega, by go_num, by simp; omega, hid (hM.out.trans (by unfold minusP; rw [HFD.out]; simp)), hown4, hB4⟩
        case measure => simp [intOf]; omega
      · rw [hin] at hmem hfd
        have HMEM := hid hmem
        have HFD := hid hfd
        clear hmem hfd hin hpx hx hx1
        go_wp2_with (go_at_call 44; refine (has_any _ _ _ _ _ _ _ hS1 HMEM).mono ?_; rintro e w3 ⟨rfl, hb3⟩)
        go_roundw
        case rel => exact ⟨k + 1, got, by omega, by go_num, by omega, hid (hM.out.trans (by unfold minusP; rw [HFD.out]; simp)), (hown.alloc _).ext hb3, hB1.trans (hb3.mono hB1.size)⟩
        case measure => simp [intOf]; omega
    · have hend : Hid (minusP xs ys = got) := by
        have := hM.out
        rw [List.drop_eq_nil_of_le (by omega)] at this
        rw [Hid, this]; simp [minusP]
      go_wp2
      go_ret
      exact ⟨_, rfl, by rw [hend.out]; exact hown.mono hb1.size, hb1.trans (hb.mono hb1.size)⟩
theorem minus_minus (xs ys : List Pid) : minusP xs (minusP xs ys) = commonP xs ys := by
  unfold minusP commonP
  apply List.filter_congr
  intro p hp
  simp [hp]
set_option maxRecDepth 100000 in
set_option maxHeartbeats 1600000 in
theorem common_any (a : Option Addr) (c : Nat) (xs : List Pid) (b : Option Addr) (d : Nat) (ys : List Pid) (w : World) (hn : xs.length ≤ 549755813888) (hm : ys.length ≤ 549755813888) (hx : PidRow w a xs) (hy : PidRow w b ys) :
   Calls Try.prog 30 #[.slice a xs.length c, .slice b ys.length d] w fun e w' => ∃ v, e = .returned v ∧ OwnP w' w.heap.size v (commonP xs ys) ∧ Below w.heap.size w w' := by
  have hl : (minusP xs ys).length ≤ 549755813888 := Nat.le_trans (List.length_filter_le _ _) hn
  have hmm := minus_minus xs ys
  have HMM := hid hmm
  clear hmm
  go_enter Try.func30, Try.ntmps30
  go_wp2_with fail
  refine (minus_any _ _ xs _ _ ys _ hn hm hx hy).mono ?_
  rintro e w1 ⟨v1, rfl, hown1, hb1⟩
  obtain ⟨a1, c1, rfl, hrow1, -⟩ := hown1.row
  go_wp2_with fail
  refine (minus_any _ _ xs _ _ (minusP xs ys) _ hn hl (hx.ext hb1) hrow1).mono ?_
  rintro e w2 ⟨v2, rfl, hown2, hb2⟩
  go_wp2
  go_ret
  exact ⟨_, rfl, by rw [← HMM.out]; exact hown2.mono hb1.size, hb1.trans (hb2.mono hb1.size)⟩

set_option maxRecDepth 100000 in
set_option maxHeartbeats 1600000 in
theorem refMinus_any (a : Option Addr) (c : Nat) (xs : List Pid) (b : Option Addr) (d : Nat) (ys : List Pid) (w : World) (hn : xs.length ≤ 549755813888) (hm : ys.length ≤ 549755813888) (hx : PidRow w a xs) (hy : PidRow w b ys) :
   Calls Try.prog 31 #[.slice a xs.length c, .slice b ys.length d] w fun e w' => ∃ v, e = .returned v ∧ OwnP w' w.heap.size v (minusP xs ys) ∧ Below w.heap.size w w' := by
  go_enter Try.func31, Try.ntmps31
  go_wp2
  go_loopw [5, 6] (fun v i wr => ∃ (k : Nat) (got : List Pid), k ≤ xs.length ∧ i = .int .i64 k ∧ got.length ≤ k ∧ Hid (minusP xs ys = got ++ minusP (xs.drop k) ys) ∧ OwnP wr w.heap.size v got ∧ Below w.heap.size w wr) (fun _ i _ => xs.length - (intOf i).toNat)
  case atStart => exact ⟨0, [], Nat.zero_le _, rfl, Nat.le_refl _, rfl, OwnP.nil _ _, Below.refl _ _⟩
  case round =>
    obtain ⟨k, got, hk, rfl, hg, hM, hown, hb⟩ := hrel
    have hs0 := hb.size
    by_cases hlt : k < xs.length
    · obtain ⟨pb, po, x, y, rfl, hpx, d1, d2⟩ := hx.at hb rfl hlt
      have hfd := filter_drop hlt hpx (fun p => !decide (p ∈ ys))
      have hyr := hy.ext hb
      cases hin : decide ((x, y) ∈ ys)
      · rw [hin] at hfd
        have HIN := hid hin
        have HFD := hid hfd
        clear hfd hin hpx hx
        go_wp2_with (first
          | (go_at_call 36; refine (hasR_is HIN (by omega) hyr).mono ?_; rintro e w3 ⟨rfl, hb3⟩; have p0 := cell_to d1 hb3; have p1 := cell_to d2 hb3)
          | (at_builtin; refine wpList_appendP ((hown.ext hb3).alloc _) (PidRow.one _ x y) ?cb ?cz rfl rfl rfl rfl ?_; rotate_right; intro v4 w4 hown4 hg4 hnil4))
        case cb => simp; omega
        case cz => have := hb3.size; simp; omega
        have hz3 := hb3.size
        have hB3 := hb.trans (hb3.mono hs0)
        have hB4 : Below w.heap.size w w4 := (hB3.alloc hB3.size _).grown hg4 (by simp; omega) (fun g hg => (World.ownsRow.lt hown g hg).1)
        go_roundw
        case rel => exact ⟨k + 1, got ++ [(x, y)], by omega, by go_num, by simp; omega, hid (hM.out.trans (by unfold minusP; rw [HFD.out]; simp)), hown4, hB4⟩
        case measure => simp [intOf]; omega
      · rw [hin] at hfd
        have HIN := hid hin
        have HFD := hid hfd
        clear hfd hin hpx hx
        go_wp2_with (go_at_call 36; refine (hasR_is HIN (by omega) hyr).mono ?_; rintro e w3 ⟨rfl, hb3⟩)
        go_roundw
        case rel => exact ⟨k + 1, got, by omega, by go_num, by omega, hid (hM.out.trans (by unfold minusP; rw [HFD.out]; simp)), hown.ext hb3, hb.trans (hb3.mono hs0)⟩
        case measure => simp [intOf]; omega
    · have hend : Hid (minusP xs ys = got) := by
        have := hM.out
        rw [List.drop_eq_nil_of_le (by omega)] at this
        rw [Hid, this]; simp [minusP]
      go_wp2
      go_ret
      exact ⟨_, rfl, by rw [hend.out]; exact hown, hb⟩
set_option maxRecDepth 100000 in
set_option maxHeartbeats 1600000 in
theorem refCommon_any (a : Option Addr) (c : Nat) (xs : List Pid) (b : Option Addr) (d : Nat) (ys : List Pid) (w : World) (hn : xs.length ≤ 549755813888) (hm : ys.length ≤ 549755813888) (hx : PidRow w a xs) (hy : PidRow w b ys) :
   Calls Try.prog 32 #[.slice a xs.length c, .slice b ys.length d] w fun e w' => ∃ v, e = .returned v ∧ OwnP w' w.heap.size v (commonP xs ys) ∧ Below w.heap.size w w' := by
  go_enter Try.func32, Try.ntmps32
  go_wp2
  go_loopw [5, 6] (fun v i wr => ∃ (k : Nat) (got : List Pid), k ≤ xs.length ∧ i = .int .i64 k ∧ got.length ≤ k ∧ Hid (commonP xs ys = got ++ commonP (xs.drop k) ys) ∧ OwnP wr w.heap.size v got ∧ Below w.heap.size w wr) (fun _ i _ => xs.length - (intOf i).toNat)
  case atStart => exact ⟨0, [], Nat.zero_le _, rfl, Nat.le_refl _, rfl, OwnP.nil _ _, Below.refl _ _⟩
  case round =>
    obtain ⟨k, got, hk, rfl, hg, hM, hown, hb⟩ := hrel
    have hs0 := hb.size
    by_cases hlt : k < xs.length
    · obtain ⟨pb, po, x, y, rfl, hpx, d1, d2⟩ := hx.at hb rfl hlt
      have hfd := filter_drop hlt hpx (fun p => decide (p ∈ ys))
      have hyr := hy.ext hb
      cases hin : decide ((x, y) ∈ ys)
      · rw [hin] at hfd
        have HIN := hid hin
        have HFD := hid hfd
        clear hfd hin hpx hx
        go_wp2_with (go_at_call 36; refine (hasR_is HIN (by omega) hyr).mono ?_; rintro e w3 ⟨rfl, hb3⟩)
        go_roundw
        case rel => exact ⟨k + 1, got, by omega, by go_num, by omega, hid (hM.out.trans (by unfold commonP; rw [HFD.out]; simp)), hown.ext hb3, hb.trans (hb3.mono hs0)⟩
        case measure => simp [intOf]; omega
      · rw [hin] at hfd
        have HIN := hid hin
        have HFD := hid hfd
        clear hfd hin hpx hx
        go_wp2_with (first
          | (go_at_call 36; refine (hasR_is HIN (by omega) hyr).mono ?_; rintro e w3 ⟨rfl, hb3⟩; have p0 := cell_to d1 hb3; have p1 := cell_to d2 hb3)
          | (at_builtin; refine wpList_appendP ((hown.ext hb3).alloc _) (PidRow.one _ x y) ?cb ?cz rfl rfl rfl rfl ?_; rotate_right; intro v4 w4 hown4 hg4 hnil4))
        case cb => simp; omega
        case cz => have := hb3.size; simp; omega
        have hz3 := hb3.size
        have hB3 := hb.trans (hb3.mono hs0)
        have hB4 : Below w.heap.size w w4 := (hB3.alloc hB3.size _).grown hg4 (by simp; omega) (fun g hg => (World.ownsRow.lt hown g hg).1)
        go_roundw
        case rel => exact ⟨k + 1, got ++ [(x, y)], by omega, by go_num, by simp; omega, hid (hM.out.trans (by unfold commonP; rw [HFD.out]; simp)), hown4, hB4⟩
        case measure => simp [intOf]; omega
    · have hend : Hid (commonP xs ys = got) := by
        have := hM.out
        rw [List.drop_eq_nil_of_le (by omega)] at this
        rw [Hid, this]; simp [commonP]
      go_wp2
      go_ret
      exact ⟨_, rfl, by rw [hend.out]; exact hown, hb⟩
end Go.Proofs.Ytjjahefedpfnaaa
