/- Parts of the proof: B1 X90 X20 X1 X8 X17 X5 X6. -/
import Derived.Laws.MakeOwn
import Derived.Laws.CopyOwn
import Derived.Maps.AppendAt
import Derived.Laws.BitsAllLaws
import Derived.Test.YtbpfhclcjedkcaaGLayoutFirsts0
namespace Go.Proofs.Ytbpfhclcjedkcaa
open Go.RowKit
def minusP (xs ys : List Pid) : List Pid := xs.filter fun p => !decide (p ∈ ys)
def commonP (xs ys : List Pid) : List Pid := xs.filter fun p => decide (p ∈ ys)
theorem filter_drop {xs : List Pid} {k : Nat} (h : k < xs.length) {x y : Int} (hx : (x, y) = xs[k]) (f : Pid → Bool) : (xs.drop k).filter f = if f (x, y) = true then (x, y) :: (xs.drop (k + 1)).filter f else (xs.drop (k + 1)).filter f := by
  rw [List.drop_eq_getElem_cons h, ← hx, List.filter_cons]
def inFrom (p : Pid) : List Pid → Bool
  | [] => false
  | x :: xs => if x = p then true else inFrom p xs
theorem inFrom_eq (p : Pid) : ∀ xs : List Pid, inFrom p xs = decide (p ∈ xs)
  | [] => by simp [inFrom]
  | x :: xs => by
    unfold inFrom
    rw [inFrom_eq p xs]
    by_cases h : x = p
    · simp [h]
    · simp [h, Ne.symm h]
theorem inFrom_drop {xs : List Pid} {k : Nat} (h : k < xs.length) (p : Pid) : inFrom p (xs.drop k) = if xs[k] = p then true else inFrom p (xs.drop (k + 1)) := by
  rw [List.drop_eq_getElem_cons h]; rfl

set_option maxHeartbeats 400000 in
theorem hasR_any (a : Option Addr) (c : Nat) (xs : List Pid) (id inc : Int) (w : World) (hn : xs.length ≤ 9223372036854775807) (hrow : PidRow w a xs) :
   Calls Try.prog 169 #[.slice a xs.length c, .agg #[.int .u16 id, .int .u32 inc]] w fun e w' => e = .returned (.bool (decide ((id, inc) ∈ xs))) ∧ Below w.heap.size w w' := by
  go_enter Try.func169, Try.ntmps169
  go_wp2
  go_loopw [4, 5] (fun r i wr => r = .bool false ∧ ∃ k : Nat, k ≤ xs.length ∧ i = .int .i64 k ∧ Hid (decide ((id, inc) ∈ xs) = inFrom (id, inc) (xs.drop k)) ∧ Below w.heap.size w wr ∧ wr.cell? ⟨w.heap.size, 0, none⟩ = some (.int .u16 id) ∧ wr.cell? ⟨w.heap.size, 1, none⟩ = some (.int .u32 inc)) (fun _ i _ => xs.length - (intOf i).toNat)
  case atStart => exact ⟨rfl, 0, Nat.zero_le _, rfl, hid (by rw [List.drop_zero, inFrom_eq]), (Below.refl _ _).alloc (Nat.le_refl _) _, by simp, by simp⟩
  case round =>
    obtain ⟨rfl, k, hk, rfl, ha, hb, c0, c1⟩ := hrel
    by_cases hlt : k < xs.length
    · obtain ⟨b, off, x, y, rfl, hx, d1, d2⟩ := hrow.at hb rfl hlt
      have HX := hid hx
      clear hx hrow
      have he := fun w => eql_pid x y id inc w
      go_wp2
      go_quiet (fail)
      all_goals go_wp2
      · have h := ‹x = id ∧ y = inc›
        go_ret
        exact ⟨ret_bool (by rw [ha.out, inFrom_drop hlt, if_pos (by rw [← HX.out, h.1, h.2])]), below_drewN hb _⟩
      · have h := ‹¬x = id ∨ ¬y = inc›
        go_roundw
        case rel => exact ⟨rfl, k + 1, by omega, by go_num, hid (ha.out.trans (by rw [inFrom_drop hlt, if_neg (by rw [← HX.out]; simp; omega)])), below_drewN hb _, by simpa using c0, by simpa using c1⟩
        case measure => simp [intOf]; omega
    · go_wp2
      go_ret
      exact ⟨ret_bool (by rw [ha.out, List.drop_eq_nil_of_le (by omega)]; rfl), hb⟩
theorem hasR_is {a : Option Addr} {c : Nat} {xs : List Pid} {id inc : Int} {w : World} {bm : Bool} (h : Hid (decide ((id, inc) ∈ xs) = bm)) (hn : xs.length ≤ 70368744177664) (hrow : PidRow w a xs) :
   Calls Try.prog 169 #[.slice a xs.length c, .agg #[.int .u16 id, .int .u32 inc]] w fun e w' => e = .returned (.bool bm) ∧ Below w.heap.size w w' := by
  have := hasR_any a c xs id inc w (by omega) hrow
  rw [h.out] at this
  exact this

set_option maxRecDepth 100000 in
set_option maxHeartbeats 1600000 in
theorem minus_any (a : Option Addr) (c : Nat) (xs : List Pid) (b : Option Addr) (d : Nat) (ys : List Pid) (w : World) (hn : xs.length ≤ 549755813888) (hm : ys.length ≤ 549755813888) (hx : PidRow w a xs) (hy : PidRow w b ys) :
   Calls Try.prog 142 #[.slice a xs.length c, .slice b ys.length d] w fun e w' => ∃ v, e = .returned v ∧ OwnP w' w.heap.size v (minusP xs ys) ∧ Below w.heap.size w w' := by
  go_enter Try.func142, Try.ntmps142
  go_wp2_with (go_at_call 85; refine (new_any _ _ ys _ (by omega) hy).mono ?_; rintro e w1 ⟨s, r, rfl, hs, hr, hS, hb1⟩)
  have hx1 := hx.ext hb1
  go_loopw [6, 13] (fun v i wr => ∃ (k : Nat) (got : List Pid), k ≤ xs.length ∧ i = .int .i64 k ∧ got.length ≤ k ∧ Hid (minusP xs ys = got ++ minusP (xs.drop k) ys) ∧ OwnP wr w1.heap.size v got ∧ Below w1.heap.size w1 wr) (fun _ i _ => xs.length - (intOf i).toNat)
  case atStart => exact ⟨0, [], Nat.zero_le _, rfl, Nat.le_refl _, rfl, OwnP.nil _ _, Below.refl _ _⟩
  case round =>
    obtain ⟨k, got, hk, rfl, hg, hM, hown, hb⟩ := hrel
    have hs0 := hb.size
    have hSr := hS.ext hb
    by_cases hlt : k < xs.length
    · obtain ⟨pb, po, x, y, rfl, hpx, d1, d2⟩ := hx1.at hb rfl hlt
      have hfd := filter_drop hlt hpx (fun p => !decide (p ∈ ys))
      have hB1 : Below w1.heap.size w1 (wr.alloc (.cells #[.int .u16 x, .int .u32 y] 26)) := hb.alloc hb.size _
      have hS1 := hSr.alloc (.cells #[.int .u16 x, .int .u32 y] 26)
      have hmem : (look (x, y) (unionL [] ys)).isSome = decide ((x, y) ∈ ys) := by rw [Bool.eq_iff_iff, isSome_union]; simp
      cases hin : decide ((x, y) ∈ ys)
      · rw [hin] at hmem hfd
        have HMEM := hid hmem
        have HFD := hid hfd
        clear hmem hfd hin hpx hx hx1
        go_wp2_with (first
          | (go_at_call 173; refine (has_any _ _ _ _ _ _ _ hS1 HMEM).mono ?_; rintro e w3 ⟨rfl, hb3⟩; have p0 := cell_to (show (wr.alloc (.cells #[.int .u16 x, .int .u32 y] 26)).cell? ⟨wr.heap.size, 0, none⟩ = some (.int .u16 x) by simp) hb3; have p1 := cell_to (show (wr.alloc (.cells #[.int .u16 x, .int .u32 y] 26)).cell? ⟨wr.heap.size, 1, none⟩ = some (.int .u32 y) by simp) hb3)
          | (at_builtin; refine wpList_appendP (((hown.alloc _).ext hb3).alloc _) (PidRow.one _ x y) ?cb ?cz rfl rfl rfl rfl ?_; rotate_right; intro v4 w4 hown4 hg4 hnil4))
        case cb => simp; omega
        case cz => have := hb3.size; simp at this; simp; omega
        have hz3 := hb3.size
        simp at hz3
        have hB3 := hB1.trans (hb3.mono hB1.size)
        have hB4 : Below w1.heap.size w1 w4 := (hB3.alloc hB3.size _).grown hg4 (by simp; omega) (fun g hg => (World.ownsRow.lt hown g hg).1)
        go_roundw
        case rel => exact ⟨k + 1, got ++ [(x, y)], by omega, by go_num, by simp; omega, hid (hM.out.trans (by unfold minusP; rw [HFD.out]; simp)), hown4, hB4⟩
        case measure => simp [intOf]; omega
      · rw [hin] at hmem hfd
        have HMEM := hid hmem
        have HFD := hid hfd
        clear hmem hfd hin hpx hx hx1
        go_wp2_with (go_at_call 173; refine (has_any _ _ _ _ _ _ _ hS1 HMEM).mono ?_; rintro e w3 ⟨rfl, hb3⟩)
        go_roundw
        case rel => exact ⟨k + 1, got, by omega, by go_num, by omega, hid (hM.out.trans (by unfold minusP; rw [HFD.out]; simp)), (hown.alloc _).ext hb3, hB1.trans (hb3.mono hB1.size)⟩
        case measure => simp [intOf]; omega
    · have hend : Hid (minusP xs ys = got) := by
        have := hM.out
        rw [List.drop_eq_nil_of_le (by omega)] at this
        rw [Hid, this]; simp [minusP]
      go_wp2
      go_ret
      exact ⟨_, rfl, by rw [hend.out]; exact hown.mono hb1.size, hb1.trans (hb.mono hb1.size)⟩
theorem minus_minus (xs ys : List Pid) : minusP xs (minusP xs ys) = commonP xs ys := by
  unfold minusP commonP
  apply List.filter_congr
  intro p hp
  simp [hp]
set_option maxRecDepth 100000 in
set_option maxHeartbeats 1600000 in
theorem common_any (a : Option Addr) (c : Nat) (xs : List Pid) (b : Option Addr) (d : Nat) (ys : List Pid) (w : World) (hn : xs.length ≤ 549755813888) (hm : ys.length ≤ 549755813888) (hx : PidRow w a xs) (hy : PidRow w b ys) :
   Calls Try.prog 239 #[.slice a xs.length c, .slice b ys.length d] w fun e w' => ∃ v, e = .returned v ∧ OwnP w' w.heap.size v (commonP xs ys) ∧ Below w.heap.size w w' := by
  have hl : (minusP xs ys).length ≤ 549755813888 := Nat.le_trans (List.length_filter_le _ _) hn
  have hmm := minus_minus xs ys
  have HMM := hid hmm
  clear hmm
  go_enter Try.func239, Try.ntmps239
  go_wp2_with fail
  refine (minus_any _ _ xs _ _ ys _ hn hm hx hy).mono ?_
  rintro e w1 ⟨v1, rfl, hown1, hb1⟩
  obtain ⟨a1, c1, rfl, hrow1, -⟩ := hown1.row
  go_wp2_with fail
  refine (minus_any _ _ xs _ _ (minusP xs ys) _ hn hl (hx.ext hb1) hrow1).mono ?_
  rintro e w2 ⟨v2, rfl, hown2, hb2⟩
  go_wp2
  go_ret
  exact ⟨_, rfl, by rw [← HMM.out]; exact hown2.mono hb1.size, hb1.trans (hb2.mono hb1.size)⟩

set_option maxRecDepth 100000 in
set_option maxHeartbeats 1600000 in
theorem refCommon_any (a : Option Addr) (c : Nat) (xs : List Pid) (b : Option Addr) (d : Nat) (ys : List Pid) (w : World) (hn : xs.length ≤ 549755813888) (hm : ys.length ≤ 549755813888) (hx : PidRow w a xs) (hy : PidRow w b ys) :
   Calls Try.prog 224 #[.slice a xs.length c, .slice b ys.length d] w fun e w' => ∃ v, e = .returned v ∧ OwnP w' w.heap.size v (commonP xs ys) ∧ Below w.heap.size w w' := by
  go_enter Try.func224, Try.ntmps224
  go_wp2
  go_loopw [5, 6] (fun v i wr => ∃ (k : Nat) (got : List Pid), k ≤ xs.length ∧ i = .int .i64 k ∧ got.length ≤ k ∧ Hid (commonP xs ys = got ++ commonP (xs.drop k) ys) ∧ OwnP wr w.heap.size v got ∧ Below w.heap.size w wr) (fun _ i _ => xs.length - (intOf i).toNat)
  case atStart => exact ⟨0, [], Nat.zero_le _, rfl, Nat.le_refl _, rfl, OwnP.nil _ _, Below.refl _ _⟩
  case round =>
    obtain ⟨k, got, hk, rfl, hg, hM, hown, hb⟩ := hrel
    have hs0 := hb.size
    by_cases hlt : k < xs.length
    · obtain ⟨pb, po, x, y, rfl, hpx, d1, d2⟩ := hx.at hb rfl hlt
      have hfd := filter_drop hlt hpx (fun p => decide (p ∈ ys))
      have hyr := hy.ext hb
      cases hin : decide ((x, y) ∈ ys)
      · rw [hin] at hfd
        have HIN := hid hin
        have HFD := hid hfd
        clear hfd hin hpx hx
        go_wp2_with (go_at_call 169; refine (hasR_is HIN (by omega) hyr).mono ?_; rintro e w3 ⟨rfl, hb3⟩)
        go_roundw
        case rel => exact ⟨k + 1, got, by omega, by go_num, by omega, hid (hM.out.trans (by unfold commonP; rw [HFD.out]; simp)), hown.ext hb3, hb.trans (hb3.mono hs0)⟩
        case measure => simp [intOf]; omega
      · rw [hin] at hfd
        have HIN := hid hin
        have HFD := hid hfd
        clear hfd hin hpx hx
        go_wp2_with (first
          | (go_at_call 169; refine (hasR_is HIN (by omega) hyr).mono ?_; rintro e w3 ⟨rfl, hb3⟩; have p0 := cell_to d1 hb3; have p1 := cell_to d2 hb3)
          | (at_builtin; refine wpList_appendP ((hown.ext hb3).alloc _) (PidRow.one _ x y) ?cb ?cz rfl rfl rfl rfl ?_; rotate_right; intro v4 w4 hown4 hg4 hnil4))
        case cb => simp; omega
        case cz => have := hb3.size; simp; omega
        have hz3 := hb3.size
        have hB3 := hb.trans (hb3.mono hs0)
        have hB4 : Below w.heap.size w w4 := (hB3.alloc hB3.size _).grown hg4 (by simp; omega) (fun g hg => (World.ownsRow.lt hown g hg).1)
        go_roundw
        case rel => exact ⟨k + 1, got ++ [(x, y)], by omega, by go_num, by simp; omega, hid (hM.out.trans (by unfold commonP; rw [HFD.out]; simp)), hown4, hB4⟩
        case measure => simp [intOf]; omega
    · have hend : Hid (commonP xs ys = got) := by
        have := hM.out
        rw [List.drop_eq_nil_of_le (by omega)] at this
        rw [Hid, this]; simp [commonP]
      go_wp2
      go_ret
      exact ⟨_, rfl, by rw [hend.out]; exact hown, hb⟩
end Go.Proofs.Ytbpfhclcjedkcaa

namespace Go.Proofs.Ytbpfhclcjedkcaa
open Go.RowKit
/-! ### layouts in plain words -/
structure Bnd where
  least : Int
  most : Int
  tmo : Int
def bchk (b : Bnd) : Bool := decide (1 ≤ b.least) && (decide (b.most ≤ 8) && decide (2 * b.least ≤ b.most))
abbrev LL := List (List Pid)
def gtL (b : Bnd) (l : List Pid) : Bool := decide (b.most < (l.length : Int))
def ltL (b : Bnd) (l : List Pid) : Bool := decide ((l.length : Int) < b.least)
def fixFrom (f : List Pid → Bool) : LL → Nat → Int
  | [], _ => -1
  | l :: r, k => if f l = true then (k : Int) else fixFrom f r (k + 1)
theorem fixFrom_drop {f : List Pid → Bool} {ls : LL} {k : Nat} (h : k < ls.length) {l : List Pid} (hl : l = ls[k]) : fixFrom f (ls.drop k) k = if f l = true then (k : Int) else fixFrom f (ls.drop (k + 1)) (k + 1) := by
  rw [List.drop_eq_getElem_cons h, ← hl]; rfl
theorem fixFrom_end {f : List Pid → Bool} {ls : LL} {k : Nat} (h : ls.length ≤ k) : fixFrom f (ls.drop k) k = -1 := by
  rw [List.drop_eq_nil_of_le h]; rfl
theorem fixFrom_cases (f : List Pid → Bool) : ∀ (ls : LL) (k : Nat), (fixFrom f ls k = -1 ∧ ∀ l ∈ ls, f l = false) ∨ ∃ j, ∃ h : j < ls.length, fixFrom f ls k = ((k + j : Nat) : Int) ∧ f ls[j] = true
  | [], k => .inl ⟨rfl, by simp⟩
  | l :: r, k => by
    unfold fixFrom
    cases hf : f l
    · rw [if_neg (by simp)]
      rcases fixFrom_cases f r (k + 1) with ⟨h1, h2⟩ | ⟨j, hj, h1, h2⟩
      · exact .inl ⟨h1, fun x hx => (List.mem_cons.1 hx).elim (fun e => e ▸ hf) (h2 x)⟩
      · exact .inr ⟨j + 1, by simpa using hj, by rw [h1]; congr 1; omega, by simpa using h2⟩
    · rw [if_pos rfl]
      exact .inr ⟨0, by simp, by simp, by simpa using hf⟩
def greatL (b : Bnd) (ls : LL) : Int := fixFrom (gtL b) ls 0
def smallL (b : Bnd) (ls : LL) : Int := if ls.length < 2 then -1 else fixFrom (ltL b) ls 0
def fitsL (b : Bnd) (ls : LL) : Bool := decide (greatL b ls < 0) && decide (smallL b ls < 0)
/-! the first with the fewest, but for one -/
def lenAt (ls : LL) (i : Nat) : Nat := (ls.getD i []).length
def fewStep (ls : LL) (but z : Int) (i : Nat) : Int := if (i : Int) ≠ but ∧ (z < 0 ∨ lenAt ls i < lenAt ls z.toNat) then (i : Int) else z
def fewTo (ls : LL) (but : Int) : Nat → Int
  | 0 => -1
  | k + 1 => fewStep ls but (fewTo ls but k) k
def fewL (ls : LL) (but : Int) : Int := fewTo ls but ls.length
def IsFew (ls : LL) (but : Int) (k : Nat) (z : Int) : Prop :=
  (z = -1 ∧ ∀ i, i < k → (i : Int) = but) ∨ ∃ j : Nat, j < k ∧ z = (j : Int) ∧ (j : Int) ≠ but ∧ ∀ i : Nat, i < k → (i : Int) ≠ but → lenAt ls j ≤ lenAt ls i ∧ (i < j → lenAt ls j < lenAt ls i)
theorem fewTo_is (ls : LL) (but : Int) : ∀ k, IsFew ls but k (fewTo ls but k)
  | 0 => .inl ⟨rfl, fun i h => by omega⟩
  | k + 1 => by
    have ih := fewTo_is ls but k
    unfold fewTo fewStep
    rcases ih with ⟨h1, h2⟩ | ⟨j, h1, h2, h3, h4⟩
    · rw [h1]
      by_cases hk : (k : Int) ≠ but
      · rw [if_pos ⟨hk, .inl (by omega)⟩]
        refine .inr ⟨k, by omega, rfl, hk, fun i hi hb => ?_⟩
        by_cases hik : i = k
        · subst hik; exact ⟨Nat.le_refl _, fun h => by omega⟩
        · exact absurd (h2 i (by omega)) hb
      · rw [if_neg (fun h => hk h.1)]
        refine .inl ⟨rfl, fun i hi => ?_⟩
        by_cases hik : i = k
        · subst hik; omega
        · exact h2 i (by omega)
    · rw [h2]
      simp only [Int.toNat_natCast]
      by_cases hc : (k : Int) ≠ but ∧ (((j : Nat) : Int) < 0 ∨ lenAt ls k < lenAt ls j)
      · rw [if_pos hc]
        have hlt : lenAt ls k < lenAt ls j := by rcases hc.2 with h | h <;> omega
        refine .inr ⟨k, by omega, rfl, hc.1, fun i hi hb => ?_⟩
        by_cases hik : i = k
        · subst hik; exact ⟨Nat.le_refl _, fun h => by omega⟩
        · have := (h4 i (by omega) hb).1
          exact ⟨by omega, fun _ => by omega⟩
      · rw [if_neg hc]
        refine .inr ⟨j, by omega, rfl, h3, fun i hi hb => ?_⟩
        by_cases hik : i = k
        · subst hik
          have : ¬ lenAt ls i < lenAt ls j := fun h => hc ⟨hb, .inr h⟩
          exact ⟨by omega, fun _ => by omega⟩
        · exact h4 i (by omega) hb
theorem isFew_unique {ls : LL} {but : Int} {k : Nat} {y z : Int} (h1 : IsFew ls but k y) (h2 : IsFew ls but k z) : y = z := by
  rcases h1 with ⟨a1, a2⟩ | ⟨j, a1, a2, a3, a4⟩ <;> rcases h2 with ⟨b1, b2⟩ | ⟨i, b1, b2, b3, b4⟩
  · omega
  · exact absurd (a2 i b1) b3
  · exact absurd (b2 j a1) a3
  · have h1 := a4 i b1 b3
    have h2 := b4 j a1 a3
    have : i = j := by
      rcases Nat.lt_trichotomy i j with h | h | h
      · have := h1.2 h; omega
      · exact h
      · have := h2.2 h; omega
    omega
theorem fewL_some {ls : LL} (h : 0 < ls.length) : ∃ j : Nat, j < ls.length ∧ fewL ls (-1) = (j : Int) := by
  rcases fewTo_is ls (-1) ls.length with ⟨h1, h2⟩ | ⟨j, h1, h2, -⟩
  · have := h2 0 h; omega
  · exact ⟨j, h1, h2⟩
theorem fewL_other {ls : LL} {s : Nat} (h : 2 ≤ ls.length) (hs : s < ls.length) : ∃ j : Nat, j < ls.length ∧ j ≠ s ∧ fewL ls (s : Int) = (j : Int) := by
  rcases fewTo_is ls s ls.length with ⟨h1, h2⟩ | ⟨j, h1, h2, h3, -⟩
  · have a := h2 0 (by omega)
    have b := h2 1 (by omega)
    omega
  · exact ⟨j, h1, by omega, h2⟩
/-! a place in a row -/
theorem split_at {α : Type} {d : α} {ls : List α} {i : Nat} (h : i < ls.length) : ∃ A x B, ls = A ++ x :: B ∧ A.length = i ∧ ls.getD i d = x :=
  ⟨ls.take i, ls[i], ls.drop (i + 1), by rw [List.getElem_cons_drop, List.take_append_drop], by simp; omega, by simp [List.getD, h]⟩
theorem set_mid {α : Type} (x y : α) (B : List α) : ∀ A : List α, (A ++ x :: B).set A.length y = A ++ y :: B
  | [] => rfl
  | a :: A => by simp [set_mid x y B A]
theorem erase_mid {α : Type} (x : α) (B : List α) : ∀ A : List α, (A ++ x :: B).eraseIdx A.length = A ++ B
  | [] => rfl
  | a :: A => by simp [erase_mid x B A]
/-! parting and joining -/
def half (l : List Pid) : Nat := (l.length + 1) / 2
def partL (ls : LL) (i : Nat) : LL := ls.set i ((ls.getD i []).take (half (ls.getD i []))) ++ [(ls.getD i []).drop (half (ls.getD i []))]
def joinL (ls : LL) (s : Nat) : LL := (ls.eraseIdx s).set (fewL (ls.eraseIdx s) (-1)).toNat ((ls.eraseIdx s).getD (fewL (ls.eraseIdx s) (-1)).toNat [] ++ ls.getD s [])
def joinR (ls : LL) (s : Nat) : LL := (ls.set (fewL ls (s : Int)).toNat (ls.getD (fewL ls (s : Int)).toNat [] ++ ls.getD s [])).eraseIdx s
def fitN (b : Bnd) : Nat → LL → LL
  | 0, ls => ls
  | n + 1, ls => if 0 ≤ greatL b ls then fitN b n (partL ls (greatL b ls).toNat) else if 0 ≤ smallL b ls then fitN b n (joinL ls (smallL b ls).toNat) else ls
def total (ls : LL) : Nat := (ls.map List.length).sum
def phi (b : Bnd) (ls : LL) : Nat := 2 * ls.countP (ltL b) + total ls - ls.length
def Full (ls : LL) : Prop := ∀ l ∈ ls, l ≠ []
theorem total_app (A B : LL) : total (A ++ B) = total A + total B := by simp [total]
theorem total_cons (x : List Pid) (B : LL) : total (x :: B) = x.length + total B := by simp [total]
theorem full_len {ls : LL} (h : Full ls) : ls.length ≤ total ls := by
  induction ls with
  | nil => simp [total]
  | cons l r ih =>
    have h1 : 0 < l.length := List.length_pos_iff.2 (h l (List.mem_cons_self ..))
    have h2 := ih (fun x hx => h x (List.mem_cons_of_mem _ hx))
    rw [total_cons, List.length_cons]; omega
theorem total_flat (ls : LL) : ls.flatten.length = total ls := by
  induction ls with
  | nil => rfl
  | cons l r ih => rw [List.flatten_cons, List.length_append, ih, total_cons]
theorem phi_le {b : Bnd} {ls : LL} (h : Full ls) : phi b ls ≤ 3 * total ls := by
  have h1 : ls.countP (ltL b) ≤ ls.length := List.countP_le_length
  have h2 := full_len h
  unfold phi; omega
theorem bchk_ok {b : Bnd} (h : bchk b = true) : 1 ≤ b.least ∧ b.most ≤ 8 ∧ 2 * b.least ≤ b.most := by
  unfold bchk at h
  simp only [Bool.and_eq_true, decide_eq_true_eq] at h
  exact h
theorem part_ok {b : Bnd} {ls : LL} (hb : bchk b = true) (hf : Full ls) (hg : 0 ≤ greatL b ls) :
    phi b (partL ls (greatL b ls).toNat) < phi b ls ∧ Full (partL ls (greatL b ls).toNat) ∧ (partL ls (greatL b ls).toNat).flatten.Perm ls.flatten ∧ (greatL b ls).toNat < ls.length ∧ 2 ≤ (ls.getD (greatL b ls).toNat []).length := by
  obtain ⟨hb1, hb2, hb3⟩ := bchk_ok hb
  rcases fixFrom_cases (gtL b) ls 0 with ⟨h1, -⟩ | ⟨j, hj, h1, h2⟩
  · unfold greatL at hg; omega
  have hz : (greatL b ls).toNat = j := by unfold greatL; rw [h1]; simp
  rw [hz]
  obtain ⟨A, x, B, rfl, rfl, hx⟩ := split_at (d := ([] : List Pid)) hj
  have hx2 : (A ++ x :: B)[A.length] = x := by simp
  rw [hx2] at h2
  unfold gtL at h2
  simp only [decide_eq_true_eq] at h2
  unfold partL
  rw [hx, set_mid]
  have hl2 : 2 ≤ x.length := by omega
  have hh : half x = (x.length + 1) / 2 := rfl
  have ht : (x.take (half x)).length = half x := by rw [List.length_take]; omega
  have hd : (x.drop (half x)).length = x.length - half x := List.length_drop
  have n1 : ltL b (x.take (half x)) = false := by unfold ltL; rw [ht]; simp; omega
  have n2 : ltL b (x.drop (half x)) = false := by unfold ltL; rw [hd]; simp; omega
  have hfl := full_len hf
  have nx : ltL b x = false := by unfold ltL; simp; omega
  have c0 : (A ++ x :: B).countP (ltL b) = A.countP (ltL b) + B.countP (ltL b) := by simp only [List.countP_append, List.countP_cons, nx]; simp
  have c1 : (A ++ x.take (half x) :: B ++ [x.drop (half x)]).countP (ltL b) = A.countP (ltL b) + B.countP (ltL b) := by simp only [List.countP_append, List.countP_cons, List.countP_nil, n1, n2]; simp
  have t0 : total (A ++ x :: B) = total A + x.length + total B := by simp only [total_app, total_cons]; omega
  have t1 : total (A ++ x.take (half x) :: B ++ [x.drop (half x)]) = total A + x.length + total B := by
    have e : total ([] : LL) = 0 := rfl
    simp only [total_app, total_cons, ht, hd, e]; omega
  have l0 : (A ++ x :: B).length = A.length + B.length + 1 := by simp; omega
  have l1 : (A ++ x.take (half x) :: B ++ [x.drop (half x)]).length = A.length + B.length + 2 := by simp; omega
  refine ⟨?_, ?_, ?_, by simp, hl2⟩
  · unfold phi
    rw [c0, c1, t0, t1, l0, l1]
    have hfa := full_len (ls := A) (fun l hl => hf l (by simp [hl]))
    have hfb := full_len (ls := B) (fun l hl => hf l (by simp [hl]))
    omega
  · intro l hl
    simp only [List.mem_append, List.mem_cons, List.not_mem_nil, or_false] at hl
    rcases hl with (hl | rfl | hl) | rfl
    · exact hf l (by simp [hl])
    · exact fun e => by rw [e] at ht; simp at ht; omega
    · exact hf l (by simp [hl])
    · exact fun e => by rw [e] at hd; simp at hd; omega
  · simp only [List.flatten_append, List.flatten_cons, List.flatten_nil, List.append_nil]
    have h5 : x.take (half x) ++ x.drop (half x) = x := List.take_append_drop _ _
    refine List.Perm.trans ?_ (List.Perm.append_left A.flatten (by rw [h5] : ((x.take (half x) ++ x.drop (half x)) ++ B.flatten).Perm (x ++ B.flatten)))
    rw [List.append_assoc, List.append_assoc, List.append_assoc]
    exact List.Perm.append_left _ (List.Perm.append_left _ List.perm_append_comm)
theorem small_two {b : Bnd} {ls : LL} (h : 0 ≤ smallL b ls) : 2 ≤ ls.length := by
  unfold smallL at h
  by_cases h2 : ls.length < 2
  · rw [if_pos h2] at h; omega
  · omega
theorem join_ok {b : Bnd} {ls : LL} (hb : bchk b = true) (hf : Full ls) (hs : 0 ≤ smallL b ls) :
    phi b (joinL ls (smallL b ls).toNat) < phi b ls ∧ Full (joinL ls (smallL b ls).toNat) ∧ (joinL ls (smallL b ls).toNat).flatten.Perm ls.flatten ∧ (smallL b ls).toNat < ls.length := by
  obtain ⟨hb1, hb2, hb3⟩ := bchk_ok hb
  have h2 := small_two hs
  have e : smallL b ls = fixFrom (ltL b) ls 0 := by unfold smallL; rw [if_neg (by omega)]
  rw [e] at hs ⊢
  rcases fixFrom_cases (ltL b) ls 0 with ⟨h1, -⟩ | ⟨j, hj, h1, h3⟩
  · omega
  have hz : (fixFrom (ltL b) ls 0).toNat = j := by rw [h1]; simp
  rw [hz]
  have hfl := full_len hf
  obtain ⟨A, x, B, rfl, rfl, hx⟩ := split_at (d := ([] : List Pid)) hj
  have hx2 : (A ++ x :: B)[A.length] = x := by simp
  rw [hx2] at h3
  unfold joinL
  rw [hx, erase_mid]
  have hAB : 0 < (A ++ B).length := by simp at h2 ⊢; omega
  obtain ⟨t, ht, hte⟩ := fewL_some hAB
  rw [hte, Int.toNat_natCast]
  have hfAB : Full (A ++ B) := fun l hl => hf l (by simp at hl ⊢; rcases hl with h | h <;> simp [h])
  have htot : total (A ++ x :: B) = x.length + total (A ++ B) := by simp only [total_app, total_cons]; omega
  have hcnt : (A ++ x :: B).countP (ltL b) = 1 + (A ++ B).countP (ltL b) := by simp only [List.countP_append, List.countP_cons, h3, if_true]; omega
  have hlen : (A ++ x :: B).length = 1 + (A ++ B).length := by simp; omega
  have hperm : (A ++ x :: B).flatten.Perm (x ++ (A ++ B).flatten) := by
    simp only [List.flatten_append, List.flatten_cons]
    rw [← List.append_assoc, ← List.append_assoc]
    exact List.Perm.append_right _ List.perm_append_comm
  have hfx : x ≠ [] := hf x (by simp)
  generalize hM : A ++ B = M at *
  obtain ⟨C, y, D, rfl, rfl, hy⟩ := split_at (d := ([] : List Pid)) ht
  rw [hy, set_mid]
  have hfM := full_len hfAB
  have hx1 : 0 < x.length := List.length_pos_iff.2 hfx
  have hy1 : ltL b (y ++ x) = true → ltL b y = true := by unfold ltL; simp; omega
  have c0 : (C ++ y :: D).countP (ltL b) = C.countP (ltL b) + D.countP (ltL b) + (if ltL b y = true then 1 else 0) := by simp only [List.countP_append, List.countP_cons]; omega
  have c1 : (C ++ (y ++ x) :: D).countP (ltL b) = C.countP (ltL b) + D.countP (ltL b) + (if ltL b (y ++ x) = true then 1 else 0) := by simp only [List.countP_append, List.countP_cons]; omega
  have c2 : (if ltL b (y ++ x) = true then 1 else 0) ≤ (if ltL b y = true then 1 else 0) := by
    by_cases h : ltL b (y ++ x) = true
    · rw [if_pos h, if_pos (hy1 h)]; omega
    · rw [if_neg h]; exact Nat.zero_le _
  have t0 : total (C ++ y :: D) = total C + y.length + total D := by simp only [total_app, total_cons]; omega
  have t1 : total (C ++ (y ++ x) :: D) = total C + y.length + x.length + total D := by simp only [total_app, total_cons, List.length_append]; omega
  have l0 : (C ++ y :: D).length = C.length + D.length + 1 := by simp; omega
  have l1 : (C ++ (y ++ x) :: D).length = C.length + D.length + 1 := by simp; omega
  refine ⟨?_, ?_, ?_, by simp⟩
  · unfold phi
    rw [htot, hcnt, hlen, c0, c1, t0, t1, l0, l1]
    rw [t0, l0] at hfM
    omega
  · intro l hl
    simp only [List.mem_append, List.mem_cons] at hl
    rcases hl with hl | rfl | hl
    · exact hfAB l (by simp [hl])
    · exact fun e => hfx (List.append_eq_nil_iff.1 e).2
    · exact hfAB l (by simp [hl])
  · refine List.Perm.trans ?_ hperm.symm
    simp only [List.flatten_append, List.flatten_cons]
    -- C ++ ((y ++ x) ++ D) ~ x ++ (C ++ (y ++ D))
    have e1 : C.flatten ++ (y ++ x ++ D.flatten) = (C.flatten ++ y) ++ (x ++ D.flatten) := by simp
    have e2 : x ++ (C.flatten ++ (y ++ D.flatten)) = (x ++ (C.flatten ++ y)) ++ D.flatten := by simp
    rw [e1, e2, ← List.append_assoc]
    exact List.Perm.append_right _ List.perm_append_comm
theorem fit_ok {b : Bnd} (hb : bchk b = true) : ∀ (n : Nat) (ls : LL), Full ls → phi b ls ≤ n → Full (fitN b n ls) ∧ (fitN b n ls).flatten.Perm ls.flatten ∧ fitsL b (fitN b n ls) = true
  | n, ls, hf, hp => by
    by_cases hg : 0 ≤ greatL b ls
    · obtain ⟨h1, h2, h3, -, -⟩ := part_ok hb hf hg
      match n, hp with
      | 0, hp => omega
      | n + 1, hp =>
        have ih := fit_ok hb n (partL ls (greatL b ls).toNat) h2 (by omega)
        unfold fitN
        rw [if_pos hg]
        exact ⟨ih.1, ih.2.1.trans h3, ih.2.2⟩
    · by_cases hs : 0 ≤ smallL b ls
      · obtain ⟨h1, h2, h3, -⟩ := join_ok hb hf hs
        match n, hp with
        | 0, hp => omega
        | n + 1, hp =>
          have ih := fit_ok hb n (joinL ls (smallL b ls).toNat) h2 (by omega)
          unfold fitN
          rw [if_neg hg, if_pos hs]
          exact ⟨ih.1, ih.2.1.trans h3, ih.2.2⟩
      · have e : fitN b n ls = ls := by
          cases n with
          | zero => rfl
          | succ n => unfold fitN; rw [if_neg hg, if_neg hs]
        rw [e]
        exact ⟨hf, List.Perm.refl _, by unfold fitsL; simp; omega⟩
/-- the two ways to join are one -/
theorem lenAt_erase {ls : LL} {s i : Nat} : lenAt (ls.eraseIdx s) i = if i < s then lenAt ls i else lenAt ls (i + 1) := by
  unfold lenAt
  simp only [List.getD_eq_getElem?_getD, List.getElem?_eraseIdx]
  split <;> rfl
theorem few_erase {ls : LL} {s : Nat} (h : 2 ≤ ls.length) (hs : s < ls.length) : ∃ j : Nat, fewL ls (s : Int) = (j : Int) ∧ j ≠ s ∧ j < ls.length ∧ fewL (ls.eraseIdx s) (-1) = (((if j < s then j else j - 1) : Nat) : Int) := by
  obtain ⟨j, h1, h2, h3⟩ := fewL_other h hs
  refine ⟨j, h3, h2, h1, ?_⟩
  have hl : (ls.eraseIdx s).length = ls.length - 1 := by rw [List.length_eraseIdx]; simp [hs]
  have key := fewTo_is ls s ls.length
  refine isFew_unique (fewTo_is (ls.eraseIdx s) (-1) (ls.eraseIdx s).length) ?_
  rcases key with ⟨k1, -⟩ | ⟨i, k1, k2, k3, k4⟩
  · unfold fewL at h3; omega
  have hij : i = j := by unfold fewL at h3; omega
  subst hij
  refine .inr ⟨_, by rw [hl]; split <;> omega, rfl, by omega, fun m hm _ => ?_⟩
  rw [hl] at hm
  have e1 : lenAt (ls.eraseIdx s) (if i < s then i else i - 1) = lenAt ls i := by
    rw [lenAt_erase]
    by_cases hi : i < s
    · rw [if_pos hi, if_pos hi]
    · rw [if_neg hi, if_neg (by omega)]; congr 1; omega
  rw [e1, lenAt_erase]
  by_cases hm2 : m < s
  · rw [if_pos hm2]
    have := k4 m (by omega) (by omega)
    refine ⟨this.1, fun hlt => this.2 ?_⟩
    split at hlt <;> omega
  · rw [if_neg hm2]
    have := k4 (m + 1) (by omega) (by omega)
    refine ⟨this.1, fun hlt => this.2 ?_⟩
    split at hlt <;> omega
theorem join_eq {ls : LL} {s : Nat} (h : 2 ≤ ls.length) (hs : s < ls.length) : joinR ls s = joinL ls s := by
  obtain ⟨j, h1, h2, h3, h4⟩ := few_erase h hs
  unfold joinR joinL
  rw [h1, h4]
  simp only [Int.toNat_natCast]
  apply List.ext_getElem?
  intro i
  simp only [List.getElem?_eraseIdx, List.getElem?_set, List.getD_eq_getElem?_getD, List.length_eraseIdx]
  by_cases hj : j < s
  · simp only [if_pos hj, if_pos hs]
    by_cases hi : i < s
    · simp only [if_pos hi]
      by_cases hij : j = i
      · subst hij; simp [h3, hi]; omega
      · simp [hij]
    · simp only [if_neg hi]
      have e1 : ¬ j = i + 1 := by omega
      have e2 : ¬ j = i := by omega
      simp [e1, e2]
  · have hjs : s < j := by omega
    simp only [if_neg hj, if_pos hs]
    have e5 : ¬ j - 1 < s := by omega
    have e6 : j - 1 + 1 = j := by omega
    by_cases hi : i < s
    · simp only [if_pos hi]
      have e1 : ¬ j = i := by omega
      have e2 : ¬ j - 1 = i := by omega
      simp [e1, e2]
    · simp only [if_neg hi]
      by_cases hij : j = i + 1
      · have e2 : j - 1 = i := by omega
        subst hij
        simp [h3, hi]
      · have e2 : ¬ j - 1 = i := by omega
        simp [hij, e2]
end Go.Proofs.Ytbpfhclcjedkcaa

namespace Go.Proofs.Ytbpfhclcjedkcaa
open Go.RowKit

def sameB (A B : View) : Bool := decide (A.id = B.id) && (decide (A.ms = B.ms) && (decide (A.ls = B.ls) && decide (A.ds = B.ds)))
section
variable (A B : View) (am al ad bm bl bd : Option Addr) (cm cl cd em el ed : Nat) (w : World)
set_option maxRecDepth 100000 in
set_option maxHeartbeats 3200000 in
theorem refSame_any (hA : ViewR w am al ad A) (hB : ViewR w bm bl bd B) :
   Calls Try.prog 20 #[.agg #[.int .u64 A.id, .slice am A.ms.length cm, .slice al A.ls.length cl, .slice ad A.ds.length cd], .agg #[.int .u64 B.id, .slice bm B.ms.length em, .slice bl B.ls.length el, .slice bd B.ds.length ed]] w fun e w' => e = .returned (.bool (sameB A B)) ∧ Below w.heap.size w w' := by
  have hB2 : Below w.heap.size w ((w.alloc (.cells #[.int .u64 A.id, .slice am A.ms.length cm, .slice al A.ls.length cl, .slice ad A.ds.length cd] 33)).alloc (.cells #[.int .u64 B.id, .slice bm B.ms.length em, .slice bl B.ls.length el, .slice bd B.ds.length ed] 33)) := ((Below.refl _ _).alloc (Nat.le_refl _) _).alloc (by simp) _
  have hA2 := hA.ext hB2
  have hBb := hB.ext hB2
  have xA : ViewBox ((w.alloc (.cells #[.int .u64 A.id, .slice am A.ms.length cm, .slice al A.ls.length cl, .slice ad A.ds.length cd] 33)).alloc (.cells #[.int .u64 B.id, .slice bm B.ms.length em, .slice bl B.ls.length el, .slice bd B.ds.length ed] 33)) w.heap.size A am al ad cm cl cd := (ViewBox.made (V := A) w).ext ((Below.refl _ _).alloc (Nat.le_refl _) _) (by simp)
  have xB : ViewBox ((w.alloc (.cells #[.int .u64 A.id, .slice am A.ms.length cm, .slice al A.ls.length cl, .slice ad A.ds.length cd] 33)).alloc (.cells #[.int .u64 B.id, .slice bm B.ms.length em, .slice bl B.ls.length el, .slice bd B.ds.length ed] 33)) (w.heap.size + 1) B bm bl bd em el ed := by
    have := ViewBox.made (V := B) (am := bm) (al := bl) (ad := bd) (cm := em) (cl := el) (cd := ed) (w.alloc (.cells #[.int .u64 A.id, .slice am A.ms.length cm, .slice al A.ls.length cl, .slice ad A.ds.length cd] 33))
    simpa using this
  have hAll := hA.ll
  have hBll := hB.ll
  by_cases h1 : A.id = B.id
  · have h1' : (A.id != B.id) = false := by simpa using h1
    have H1 := hid h1
    clear h1
    cases h2 : decide (A.ms = B.ms)
    · have H2 := hid h2
      clear h2
      go_enter Try.func20, Try.ntmps20
      go_wp2_with (go_at_call 66; refine (sameR_is H2 hA.lm hB.lm hA2.ms hBb.ms).mono ?_; rintro e w3 ⟨rfl, hb3⟩)
      go_ret
      exact ⟨ret_bool (by unfold sameB; rw [H2.out]; simp), hB2.trans (hb3.mono hB2.size)⟩
    · have H2 := hid h2
      clear h2
      cases h4 : decide (A.ds = B.ds)
      · have H4 := hid h4
        clear h4
        go_enter Try.func20, Try.ntmps20
        go_wp2_with (first
          | (go_at_call_of 66 am; (with_reducible refine (sameR_is H2 hA.lm hB.lm hA2.ms hBb.ms).mono ?_); rintro e w3 ⟨rfl, hb3⟩; obtain ⟨a0, a1, a2, a3⟩ := xA.ext hb3 xA.lt; obtain ⟨b0, b1, b2, b3⟩ := xB.ext hb3 xB.lt)
          | (go_at_call 66; (with_reducible refine (sameR_is H4 hA.ld hB.ld (hA2.ext hb3).ds (hBb.ext hb3).ds).mono ?_); rintro e w4 ⟨rfl, hb4⟩))
        go_ret
        exact ⟨ret_bool (by unfold sameB; rw [H4.out]; simp), (hB2.trans (hb3.mono hB2.size)).trans (hb4.mono (by have := hB2.size; have := hb3.size; omega))⟩
      · have H4 := hid h4
        clear h4
        by_cases hl : A.ls.length = B.ls.length
        · have hl' : ((A.ls.length : Int) != (B.ls.length : Int)) = false := by rw [hl]; simp
          have hsp := eqLFrom_eq hl
          have HL := hid hl
          have HSP : Hid (sameB A B = eqLFrom A.ls B.ls) := by unfold sameB Hid; rw [H2.out, H4.out, decide_eq_true H1.out, ← hsp]; simp
          clear hl hsp
          go_enter Try.func20, Try.ntmps20
          go_wp2_with (first
            | (go_at_call_of 66 am; (with_reducible refine (sameR_is H2 hA.lm hB.lm hA2.ms hBb.ms).mono ?_); rintro e w3 ⟨rfl, hb3⟩; obtain ⟨a0, a1, a2, a3⟩ := xA.ext hb3 xA.lt; obtain ⟨b0, b1, b2, b3⟩ := xB.ext hb3 xB.lt)
            | (go_at_call 66; (with_reducible refine (sameR_is H4 hA.ld hB.ld (hA2.ext hb3).ds (hBb.ext hb3).ds).mono ?_); rintro e w4 ⟨rfl, hb4⟩; obtain ⟨d0, d1, d2, d3⟩ := (xA.ext hb3 xA.lt).ext hb4 (by have := xA.lt; have := hb3.size; omega); obtain ⟨e0, e1, e2, e3⟩ := (xB.ext hb3 xB.lt).ext hb4 (by have := xB.lt; have := hb3.size; omega)))
          have s3 := hb3.size
          have s4 := hb4.size
          have s2 := hB2.size
          have xA4 := (xA.ext hb3 xA.lt).ext hb4 (by have := xA.lt; omega)
          have xB4 := (xB.ext hb3 xB.lt).ext hb4 (by have := xB.lt; omega)
          have hA4 := (hA2.ext hb3).ext hb4
          have hB4 := (hBb.ext hb3).ext hb4
          have hW4 : Below w.heap.size w w4 := (hB2.trans (hb3.mono s2)).trans (hb4.mono (by omega))
          clear hb3 hb4 hA2 hBb xA xB a0 a1 a2 a3 b0 b1 b2 b3 d0 d1 d2 d3 e0 e1 e2 e3 hB2
          go_loopw [4, 5] (fun rs kv wr => rs = .bool false ∧ ∃ k : Nat, k ≤ A.ls.length ∧ kv = .int .i64 k ∧ Hid (sameB A B = eqLFrom (A.ls.drop k) (B.ls.drop k)) ∧ Below w4.heap.size w4 wr) (fun _ kv _ => A.ls.length - (intOf kv).toNat)
          case atStart => exact ⟨rfl, 0, Nat.zero_le _, rfl, HSP, Below.refl _ _⟩
          case round =>
            obtain ⟨rfl, k, hk, rfl, ha, hb⟩ := hrel
            obtain ⟨a0, a1, a2, a3⟩ := xA4.ext hb xA4.lt
            obtain ⟨b0, b1, b2, b3⟩ := xB4.ext hb xB4.lt
            by_cases hkt : k < A.ls.length
            · have hkt' : k < B.ls.length := by have := HL.out; omega
              obtain ⟨p1, o1, a1', c1, l1, rfl, hx1, q1, r1⟩ := hA4.ls.at hb rfl hkt
              obtain ⟨p2, o2, a2', c2, l2, rfl, hx2, q2, r2⟩ := hB4.ls.at hb rfl hkt'
              have hl1 : l1.length ≤ 70368744177664 := hA.le l1 (by rw [hx1]; exact List.getElem_mem _)
              have hl2 : l2.length ≤ 70368744177664 := hB.le l2 (by rw [hx2]; exact List.getElem_mem _)
              have hd := eqLFrom_drop hkt hkt' hx1 hx2
              have HD := hid hd
              have u1 := cell_extw a2
              have u2 := cell_extw b2
              have u3 := cell_extw q1
              have u4 := cell_extw q2
              clear hd hx1 hx2
              cases hxy : decide (l1 = l2)
              · have HXY := hid hxy
                clear hxy
                go_wp2
                refine wp_region_ext (w := wr) (Below.refl _ _) (by kernel_rfl) (by kernel_rfl) ?_
                repeat (go_big_quiet_step (exact sameR_ext HXY hl1 hl2 r1 r2))
                refine wpQuiet_nil ?_
                rintro w9 ⟨⟨_, hb9⟩, rfl⟩
                go_wp2
                go_ret
                exact ⟨ret_bool (by rw [ha.out, HD.out, if_neg (of_decide_eq_false HXY.out)]), hW4.trans ((hb.trans (hb9.mono hb.size)).mono hW4.size)⟩
              · have HXY := hid hxy
                clear hxy
                go_wp2
                refine wp_region_ext (w := wr) (Below.refl _ _) (by kernel_rfl) (by kernel_rfl) ?_
                repeat (go_big_quiet_step (exact sameR_ext HXY hl1 hl2 r1 r2))
                refine wpQuiet_nil ?_
                rintro w9 ⟨⟨_, hb9⟩, rfl⟩
                go_wp2
                go_roundw
                case rel => exact ⟨rfl, k + 1, by omega, by go_num, (ha.out.trans (by rw [HD.out, if_pos (of_decide_eq_true HXY.out)]) : _), hb.trans (hb9.mono hb.size)⟩
                case measure => simp [intOf]; omega
            · go_wp2
              go_ret
              exact ⟨ret_bool (by rw [ha.out, List.drop_eq_nil_of_le (by omega)]; rfl), hW4.trans (hb.mono hW4.size)⟩
        · have hl' : ((A.ls.length : Int) != (B.ls.length : Int)) = true := by rw [bne_iff_ne]; omega
          have HNE : Hid (sameB A B = false) := by
            have : decide (A.ls = B.ls) = false := by simp; intro e; exact hl (by rw [e])
            unfold sameB Hid; rw [this]; simp
          clear hl
          go_enter Try.func20, Try.ntmps20
          go_wp2_with (first
            | (go_at_call_of 66 am; (with_reducible refine (sameR_is H2 hA.lm hB.lm hA2.ms hBb.ms).mono ?_); rintro e w3 ⟨rfl, hb3⟩; obtain ⟨a0, a1, a2, a3⟩ := xA.ext hb3 xA.lt; obtain ⟨b0, b1, b2, b3⟩ := xB.ext hb3 xB.lt)
            | (go_at_call 66; (with_reducible refine (sameR_is H4 hA.ld hB.ld (hA2.ext hb3).ds (hBb.ext hb3).ds).mono ?_); rintro e w4 ⟨rfl, hb4⟩; obtain ⟨d0, d1, d2, d3⟩ := (xA.ext hb3 xA.lt).ext hb4 (by have := xA.lt; have := hb3.size; omega); obtain ⟨e0, e1, e2, e3⟩ := (xB.ext hb3 xB.lt).ext hb4 (by have := xB.lt; have := hb3.size; omega)))
          go_ret
          exact ⟨ret_bool HNE.out.symm, (hB2.trans (hb3.mono hB2.size)).trans (hb4.mono (by have := hB2.size; have := hb3.size; omega))⟩
  · have h1' : (A.id != B.id) = true := by simpa using h1
    have H1 : Hid (¬ A.id = B.id) := h1
    clear h1
    go_enter Try.func20, Try.ntmps20
    go_wp2
    go_ret
    exact ⟨ret_bool (by unfold sameB; rw [decide_eq_false H1.out]; rfl), hB2⟩
end
theorem sameB_refl (A : View) : sameB A A = true := by simp [sameB]
end Go.Proofs.Ytbpfhclcjedkcaa

namespace Go.Proofs.Ytbpfhclcjedkcaa
open Go.RowKit
/-! ### bytes -/
theorem addr_addB (b off n : Nat) : (⟨b, off, none⟩ : Addr).add n = ⟨b, off + n, none⟩ := by
  unfold Addr.add; split <;> simp_all
theorem cell_toB {w wr : World} {a : Addr} {v : Value} (h : w.cell? a = some v) (hb : Below w.heap.size w wr) : wr.cell? a = some v := (hb.cell (World.block_lt_of_cell? w _ h)).trans h
def u8V (b : Nat) : Value := .int .u8 b
def u8C (bs : List Nat) : List Value := bs.map u8V
theorem u8C_len (bs : List Nat) : (u8C bs).length = bs.length := by simp [u8C]
/-- the row of bytes behind a slice's address -/
def ByteRow (w : World) (a : Option Addr) (bs : List Nat) : Prop :=
  bs = [] ∨ ∃ b off, a = some ⟨b, off, none⟩ ∧ b < w.heap.size ∧ ∀ i (h : i < bs.length), w.cell? ⟨b, off + i, none⟩ = some (.int .u8 (bs[i] : Nat))
theorem ByteRow.ext {w w' : World} {a : Option Addr} {bs : List Nat} (h : ByteRow w a bs) (hb : Below w.heap.size w w') : ByteRow w' a bs := by
  rcases h with rfl | ⟨b, off, rfl, hlt, hc⟩
  · exact .inl rfl
  · exact .inr ⟨b, off, rfl, by have := hb.size; omega, fun i hi => by rw [hb.cell (by exact hlt)]; exact hc i hi⟩
theorem ByteRow.alloc {w : World} {a : Option Addr} {bs : List Nat} (h : ByteRow w a bs) (o : Obj) : ByteRow (w.alloc o) a bs := h.ext ((Below.refl _ _).alloc (Nat.le_refl _) _)
theorem ByteRow.grown {w w' : World} {a : Option Addr} {bs : List Nat} {row : Option Nat} (h : ByteRow w a bs) (hg : w.grownBy w' row) (hne : ∀ b off, a = some ⟨b, off, none⟩ → bs ≠ [] → row ≠ some b) : ByteRow w' a bs := by
  rcases h with rfl | ⟨b, off, rfl, hlt, hc⟩
  · exact .inl rfl
  · by_cases hl : bs = []
    · exact .inl hl
    · have hb := hg.block b hlt (fun e => hne b off rfl hl e.symm)
      exact .inr ⟨b, off, rfl, by have := hg.size; omega, fun i hi => (World.cell?_of_block (w := w) hb).trans (hc i hi)⟩
/-- the k-th byte, in any later world -/
theorem ByteRow.at {w wr : World} {a : Option Addr} {bs : List Nat} (h : ByteRow w a bs) {B : Nat} (hb : Below B w wr) (hB : B = w.heap.size) {k : Nat} (hk : k < bs.length) :
    ∃ b off x, a = some ⟨b, off, none⟩ ∧ x = bs[k] ∧ wr.cell? ⟨b, off + k, none⟩ = some (.int .u8 (x : Nat)) := by
  subst hB
  rcases h with rfl | ⟨b, off, rfl, hlt, hc⟩
  · simp at hk
  · exact ⟨b, off, bs[k], rfl, rfl, by rw [hb.cell (by exact hlt)]; exact hc k hk⟩
theorem ByteRow.cells {w : World} {b off : Nat} {bs : List Nat} (hc : ∀ i (h : i < bs.length), w.cell? ⟨b, off + i, none⟩ = some (.int .u8 (bs[i] : Nat))) :
    ∀ j u, (u8C bs)[j]? = some u → w.cell? ((⟨b, off, none⟩ : Addr).add j) = some u := by
  intro j u hu
  have hj : j < (u8C bs).length := (List.getElem?_eq_some_iff.1 hu).1
  rw [u8C_len] at hj
  rw [addr_addB]
  rw [hc j hj, ← hu]
  simp [u8C, u8V, hj]
/-- a cut of the row -/
theorem ByteRow.from {w : World} {a : Option Addr} {bs : List Nat} {k : Nat} {b off : Nat} (ha : a = some ⟨b, off, none⟩) (h : ByteRow w a bs) : ByteRow w (some ⟨b, off + k, none⟩) (bs.drop k) := by
  subst ha
  rcases h with rfl | ⟨b', off', e, hlt, hc⟩
  · exact .inl (by simp)
  · cases e
    refine .inr ⟨b, off + k, rfl, hlt, fun i hi => ?_⟩
    have := hc (k + i) (by simp at hi; omega)
    rw [List.getElem_drop, Nat.add_assoc]; exact this
/-- a slice value that owns a row of bytes, from block base on -/
def OwnB (w : World) (base : Nat) (v : Value) (bs : List Nat) : Prop := w.ownsRow base 5 1 v bs.length (u8C bs)
theorem OwnB.nil (w : World) (base : Nat) : OwnB w base (.slice none 0 0) [] := World.ownsRow_nil _ _ _ _
theorem OwnB.ext {w w' : World} {base : Nat} {v : Value} {bs : List Nat} (h : OwnB w base v bs) (hb : Below w.heap.size w w') : OwnB w' base v bs := by
  refine ⟨h.1, ?_⟩
  rcases h.2 with hn | ⟨g, cap, cur, rfl, hbb, hgg, rest⟩
  · exact .inl hn
  · exact .inr ⟨g, cap, cur, rfl, hbb, (hb.block g (Array.getElem?_eq_some_iff.1 hgg).1).trans hgg, rest⟩
theorem OwnB.alloc {w : World} {base : Nat} {v : Value} {bs : List Nat} (h : OwnB w base v bs) (o : Obj) : OwnB (w.alloc o) base v bs := h.ext ((Below.refl _ _).alloc (Nat.le_refl _) _)
theorem OwnB.mono {w : World} {b b' : Nat} {v : Value} {bs : List Nat} (h : OwnB w b v bs) (hb : b' ≤ b) : OwnB w b' v bs := by
  refine ⟨h.1, ?_⟩
  rcases h.2 with hn | ⟨g, cap, cur, rfl, hbb, rest⟩
  · exact .inl hn
  · exact .inr ⟨g, cap, cur, rfl, Nat.le_trans hb hbb, rest⟩
theorem OwnB.row {w : World} {base : Nat} {v : Value} {bs : List Nat} (h : OwnB w base v bs) : ∃ a c, v = .slice a bs.length c ∧ ByteRow w a bs ∧ ∀ b off, a = some ⟨b, off, none⟩ → base ≤ b := by
  have hcells := fun g => World.ownsRow.cells (g := g) h
  rcases h.2 with ⟨rfl, hn⟩ | ⟨g, cap, cur, rfl, hb, hg, hnc, hcm, hcs, htake⟩
  · exact ⟨none, 0, by rw [hn], .inl (List.length_eq_zero_iff.1 hn), by simp⟩
  · refine ⟨_, cap, rfl, .inr ⟨g, 0, rfl, (Array.getElem?_eq_some_iff.1 hg).1, fun i hi => ?_⟩, fun b off e => by cases e; exact hb⟩
    have h1 := hcells g rfl i (.int .u8 (bs[i] : Nat)) (by simp [u8C, u8V, hi])
    rw [addr_addB] at h1
    exact h1
theorem OwnB.butT {w w' : World} {base t : Nat} {v : Value} {bs : List Nat} (h : OwnB w base v bs) (hb : ∀ k, k ≠ t → w'.heap[k]? = w.heap[k]?) (ht : some t ≠ v.ownBlock) : OwnB w' base v bs := by
  refine ⟨h.1, ?_⟩
  rcases h.2 with hn | ⟨g, cap, cur, rfl, hbb, hgg, rest⟩
  · exact .inl hn
  · exact .inr ⟨g, cap, cur, rfl, hbb, (hb g (fun e => ht (by rw [e]; rfl))).trans hgg, rest⟩
/-- one byte in a block of its own -/
theorem ByteRow.one (w : World) (x : Nat) : ByteRow (w.alloc (.cells #[.int .u8 x] 5)) (some ⟨w.heap.size, 0, none⟩) [x] :=
  .inr ⟨w.heap.size, 0, rfl, by simp, fun i hi => by have : i = 0 := by simpa using hi
                                                     subst this; simp⟩
/-! ### short forms -/
def short (n : Nat) : List Nat := if h : n < 128 then [n] else (n % 128 + 128) :: short (n / 128)
termination_by n
decreasing_by omega
end Go.Proofs.Ytbpfhclcjedkcaa

namespace Go.Proofs.Ytbpfhclcjedkcaa
open Go.RowKit
theorem ByteRow.cut {w : World} {a : Option Addr} {bs : List Nat} (h : ByteRow w a bs) {k c : Nat} (hc : bs.length ≤ c) : ByteRow w (if c = k then a else a.map (·.add (k * 1))) (bs.drop k) := by
  by_cases hk : k < bs.length
  · rw [if_neg (by omega)]
    rcases h with rfl | ⟨b, off, rfl, hb, hcell⟩
    · simp at hk
    · refine .inr ⟨b, off + k, by simp [addr_addB], hb, fun i hi => ?_⟩
      simp only [List.length_drop] at hi
      have := hcell (k + i) (by omega)
      rw [List.getElem_drop, show off + k + i = off + (k + i) by omega]
      exact this
  · rw [List.drop_eq_nil_of_le (by omega)]; exact .inl rfl
end Go.Proofs.Ytbpfhclcjedkcaa

namespace Go.Proofs.Ytbpfhclcjedkcaa
open Go.RowKit
/-! ### lent bytes -/
/-- what a row in the making holds, as far as k -/
structure Fill (w : World) (g k : Nat) (F : List Nat) : Prop where
  cells : ∀ j (h : j < F.length), j < k → w.cell? ⟨g, j, none⟩ = some (.int .u8 (F[j] : Nat))
  there : ∀ j, j < F.length → (w.cell? ⟨g, j, none⟩).isSome = true
  fro : ∀ j, w.frozen? ⟨g, j, none⟩ = false
theorem Fill.step {w : World} {g k : Nat} {F : List Nat} (h : Fill w g k F) {x : Nat} (hk : k < F.length) (hx : x = F[k]) : Fill (w.setCell ⟨g, k, none⟩ (.int .u8 x)) g (k + 1) F := by
  refine ⟨fun j hj hjk => ?_, fun j hj => ?_, fun j => by simp [h.fro]⟩
  · by_cases e : j = k
    · subst e
      obtain ⟨v, hv⟩ := Option.isSome_iff_exists.1 (h.there j hj)
      rw [World.cell?_setCell_same _ _ _ hv, hx]
    · rw [World.cell?_setCell_other _ _ _ _ (by simp <;> omega)]
      exact h.cells j hj (by omega)
  · by_cases e : j = k
    · subst e
      obtain ⟨v, hv⟩ := Option.isSome_iff_exists.1 (h.there j hj)
      rw [World.cell?_setCell_same _ _ _ hv]; rfl
    · rw [World.cell?_setCell_other _ _ _ _ (by simp <;> omega)]
      exact h.there j hj
theorem Fill.made (w : World) (Z : Array Value) (F : List Nat) (h : F.length ≤ Z.size) : Fill (w.alloc (.cells Z 5)) w.heap.size 0 F := by
  refine ⟨fun j _ h => by omega, fun j hj => ?_, fun j => by simp⟩
  have : (w.alloc (.cells Z 5)).cell? ⟨w.heap.size, j, none⟩ = Z[j]? := by simp
  rw [this]; simp; omega
theorem Fill.row {w : World} {g k : Nat} {F : List Nat} (h : Fill w g k F) (hk : F.length ≤ k) (hg : g < w.heap.size) : ByteRow w (some ⟨g, 0, none⟩) F :=
  .inr ⟨g, 0, rfl, hg, fun i hi => by rw [Nat.zero_add]; exact h.cells i hi (by omega)⟩
end Go.Proofs.Ytbpfhclcjedkcaa

namespace Go.Proofs.Ytbpfhclcjedkcaa
open Go.RowKit
/-! ### the forms, and the readers, in plain words -/
/-- what is left to read, and what stopped it -/
structure RS where
  b : List Nat
  e : Nat
def zeroV : View := ⟨0, [], [], []⟩
/-! ### what was laid is read as it was -/
end Go.Proofs.Ytbpfhclcjedkcaa

namespace Go.Proofs.Ytbpfhclcjedkcaa
open Go.RowKit
/-! ### commands and beats in plain words -/
instance : DecidableEq View := fun a b => by
  obtain ⟨a1, a2, a3, a4⟩ := a
  obtain ⟨b1, b2, b3, b4⟩ := b
  exact decidable_of_iff (a1 = b1 ∧ a2 = b2 ∧ a3 = b3 ∧ a4 = b4) (by simp)
structure CmdD where
  kind : Int
  fr : Pid
  num : Nat
  vw : Nat
  data : List Nat
  v : View
end Go.Proofs.Ytbpfhclcjedkcaa

