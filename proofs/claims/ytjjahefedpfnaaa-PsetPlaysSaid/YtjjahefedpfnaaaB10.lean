import Derived.Test.YtjjahefedpfnaaaB9
import Derived.Test.YtjjahefedpfnaaaOpenP
namespace Go.Proofs.Ytjjahefedpfnaaa
open Go.RowKit
/-- is one list among the first hundred acts too long -/
def greatA : List Act → Nat → Bool
  | [], _ => false
  | A :: l, k => if 100 ≤ k then false else if 40 < A.l.length then true else greatA l (k + 1)
theorem greatA_drop {xs : List Act} {k : Nat} (h : k < xs.length) (h100 : k < 100) : greatA (xs.drop k) k = if 40 < xs[k].l.length then true else greatA (xs.drop (k + 1)) (k + 1) := by
  rw [List.drop_eq_getElem_cons h, greatA, if_neg (by omega)]
theorem greatA_end {xs : List Act} {k : Nat} (h : ¬ (k < xs.length ∧ k < 100)) : greatA (xs.drop k) k = false := by
  by_cases hk : k < xs.length
  · rw [List.drop_eq_getElem_cons hk, greatA, if_pos (by omega)]
  · rw [List.drop_eq_nil_of_le (by omega)]; rfl
theorem greatA_no : ∀ {xs : List Act} {j : Nat}, greatA xs j = false → ∀ i (h : i < xs.length), j + i < 100 → xs[i].l.length ≤ 40
  | [], _, _, i, h, _ => by simp at h
  | A :: l, j, hg, i, h, h100 => by
    unfold greatA at hg
    rw [if_neg (by omega)] at hg
    by_cases hA : 40 < A.l.length
    · rw [if_pos hA] at hg; simp at hg
    · rw [if_neg hA] at hg
      cases i with
      | zero => simp; omega
      | succ i => simpa using greatA_no hg i (by simpa using h) (by omega)
set_option maxRecDepth 100000 in
set_option maxHeartbeats 1600000 in
theorem greatActs_any (a : Option Addr) (c : Nat) (xs : List Act) (w : World) (hx : ActRow w a xs) :
   Calls Try.prog 33 #[.slice a xs.length c] w fun e w' => e = .returned (.bool (greatA xs 0)) ∧ Below w.heap.size w w' := by
  go_enter Try.func33, Try.ntmps33
  go_wp2
  go_loopw [2, 3] (fun r i wr => r = .bool false ∧ ∃ k : Nat, k ≤ xs.length ∧ i = .int .i64 k ∧ Hid (greatA xs 0 = greatA (xs.drop k) k) ∧ Below w.heap.size w wr) (fun _ i _ => xs.length - (intOf i).toNat)
  case atStart => exact ⟨rfl, 0, Nat.zero_le _, rfl, rfl, Below.refl _ _⟩
  case round =>
    obtain ⟨rfl, k, hk, rfl, hM, hb⟩ := hrel
    by_cases hgo : k < xs.length ∧ k < 100
    · obtain ⟨hlt, h100⟩ := hgo
      have hgd := greatA_drop hlt h100
      obtain ⟨b, off, ai, ci, kd, x, y, l, rfl, hxk, d1, d2, d3, d4, hl⟩ := (hx.ext hb).at hlt
      rw [hxk] at hgd
      have hl1 : decide (k < xs.length) = true := by simpa using hlt
      have hl2 : decide ((k : Int) < (xs.length : Int)) = true := by simp; omega
      have hl3 : decide (k < 100) = true := by simpa using h100
      have hl4 : decide ((k : Int) < 100) = true := by simp; omega
      by_cases hl40 : 40 < l.length
      · have h1' : decide (40 < (l.length : Int)) = true := by simp; omega
        have HM : Hid (greatA xs 0 = true) := hid (by rw [hM.out, hgd]; simp [hl40])
        clear hM hgd hxk
        go_wp2
        go_ret
        exact ⟨by rw [HM.out]; rfl, hb⟩
      · have h1' : decide (40 < (l.length : Int)) = false := by simp; omega
        have HM : Hid (greatA xs 0 = greatA (xs.drop (k + 1)) (k + 1)) := hid (by rw [hM.out, hgd]; simp [hl40])
        clear hM hgd hxk
        go_wp2
        go_roundw
        case rel => exact ⟨rfl, k + 1, by omega, by go_num, HM, hb⟩
        case measure => simp [intOf]; omega
    · have HM : Hid (greatA xs 0 = false) := hid (by rw [hM.out, greatA_end hgo])
      by_cases hlt : k < xs.length
      · have hl1 : decide (k < xs.length) = true := by simpa using hlt
        have hl2 : decide ((k : Int) < (xs.length : Int)) = true := by simp; omega
        have hl3 : decide (k < 100) = false := by simp; omega
        have hl4 : decide ((k : Int) < 100) = false := by simp; omega
        go_wp2
        go_ret
        exact ⟨by rw [HM.out]; rfl, hb⟩
      · have hl1 : decide (k < xs.length) = false := by simp; omega
        have hl2 : decide ((k : Int) < (xs.length : Int)) = false := by simp; omega
        go_wp2
        go_ret
        exact ⟨by rw [HM.out]; rfl, hb⟩
theorem greatActs_is {a : Option Addr} {c : Nat} {xs : List Act} {w : World} {r : Bool} (h : Hid (greatA xs 0 = r)) (hx : ActRow w a xs) :
   Calls Try.prog 33 #[.slice a xs.length c] w fun e w' => e = .returned (.bool r) ∧ Below w.heap.size w w' := by rw [← h.out]; exact greatActs_any a c xs w hx
end Go.Proofs.Ytjjahefedpfnaaa
