import Derived.Test.YtjjahefedpfnaaaB1
namespace Go.Proofs.Ytjjahefedpfnaaa
open Go.RowKit
theorem parts_len (xs ys : List Pid) : (minusP xs ys).length + (commonP xs ys).length = xs.length := by
  unfold minusP commonP
  induction xs with
  | nil => rfl
  | cons p l ih =>
    simp only [List.filter_cons]
    cases decide (p ∈ ys) <;> simp <;> omega
set_option maxRecDepth 100000 in
set_option maxHeartbeats 3200000 in
theorem psetParts_law (a : Option Addr) (c : Nat) (xs : List Pid) (b : Option Addr) (d : Nat) (ys : List Pid) (w : World) (hx : PidRow w a xs) (_ : WfPids xs) (hn : xs.length ≤ 17592186044416) (hy : PidRow w b ys) (_ : WfPids ys) (hm : ys.length ≤ 17592186044416) :
    Calls Try.prog 6 #[.slice a xs.length c, .slice b ys.length d] w fun e w' => e = .returned (.bool true) ∧ Below w.heap.size w w' := by
  by_cases h1 : 60 < xs.length
  · have h1' : decide (60 < (xs.length : Int)) = true := by simp; omega
    go_enter Try.func6, Try.ntmps6
    go_wp2_with (go_at_call 28; refine (awakeSet_any _).mono ?_; rintro e w3 ⟨rfl, hb3⟩)
    go_ret
    exact ⟨rfl, hb3⟩
  · have h1' : decide (60 < (xs.length : Int)) = false := by simp; omega
    by_cases h2 : 60 < ys.length
    · have h2' : decide (60 < (ys.length : Int)) = true := by simp; omega
      go_enter Try.func6, Try.ntmps6
      go_wp2_with (go_at_call 28; refine (awakeSet_any _).mono ?_; rintro e w3 ⟨rfl, hb3⟩)
      go_ret
      exact ⟨rfl, hb3⟩
    · have h2' : decide (60 < (ys.length : Int)) = false := by simp; omega
      have hpl := parts_len xs ys
      generalize hMi : minusP xs ys = M at *
      generalize hCo : commonP xs ys = C at *
      have hlM : M.length ≤ 60 := by omega
      have hlC : C.length ≤ 60 := by omega
      have heq : (((M.length : Int) + (C.length : Int)) == (xs.length : Int)) = true := by rw [beq_iff_eq]; omega
      have HM := hid hMi
      have HC := hid hCo
      clear hMi hCo hpl
      go_enter Try.func6, Try.ntmps6
      go_wp2_with (first
        | (go_at_call 29; refine (minus_any _ _ xs _ _ ys _ (by omega) (by omega) hx hy).mono ?_; rintro e w1 ⟨v1, rfl, hown1, hb1⟩; rw [HM.out] at hown1; obtain ⟨a1, c1, rfl, hrow1, -⟩ := hown1.row)
        | (go_at_call 30; refine (common_any _ _ xs _ _ ys _ (by omega) (by omega) (hx.ext hb1) (hy.ext hb1)).mono ?_; rintro e w2 ⟨v2, rfl, hown2, hb2⟩; rw [HC.out] at hown2; obtain ⟨a2, c2, rfl, hrow2, -⟩ := hown2.row)
        | (go_at_call 31; refine (refMinus_any _ _ xs _ _ ys _ (by omega) (by omega) ((hx.ext hb1).ext hb2) ((hy.ext hb1).ext hb2)).mono ?_; rintro e w3 ⟨v3, rfl, hown3, hb3⟩; rw [HM.out] at hown3; obtain ⟨a3, c3, rfl, hrow3, -⟩ := hown3.row))
      refine (sameR_is (xs := M) (ys := M) (bm := true) (hid (by simp)) (by omega) (by omega) ((hrow1.ext hb2).ext hb3) hrow3).mono ?_
      rintro e w4 ⟨rfl, hb4⟩
      go_wp2_with (go_at_call 32; refine (refCommon_any _ _ xs _ _ ys _ (by omega) (by omega) ((((hx.ext hb1).ext hb2).ext hb3).ext hb4) ((((hy.ext hb1).ext hb2).ext hb3).ext hb4)).mono ?_; rintro e w5 ⟨v5, rfl, hown5, hb5⟩; rw [HC.out] at hown5; obtain ⟨a5, c5, rfl, hrow5, -⟩ := hown5.row)
      refine (sameR_is (xs := C) (ys := C) (bm := true) (hid (by simp)) (by omega) (by omega) (((hrow2.ext hb3).ext hb4).ext hb5) hrow5).mono ?_
      rintro e w6 ⟨rfl, hb6⟩
      go_wp2_with (go_at_call 28; refine (awakeSet_any _).mono ?_; rintro e w7 ⟨rfl, hb7⟩)
      go_ret
      have s1 := hb1.size
      have s2 := hb2.size
      have s3 := hb3.size
      have s4 := hb4.size
      have s5 := hb5.size
      have s6 := hb6.size
      exact ⟨rfl, (((((hb1.trans (hb2.mono (by omega))).trans (hb3.mono (by omega))).trans (hb4.mono (by omega))).trans (hb5.mono (by omega))).trans (hb6.mono (by omega))).trans (hb7.mono (by omega))⟩
end Go.Proofs.Ytjjahefedpfnaaa
