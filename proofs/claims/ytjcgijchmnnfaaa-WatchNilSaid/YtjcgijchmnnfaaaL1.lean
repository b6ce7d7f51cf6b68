import Derived.Test.YtjcgijchmnnfaaaR5
import Derived.Test.YtjcgijchmnnfaaaP1
namespace Go.Proofs.Ytjcgijchmnnfaaa
open Go.RowKit

theorem lens_le {ls : List (List Pid)} {n : Nat} (h : ∀ l ∈ ls, l.length ≤ n) : lens ls ≤ ls.length * n := by
  induction ls with
  | nil => simp [lens]
  | cons l r ih =>
    have := ih (fun x hx => h x (List.mem_cons_of_mem _ hx))
    have h0 := h l (List.mem_cons_self ..)
    simp only [lens, List.map_cons, List.sum_cons, List.length_cons] at *
    rw [Nat.add_mul]
    omega
theorem great_no {V : View} (h : greatB V = false) : V.ms.length ≤ 40 ∧ V.ls.length ≤ 40 ∧ V.ds.length ≤ 40 ∧ (∀ l ∈ V.ls, l.length ≤ 40) ∧ lens V.ls ≤ 1600 := by
  unfold greatB at h
  simp only [Bool.or_eq_false_iff, decide_eq_false_iff_not, List.any_eq_false, decide_eq_true_eq] at h
  obtain ⟨a, b, c, d⟩ := h
  have h4 : ∀ l ∈ V.ls, l.length ≤ 40 := fun l hl => by have := d l hl; omega
  have := lens_le h4
  have : V.ls.length * 40 ≤ 40 * 40 := Nat.mul_le_mul_right _ (by omega)
  exact ⟨by omega, by omega, by omega, h4, by omega⟩
theorem check_is {V : View} {am al ad : Option Addr} {cm cl cd : Nat} {w : World} {bm : Bool} {k : Int} (h : Hid (checkB V = bm)) (hk : errB bm = k) (hV : ViewR w am al ad V) (hsum : lens V.ls ≤ 549755813888) :
   Calls Try.prog 14 #[.agg #[.int .u64 V.id, .slice am V.ms.length cm, .slice al V.ls.length cl, .slice ad V.ds.length cd]] w fun e w' => e = .returned (.int .i64 k) ∧ Below w.heap.size w w' := by
  have := check_any V am al ad cm cl cd w hV hsum
  rw [h.out, hk] at this
  exact this
theorem refCheck_is {V : View} {am al ad : Option Addr} {cm cl cd : Nat} {w : World} {bm : Bool} (h : Hid (refCheckB V = bm)) (hV : ViewR w am al ad V) (hsum : lens V.ls ≤ 549755813888) :
   Calls Try.prog 15 #[.agg #[.int .u64 V.id, .slice am V.ms.length cm, .slice al V.ls.length cl, .slice ad V.ds.length cd]] w fun e w' => e = .returned (.bool bm) ∧ Below w.heap.size w w' := by
  have := refCheck_any V am al ad cm cl cd w hV hsum
  rw [h.out] at this
  exact this

set_option maxRecDepth 100000 in
set_option maxHeartbeats 3200000 in
theorem viewChecks_any (V : View) (am al ad : Option Addr) (cm cl cd : Nat) (w : World) (hV : ViewR w am al ad V) (hw : WfPids V.ms) :
   Calls Try.prog 3 #[.agg #[.int .u64 V.id, .slice am V.ms.length cm, .slice al V.ls.length cl, .slice ad V.ds.length cd]] w fun e w' => e = .returned (.bool true) ∧ Below w.heap.size w w' := by
  have hBx : Below w.heap.size w (w.alloc (.cells #[.int .u64 V.id, .slice am V.ms.length cm, .slice al V.ls.length cl, .slice ad V.ds.length cd] 26)) := (Below.refl _ _).alloc (Nat.le_refl _) _
  have hVx := hV.ext hBx
  have hbx : ViewBox (w.alloc (.cells #[.int .u64 V.id, .slice am V.ms.length cm, .slice al V.ls.length cl, .slice ad V.ds.length cd] 26)) w.heap.size V am al ad cm cl cd := ViewBox.made w
  have hz : w.heap.size < (w.alloc (.cells #[.int .u64 V.id, .slice am V.ms.length cm, .slice al V.ls.length cl, .slice ad V.ds.length cd] 26)).heap.size := by simp
  cases hg : greatB V
  · obtain ⟨-, -, -, -, hsum⟩ := great_no hg
    have hsum' : lens V.ls ≤ 549755813888 := by omega
    have HG := hid hg
    have he := check_eq V hw
    cases hc : checkB V
    · have HC := hid hc
      have HR : Hid (refCheckB V = false) := by rw [← he]; exact hc
      clear hg he hc hsum
      go_enter Try.func3, Try.ntmps3
      go_wp2_with (first
        | (go_at_call 12; refine (great_is HG hVx).mono ?_; rintro e w2 ⟨rfl, hb2⟩; obtain ⟨a0, a1, a2, a3⟩ := hbx.ext hb2 hz)
        | (go_at_call 14; refine (check_is HC rfl (hVx.ext hb2) hsum').mono ?_; rintro e w3 ⟨rfl, hb3⟩; obtain ⟨b0, b1, b2, b3⟩ := (hbx.ext hb2 hz).ext hb3 (by have := hb2.size; omega))
        | (go_at_call 15; refine (refCheck_is HR ((hVx.ext hb2).ext hb3) hsum').mono ?_; rintro e w4 ⟨rfl, hb4⟩)
        | (go_at_call 13; refine (awake_any _).mono ?_; rintro e w5 ⟨rfl, hb5⟩))
      go_ret
      exact ⟨rfl, (((hBx.trans (hb2.mono hBx.size)).trans (hb3.mono (by have := hb2.size; omega))).trans (hb4.mono (by have := hb2.size; have := hb3.size; omega))).trans (hb5.mono (by have := hb2.size; have := hb3.size; have := hb4.size; omega))⟩
    · have HC := hid hc
      have HR : Hid (refCheckB V = true) := by rw [← he]; exact hc
      clear hg he hc hsum
      go_enter Try.func3, Try.ntmps3
      go_wp2_with (first
        | (go_at_call 12; refine (great_is HG hVx).mono ?_; rintro e w2 ⟨rfl, hb2⟩; obtain ⟨a0, a1, a2, a3⟩ := hbx.ext hb2 hz)
        | (go_at_call 14; refine (check_is HC rfl (hVx.ext hb2) hsum').mono ?_; rintro e w3 ⟨rfl, hb3⟩; obtain ⟨b0, b1, b2, b3⟩ := (hbx.ext hb2 hz).ext hb3 (by have := hb2.size; omega))
        | (go_at_call 15; refine (refCheck_is HR ((hVx.ext hb2).ext hb3) hsum').mono ?_; rintro e w4 ⟨rfl, hb4⟩)
        | (go_at_call 13; refine (awake_any _).mono ?_; rintro e w5 ⟨rfl, hb5⟩))
      go_ret
      exact ⟨rfl, (((hBx.trans (hb2.mono hBx.size)).trans (hb3.mono (by have := hb2.size; omega))).trans (hb4.mono (by have := hb2.size; have := hb3.size; omega))).trans (hb5.mono (by have := hb2.size; have := hb3.size; have := hb4.size; omega))⟩
  · have HG := hid hg
    clear hg
    go_enter Try.func3, Try.ntmps3
    go_wp2_with (first
      | (go_at_call 12; refine (great_is HG hVx).mono ?_; rintro e w2 ⟨rfl, hb2⟩)
      | (go_at_call 13; refine (awake_any _).mono ?_; rintro e w3 ⟨rfl, hb3⟩))
    go_ret
    exact ⟨rfl, (hBx.trans (hb2.mono hBx.size)).trans (hb3.mono (by have := hb2.size; omega))⟩
end Go.Proofs.Ytjcgijchmnnfaaa
