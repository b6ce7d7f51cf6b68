import Derived.Test.YtbpfhclcjedkcaaR5
import Derived.Test.YtbpfhclcjedkcaaP1
namespace Go.Proofs.Ytbpfhclcjedkcaa
open Go.RowKit

theorem lens_le {ls : List (List Pid)} {n : Nat} (h : ∀ l ∈ ls, l.length ≤ n) : lens ls ≤ ls.length * n := by
  induction ls with
  | nil => simp [lens]
  | cons l r ih =>
    have := ih (fun x hx => h x (List.mem_cons_of_mem _ hx))
    have h0 := h l (List.mem_cons_self ..)
    simp only [lens, List.map_cons, List.sum_cons, List.length_cons] at *
    rw [Nat.add_mul]
    omega
theorem great_no {V : View} (h : greatB V = false) : V.ms.length ≤ 40 ∧ V.ls.length ≤ 40 ∧ V.ds.length ≤ 40 ∧ (∀ l ∈ V.ls, l.length ≤ 40) ∧ lens V.ls ≤ 1600 := by
  unfold greatB at h
  simp only [Bool.or_eq_false_iff, decide_eq_false_iff_not, List.any_eq_false, decide_eq_true_eq] at h
  obtain ⟨a, b, c, d⟩ := h
  have h4 : ∀ l ∈ V.ls, l.length ≤ 40 := fun l hl => by have := d l hl; omega
  have := lens_le h4
  have : V.ls.length * 40 ≤ 40 * 40 := Nat.mul_le_mul_right _ (by omega)
  exact ⟨by omega, by omega, by omega, h4, by omega⟩
theorem refCheck_is {V : View} {am al ad : Option Addr} {cm cl cd : Nat} {w : World} {bm : Bool} (h : Hid (refCheckB V = bm)) (hV : ViewR w am al ad V) (hsum : lens V.ls ≤ 549755813888) :
   Calls Try.prog 74 #[.agg #[.int .u64 V.id, .slice am V.ms.length cm, .slice al V.ls.length cl, .slice ad V.ds.length cd]] w fun e w' => e = .returned (.bool bm) ∧ Below w.heap.size w w' := by
  have := refCheck_any V am al ad cm cl cd w hV hsum
  rw [h.out] at this
  exact this

end Go.Proofs.Ytbpfhclcjedkcaa
