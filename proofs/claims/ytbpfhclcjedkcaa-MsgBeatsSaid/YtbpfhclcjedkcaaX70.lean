/- Parts of the proof: X70. -/
import Derived.Test.YtbpfhclcjedkcaaSm25
import Derived.Test.YtbpfhclcjedkcaaSm39
import Derived.Test.YtbpfhclcjedkcaaX46
import Derived.Test.YtbpfhclcjedkcaaX68
namespace Go.Proofs.Ytbpfhclcjedkcaa
open Go.RowKit
/-! ### the reference's Form of a message -/
/-- what a call lays, named -/
theorem rowN {K : Nat} {args : Array Value} {w w0 : World} {G F : List Nat} {N : Nat} (hb : Below w0.heap.size w0 w) (h : Calls Try.prog K args w fun e w' => ∃ v, e = .returned v ∧ OwnB w' w.heap.size v G ∧ Below w.heap.size w w') (hF : G = F) (hN : F.length = N) :
    Calls Try.prog K args w fun e w' => ∃ a c, e = .returned (.slice a N c) ∧ ByteRow w' a F ∧ Below w.heap.size w w' ∧ Below w0.heap.size w0 w' := by
  refine h.mono ?_
  rintro e w' ⟨v, rfl, hown, hb2⟩
  rw [hF] at hown
  obtain ⟨a, c, rfl, hr, -⟩ := hown.row
  rw [hN]
  exact ⟨a, c, rfl, hr, hb2, hb.trans (hb2.mono hb.size)⟩
theorem lettB_at {k : Int} {s : ByteArray} (hs : fstr k = s) {j : Nat} (hj : j < s.size) : ∃ i, i < 10 ∧ (ltrs k)[j]? = some i ∧ s[j].toNat = (lettB i).toNat ∧ hb k i = true := by
  subst hs
  have hjl : j < (ltrs k).length := by simpa [fstr, ByteArray.size] using hj
  refine ⟨(ltrs k)[j], ?_, List.getElem?_eq_getElem hjl, ?_, ?_⟩
  · have : ∀ i ∈ ltrs k, i < 10 := by
      rcases kinds k with rfl | rfl | rfl | rfl | rfl | rfl | rfl | rfl | rfl | rfl | rfl | rfl | rfl | rfl | h
      rotate_right
      · rw [h.2.2]; intro i hi; cases hi
      all_goals decide
    exact this _ (List.getElem_mem hjl)
  · show (((ltrs k).map lettB).toArray[j]'(by simpa using hjl)).toNat = _
    rw [List.getElem_toArray, List.getElem_map]
  · have hlt : (ltrs k)[j] < 10 := by
      have : ∀ i ∈ ltrs k, i < 10 := by
        rcases kinds k with rfl | rfl | rfl | rfl | rfl | rfl | rfl | rfl | rfl | rfl | rfl | rfl | rfl | rfl | h
        rotate_right
        · rw [h.2.2]; intro i hi; cases hi
        all_goals decide
      exact this _ (List.getElem_mem hjl)
    rw [hb_ltrs k hlt, List.contains_iff_mem]
    exact List.getElem_mem hjl
theorem fstr_len (k : Int) : (fstr k).size = (ltrs k).length := by simp [fstr, ByteArray.size]
end Go.Proofs.Ytbpfhclcjedkcaa


