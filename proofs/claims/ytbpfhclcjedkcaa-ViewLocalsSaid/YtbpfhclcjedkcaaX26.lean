import Derived.Test.YtbpfhclcjedkcaaX25
namespace Go.Proofs.Ytbpfhclcjedkcaa
open Go.RowKit

/-! ### view.Put -/
theorem atIx_neg {ms : List Pid} {p : Pid} (h : p ∉ ms) : atIx ms p < 0 := atFrom_neg.2 h
theorem rankS_F (ms : List Pid) (p : Pid) : rankS (ranksL ms) p = rankF ms p := by
  unfold rankS rankF
  rw [look_ranksL]
  unfold rankO
  by_cases h : atIx ms p < 0
  · rw [if_pos h]
    have : (atIx ms p).toNat = 0 := by omega
    rw [this]; rfl
  · rw [if_neg h]; rfl
theorem flat_rankS_F (ms l : List Pid) : l.flatMap (rankS (ranksL ms)) = l.flatMap (rankF ms) := by
  rw [show rankS (ranksL ms) = rankF ms from funext (rankS_F ms)]
theorem rankS_bound {ms : List Pid} (h : ms.length ≤ 1000) (p : Pid) : 0 ≤ (look p (ranksL ms)).getD 0 ∧ (look p (ranksL ms)).getD 0 < 4611686018427387904 := by
  rw [look_ranksL]
  unfold rankO
  by_cases hp : p ∈ ms
  · obtain ⟨h1, h2, -⟩ := atIx_get hp
    rw [if_neg (by omega)]
    show 0 ≤ atIx ms p ∧ atIx ms p < 4611686018427387904
    omega
  · rw [if_pos (atIx_neg hp)]
    exact ⟨by decide, by decide⟩
/-- a row of an earlier world is no block of a later one -/
theorem PidRow.far {w : World} {a : Option Addr} {l : List Pid} (h : PidRow w a l) {s : Nat} (hs : w.heap.size ≤ s) : ∀ b off, a = some ⟨b, off, none⟩ → l ≠ [] → b ≠ s := by
  rintro b off rfl hl
  rcases h with rfl | ⟨b', off', e, hlt, -⟩
  · exact absurd rfl hl
  · cases e; omega
theorem placesF_len {ms l : List Pid} (hm : ms.length ≤ 1000) (hl : l.length ≤ 1000) : (placesF ms l).length ≤ 10010 := by
  unfold placesF
  have h1 := short_len10 (n := l.length) (by omega)
  have h2 := flat_rankS_len (S := ranksL ms) (rankS_bound hm) l
  rw [flat_rankS_F] at h2
  rw [List.length_append]; omega
theorem flat_places_len {ms : List Pid} (hm : ms.length ≤ 1000) : ∀ (ls : List (List Pid)), (∀ l ∈ ls, l.length ≤ 1000) → (ls.flatMap (placesF ms)).length ≤ ls.length * 10010
  | [], _ => by simp
  | l :: ls, h => by
    have h1 := flat_places_len hm ls (fun x hx => h x (by simp [hx]))
    have h2 := placesF_len hm (h l (by simp))
    rw [List.flatMap_cons, List.length_append, List.length_cons]; omega
theorem take_places {ms : List Pid} {ls : List (List Pid)} {k : Nat} (h : k < ls.length) {l : List Pid} (hl : l = ls[k]) : (ls.take (k + 1)).flatMap (placesF ms) = (ls.take k).flatMap (placesF ms) ++ placesF ms l := by
  rw [List.take_succ_eq_append_getElem h, List.flatMap_append, hl]; simp
theorem putC_F {s g1 g2 r : Nat} {v : Value} {bs : List Nat} {ms : List Pid} {a : Option Addr} {c : Nat} {l : List Pid} {w w0 : World} (hW : WrIs w s v bs) (hl : bs.length ≤ 34359738368) (hnl : l.length ≤ 1000) (hm : ms.length ≤ 1000) (hrow : PidRow w0 a l) (h0 : Below w0.heap.size w0 w) (hs0 : w0.heap.size ≤ s)
    (hp1 : w.cell? ⟨g1, 0, none⟩ = some (.pointer (some ⟨s, 0, none⟩))) (hp2 : w.cell? ⟨g2, 0, none⟩ = some (.map (some r))) (hM : MapIs w r pidV eI (ranksL ms)) (h1 : g1 ≠ s) (h2 : g2 ≠ s) (hr : r ≠ s) :
    Calls Try.prog 183 #[.slice a l.length c, .pointer (some ⟨g1, 0, none⟩), .pointer (some ⟨g2, 0, none⟩)] w fun e w' => e = .returned (.tuple #[]) ∧ ∃ v', Wrote w w' s v' (bs ++ placesF ms l) := by
  have := putC_any (c := c) hW hl (hid rfl) (by omega) (rankS_bound hm) (hrow.ext h0) (hrow.far hs0) hp1 hp2 hM h1 h2 hr
  rw [flat_rankS_F] at this
  exact this
end Go.Proofs.Ytbpfhclcjedkcaa
