import Derived.Test.YtjjahefedpfnaaaE37
import Derived.Laws.BitsAllLaws
namespace Go.Proofs.Ytjjahefedpfnaaa
open Go.RowKit
theorem and_compl_zero {a b : Nat} (ha : a < 2 ^ 64) (hb : b < 2 ^ 64) (h : ∀ j, j < 64 → a.testBit j = true → b.testBit j = true) : a &&& (18446744073709551615 - b) = 0 := by
  apply Nat.eq_of_testBit_eq
  intro j
  rw [Nat.testBit_and, Nat.zero_testBit]
  have e : (18446744073709551615 : Nat) - b = 2 ^ 64 - (b + 1) := by omega
  rw [e, Nat.testBit_two_pow_sub_succ hb]
  by_cases hj : j < 64
  · cases ha' : a.testBit j
    · simp
    · rw [h j hj ha']; simp
  · have : a.testBit j = false := Nat.testBit_lt_two_pow (Nat.lt_of_lt_of_le ha (Nat.pow_le_pow_right (by decide) (by omega)))
    rw [this]; simp
theorem sound_sub {V : View} {S : Pid → Bool} {c : Pid} (hg : GoodV V) (hc : chiefP V S = some c) {M N : Nat × Nat} (hM : maskL V.ms (0, 0) (soundL S V.ms) = M) (hN : reachM V S c 2 = N) :
    M.1 &&& (18446744073709551615 - N.1) = 0 ∧ M.2 &&& (18446744073709551615 - N.2) = 0 := by
  have hcm : c ∈ V.ms := hg.dsub c (firstP_mem hc).1
  rw [reachM_in hcm, show stepsN 2 = 2 from rfl] at hN
  have oM : mok M := by rw [← hM]; exact maskL_ok mok0
  have oN : mok N := by rw [← hN]; exact maskL_ok mok0
  have key : ∀ j, j < 128 → maskF M j = true → maskF N j = true := by
    intro j hj h
    rw [← hM, maskL_F j hj] at h
    rw [← hN, maskL_F j hj]
    have z : maskF (0, 0) j = false := by unfold maskF; split <;> simp
    rw [z, Bool.false_or] at h ⊢
    rw [List.any_eq_true] at h ⊢
    obtain ⟨p, hp, hd⟩ := h
    refine ⟨p, ?_, hd⟩
    have hp' : p ∈ V.ms ∧ S p = false := by simpa [soundL] using hp
    have ha := all_law hg hc hp'.1 hp'.2
    unfold allL reachL at ha
    show p ∈ [c] ++ (nextF V S [c] ++ nextF V S (nextF V S [c]))
    unfold nextF
    simp only [List.mem_append, List.mem_singleton, List.mem_flatMap] at ha ⊢
    rcases ha with (h | h) | ⟨s, h1, h2⟩
    · exact .inl h
    · exact .inr (.inl ⟨c, rfl, h⟩)
    · rcases h1 with rfl | h1
      · exact .inr (.inl ⟨s, rfl, h2⟩)
      · exact .inr (.inr ⟨s, ⟨c, rfl, h1⟩, h2⟩)
  refine ⟨and_compl_zero oM.1 oN.1 fun j hj h => ?_, and_compl_zero oM.2 oN.2 fun j hj h => ?_⟩
  · have := key j (by omega)
    unfold maskF at this
    rw [if_pos hj, if_pos hj] at this
    exact this h
  · have := key (64 + j) (by omega)
    unfold maskF at this
    rw [if_neg (by omega), if_neg (by omega), Nat.add_sub_cancel_left] at this
    exact this h
theorem path_is {r : Nat → Int} {V : View} {am al ad : Option Addr} {cm cl cd : Nat} {x y : Int} {w : World} {D : List Pid} {N : Nat} (h : Hid (pathP V (hasRu r) (x, y) = D)) (hn : Hid (D.length = N)) (hV : ViewR w am al ad V) (hs : Small V) :
    Calls Try.prog 62 #[viewV V am al ad cm cl cd, .agg (RL r).toArray, .agg #[.int .u16 x, .int .u32 y]] w fun e w' => ∃ a c, e = .returned (.slice a N c) ∧ PidRow w' a D ∧ Below w.heap.size w w' := by
  refine (path_any r V am al ad cm cl cd x y w hV hs.fine).mono ?_
  rintro e w' ⟨v, rfl, hown, hb⟩
  obtain ⟨a, c, rfl, hrow, -⟩ := hown.row
  rw [h.out, hn.out] at *
  rw [h.out] at hrow
  exact ⟨a, c, rfl, hrow, hb⟩
theorem pathRef_is {r : Nat → Int} {V : View} {am al ad : Option Addr} {cm cl cd : Nat} {x y : Int} {w : World} {D : List Pid} {N : Nat} (h : Hid (pathP V (hasRu r) (x, y) = D)) (hn : Hid (D.length = N)) (hV : ViewR w am al ad V) (hs : Small V) :
    Calls Try.prog 63 #[viewV V am al ad cm cl cd, .agg (RL r).toArray, .agg #[.int .u16 x, .int .u32 y]] w fun e w' => ∃ a c, e = .returned (.slice a N c) ∧ PidRow w' a D ∧ Below w.heap.size w w' := by
  refine (pathRef_any r V am al ad cm cl cd x y w hV hs.fine).mono ?_
  rintro e w' ⟨v, rfl, hown, hb⟩
  obtain ⟨a, c, rfl, hrow, -⟩ := hown.row
  rw [h.out, hn.out] at *
  rw [h.out] at hrow
  exact ⟨a, c, rfl, hrow, hb⟩
theorem pathP_len {V : View} {S : Pid → Bool} {p : Pid} : (pathP V S p).length ≤ 64 := by
  unfold pathP; split
  · have := pathGo_len (V := V) (S := S) (n := 4) (got := [p]) (p := p); simp at this; omega
  · simp
theorem part_is {r : Nat → Int} {a : Option Addr} {c n : Nat} {xs D : List Pid} {N : Nat} {w : World} (h : Hid (soundL (hasRu r) xs = D)) (hn : Hid (D.length = N)) (hx : Hid (xs.length = n)) (hl : n ≤ 549755813888) (hwf : WfPids xs) (hrow : PidRow w a xs) :
    Calls Try.prog 67 #[.agg (RL r).toArray, .slice a n c, .bool false] w fun e w' => ∃ a c, e = .returned (.slice a N c) ∧ PidRow w' a D ∧ Below w.heap.size w w' := by
  rw [← hx.out]
  refine (part_any r a c xs w hwf (by rw [hx.out]; exact hl) hrow).mono ?_
  rintro e w' ⟨v, rfl, hown, hb⟩
  obtain ⟨a, c, rfl, hrow, -⟩ := hown.row
  rw [h.out, hn.out] at *
  rw [h.out] at hrow
  exact ⟨a, c, rfl, hrow, hb⟩
end Go.Proofs.Ytjjahefedpfnaaa
