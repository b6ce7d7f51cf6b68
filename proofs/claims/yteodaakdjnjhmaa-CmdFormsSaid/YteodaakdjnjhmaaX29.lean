import Derived.Test.YteodaakdjnjhmaaX28
import Derived.Lib.SmallJoins
namespace Go.Proofs.Yteodaakdjnjhmaa
open Go.RowKit

/-! ### commands: awake -/
theorem OwnB.mutT {G : Nat → Prop} {w w' : World} {base : Nat} {v : Value} {xs : List Nat} (h : OwnB w base v xs) (hm : Mut G w w') (hG : ∀ k, G k → k < base) : OwnB w' base v xs := by
  refine ⟨h.1, ?_⟩
  rcases h.2 with hn | ⟨g, cap, cur, rfl, hbb, hgg, rest⟩
  · exact .inl hn
  · exact .inr ⟨g, cap, cur, rfl, hbb, (hm.block g (Array.getElem?_eq_some_iff.1 hgg).1 (fun hg => by have := hG g hg; omega)).trans hgg, rest⟩
/-- a writer stays where another one writes -/
theorem WrIs.mutT {w w' : World} {s t base : Nat} {v : Value} {bs : List Nat} (h : WrIs w s v bs) (hm : Mut (fun k => k = t) w w') (hst : s ≠ t) (hown : OwnB w base v bs) (hb : s + 1 ≤ base) (ht : t < base) : WrIs w' s v bs :=
  ⟨cell_mut h.c hm hst, (World.frozen?_of_block (w := w) (a := ⟨s, 0, none⟩) (hm.block s h.lt hst)).trans h.f, (hown.mutT hm (fun k e => e ▸ ht)).mono hb⟩
theorem WrIs.nilT {w w' : World} {s t : Nat} (h : WrIs w s (.slice none 0 0) []) (hm : Mut (fun k => k = t) w w') (hst : s ≠ t) : WrIs w' s (.slice none 0 0) [] :=
  ⟨cell_mut h.c hm hst, (World.frozen?_of_block (w := w) (a := ⟨s, 0, none⟩) (hm.block s h.lt hst)).trans h.f, OwnB.nil _ _⟩
theorem ByteRow.oneM (w : World) (x : Nat) (fr : Nat × Nat) : ByteRow (w.alloc (.cells #[.int .u8 x] 5 fr)) (some ⟨w.heap.size, 0, none⟩) [x] :=
  .inr ⟨w.heap.size, 0, rfl, by simp, fun i hi => by
    have : i = 0 := by simpa using hi
    subst this
    rw [World.cell?_alloc_mark]; rfl⟩
def exA1 : CmdD := ⟨1, (0, 0), 0, 0, [], zeroV⟩
def exA2 : CmdD := ⟨2, (1, 1), 2, 3, [97], zeroV⟩
theorem exF1 : cmdF exA1 = [1] := by
  rw [cmdF_1 rfl, short_lt (by decide)]
theorem exF2 : cmdF exA2 = [2, 1, 1, 2, 3, 1, 97] := by
  rw [cmdF_2 (x := 1) (y := 1) rfl rfl]
  show short 2 ++ ((short 1 ++ short 1) ++ (short 2 ++ (short 3 ++ (short 1 ++ [97])))) = _
  rw [short_lt (n := 2) (by decide), short_lt (n := 1) (by decide), short_lt (n := 3) (by decide)]; rfl
theorem exPut1 {w : World} : Calls Try.prog 26 #[.pointer (some ⟨w.heap.size, 0, none⟩), .agg #[.int .i64 1, .int .u16 0, .int .u32 0, .int .u64 0, .int .u64 0, .slice none 0 0, .int .u64 0, .slice none 0 0, .slice none 0 0, .slice none 0 0]] (w.alloc (.cells #[.slice none 0 0] 48)) fun e w' => e = .returned (.tuple #[]) ∧ ∃ v', Wrote (w.alloc (.cells #[.slice none 0 0] 48)) w' w.heap.size v' [1] := by
  have := cmdPut_any (A := exA1) (da := none) (dc := 0) (cm := 0) (cl := 0) (cd := 0) (WrIs.made w 48) (by simp) (.inl rfl) (by simp [exA1]) (by simp [exA1]) (by simp) (viewR_zero w) ((Below.refl _ _).alloc (Nat.le_refl _) _) (Nat.le_refl _) (by unfold okP exA1; decide) (by intro p hp; cases hp) (by decide) (by decide) (by decide)
  rw [exF1] at this
  exact this
theorem exPut2 {s g : Nat} {v : Value} {w : World} (hW : WrIs w s v [1]) (hr : ByteRow w (some ⟨g, 0, none⟩) [97]) (hg : g ≠ s) : Calls Try.prog 26 #[.pointer (some ⟨s, 0, none⟩), .agg #[.int .i64 2, .int .u16 1, .int .u32 1, .int .u64 2, .int .u64 3, .slice (some ⟨g, 0, none⟩) 1 1, .int .u64 0, .slice none 0 0, .slice none 0 0, .slice none 0 0]] w fun e w' => e = .returned (.tuple #[]) ∧ ∃ v', Wrote w w' s v' [1, 2, 1, 1, 2, 3, 1, 97] := by
  have := cmdPut_0 (A := exA2) (da := some ⟨g, 0, none⟩) (dc := 1) (cm := 0) (cl := 0) (cd := 0) hW (by simp) hr (by simp [exA2]) (by simp [exA2]) (by rintro b off e -; cases e; exact hg) rfl (by unfold okP exA2; decide) (by decide)
  rw [exF2] at this
  exact this
set_option maxRecDepth 100000 in
set_option maxHeartbeats 3200000 in
theorem awakeC_any (w : World) : Calls Try.prog 25 #[] w fun e w' => e = .returned (.bool true) ∧ Below w.heap.size w w' := by
  have hB1 : Below w.heap.size w (w.alloc (.cells #[.slice none 0 0] 48)) := (Below.refl _ _).alloc (Nat.le_refl _) _
  have P1 := hid (exPut1 (w := w))
  go_enter Try.func25, Try.ntmps25
  go_wp2_with fail
  refine P1.out.mono ?_
  rintro e w1 ⟨rfl, v1, hw1⟩
  have hs1 := hw1.mt.size
  have hg : w1.heap.size ≠ w.heap.size := by simp at hs1; omega
  have hq : Below w1.heap.size w1 (w1.alloc (.cells #[.int .u8 97] 5 (1, 2))) := (Below.refl _ _).alloc (Nat.le_refl _) _
  have P2 := hid (exPut2 (hw1.wr.ext hq) (ByteRow.oneM w1 97 _) hg)
  have hcv : (convert 40 40 (.slice (some ⟨w1.heap.size, 0, none⟩) 1 1)).run Try.prog (w1.alloc (.cells #[.int .u8 97] 5)) = .ok (.slice (some ⟨w1.heap.size, 0, none⟩) 1 1) (w1.alloc (.cells #[.int .u8 97] 5 (1, 2))) :=
    Go.Joins.run_convert_bytes_const_at w1 40 5 #[.int .u8 97] 1 1 w1.heap.size rfl Try.underlying40 Try.underlying5
  have HW1 := hid hw1
  clear hw1 hg
  go_wp2_with fail
  refine P2.out.mono ?_
  rintro e w2 ⟨rfl, v2, hw2⟩
  have hB2 : Below w.heap.size w w2 := by
    have h1 := HW1.out.mt
    have h2 := hw2.mt
    exact (hB1.trans (h1.below hB1.size (fun k e => by omega))).trans ((hq.mono (by simp at hs1; omega)).trans (h2.below (by have := hq.size; simp at hs1 ⊢; omega) (fun k e => by omega)))
  have D := hid (wDone_any hw2.wr (by simp))
  clear hw2 hq HW1
  go_wp2_with fail
  refine D.out.mono ?_
  rintro e w3 ⟨v3, rfl, hown3, hb3⟩
  obtain ⟨a3, c3, rfl, hr3, -⟩ := hown3.row
  have hq4 : Below w3.heap.size w3 (w3.alloc (.cells #[.int .u8 1, .int .u8 2, .int .u8 1, .int .u8 1, .int .u8 2, .int .u8 3, .int .u8 1, .int .u8 97] 5)) := (Below.refl _ _).alloc (Nat.le_refl _) _
  have hr4 : ByteRow (w3.alloc (.cells #[.int .u8 1, .int .u8 2, .int .u8 1, .int .u8 1, .int .u8 2, .int .u8 3, .int .u8 1, .int .u8 97] 5)) (some ⟨w3.heap.size, 0, none⟩) [1, 2, 1, 1, 2, 3, 1, 97] :=
    .inr ⟨w3.heap.size, 0, rfl, by simp, fun i hi => by
      simp only [List.length_cons, List.length_nil] at hi
      match i, hi with
      | 0, _ => simp
      | 1, _ => simp
      | 2, _ => simp
      | 3, _ => simp
      | 4, _ => simp
      | 5, _ => simp
      | 6, _ => simp
      | 7, _ => simp⟩
  have S := hid (sameB_is (ca := c3) (cb := 8) (n := 8) (m := 8) (bm := true) (hid (by simp)) (hid (by rfl)) (hid (by rfl)) (by omega) (by omega) (hr3.ext hq4) hr4)
  simp only [List.length_cons, List.length_nil, Nat.zero_add, Nat.reduceAdd]
  clear hown3
  go_wp2_with fail
  refine S.out.mono ?_
  rintro e w5 ⟨rfl, hb5⟩
  go_wp2
  go_ret
  exact ⟨rfl, hB2.trans ((hb3.trans ((hq4.trans (hb5.mono hq4.size)).mono hb3.size)).mono hB2.size)⟩
end Go.Proofs.Yteodaakdjnjhmaa
