/- Parts of the proof: NF. -/
import Derived.Test.YtehagnbphamjhaaGreatDoorGPlayBack35
namespace Go.Proofs.YtehagnbphamjhaaGreatDoor
open Go.RowKit
set_option maxRecDepth 100000 in
set_option maxHeartbeats 6400000 in
theorem blank_any (x y l m t : Int) (w : World) :
    Calls Tryz.prog 105 #[.agg #[.int .u16 x, .int .u32 y], .agg #[.int .i64 l, .int .i64 m, .int .i64 t]] w fun e w' => ∃ nb h r wb wr sb sr m1 m2, e = .returned (.pointer (some ⟨nb, 0, none⟩)) ∧ BlankR w w' x y l m t nb h r wb wr sb sr m1 m2 := by
  have hmm := @run_makeMap Tryz.prog
  obtain ⟨W1, hW1⟩ : ∃ W1, (w.alloc (.cells #[.int .u16 x, .int .u32 y] 46)).alloc (.cells #[.int .i64 l, .int .i64 m, .int .i64 t] 60) = W1 := ⟨_, rfl⟩
  have hb1 : Below w.heap.size w W1 := by rw [← hW1]; exact ((Below.refl _ _).alloc (Nat.le_refl _) _).alloc (by simp) _
  have k0 : W1.cell? ⟨w.heap.size, 0, none⟩ = some (.int .u16 x) := by rw [← hW1]; simp
  have k1 : W1.cell? ⟨w.heap.size, 1, none⟩ = some (.int .u32 y) := by rw [← hW1]; simp
  have c0 : W1.cell? ⟨w.heap.size + 1, 0, none⟩ = some (.int .i64 l) := by rw [← hW1]; simp
  have c1 : W1.cell? ⟨w.heap.size + 1, 1, none⟩ = some (.int .i64 m) := by rw [← hW1]; simp
  have c2 : W1.cell? ⟨w.heap.size + 1, 2, none⟩ = some (.int .i64 t) := by rw [← hW1]; simp
  have HS : Hid (∀ W, Below W1.heap.size W1 W → Below W1.heap.size W1 W ∧ W.cell? ⟨w.heap.size, 0, none⟩ = some (.int .u16 x) ∧ W.cell? ⟨w.heap.size, 1, none⟩ = some (.int .u32 y) ∧ W.cell? ⟨w.heap.size + 1, 0, none⟩ = some (.int .i64 l) ∧ W.cell? ⟨w.heap.size + 1, 1, none⟩ = some (.int .i64 m) ∧ W.cell? ⟨w.heap.size + 1, 2, none⟩ = some (.int .i64 t)) := hid fun W h => ⟨h, cell_toB k0 h, cell_toB k1 h, cell_toB c0 h, cell_toB c1 h, cell_toB c2 h⟩
  have CH : Hid (∀ W, Below W1.heap.size W1 W → Calls Tryz.prog 140 #[.agg #[.int .u16 x, .int .u32 y]] W fun e w' => ∃ h r, e = .returned (.pointer (some ⟨h, 0, none⟩)) ∧ Below W1.heap.size W1 w' ∧ Hid ((W.heap.size ≤ h ∧ W.heap.size ≤ r ∧ h < w'.heap.size ∧ r < w'.heap.size ∧ h ≠ r) ∧ HubIs w' (fpH h r []) h r (x, y) []) ∧ Below W.heap.size W w') := hid fun W h => (hnew_any (x, y) W (fun _ => False)).mono fun e w' ⟨s, r, h1, h5, h4, h2, h3⟩ => ⟨s, r, h1, h.trans (h5.mono h.size), hid ⟨⟨h2, h3, World.block_lt_of_cell? _ _ h4.c0, h4.map.lt, h4.hr⟩, h4.less (fun _ e => e) fun _ e => .inl (.inr e)⟩, h5⟩
  have CW : Hid (∀ W, Below W1.heap.size W1 W → Calls Tryz.prog 141 #[.int .i64 t] W fun e w' => ∃ s r, e = .returned (.pointer (some ⟨s, 0, none⟩)) ∧ Below W1.heap.size W1 w' ∧ Hid ((W.heap.size ≤ s ∧ W.heap.size ≤ r ∧ s < w'.heap.size ∧ r < w'.heap.size ∧ s ≠ r) ∧ WatchIs w' s r (max t 1) []) ∧ Below W.heap.size W w') := hid fun W h => (newWatch_any t W).mono fun e w' ⟨s, r, h1, h2, h3, h4, h5⟩ => ⟨s, r, h1, h.trans (h5.mono h.size), hid ⟨⟨h2, h3, h4.lt, h4.map.lt, h4.map.ne_cell h4.c0⟩, h4⟩, h5⟩
  have CP : Hid (∀ W, Below W1.heap.size W1 W → Calls Tryz.prog 142 #[.slice none 0 0] W fun e w' => ∃ s r, e = .returned (.pointer (some ⟨s, 0, none⟩)) ∧ Below W1.heap.size W1 w' ∧ Hid ((W.heap.size ≤ s ∧ W.heap.size ≤ r ∧ s < w'.heap.size ∧ r < w'.heap.size ∧ s ≠ r) ∧ SetIs w' s r []) ∧ Below W.heap.size W w') := hid fun W h => (new_any none 0 [] W (by simp) (.inl rfl)).mono fun e w' ⟨s, r, h1, h2, h3, h4, h5⟩ => ⟨s, r, h1, h.trans (h5.mono h.size), hid ⟨⟨h2, h3, h4.lt, h4.map.lt, h4.map.ne_cell h4.box⟩, h4⟩, h5⟩
  have H0 : Below W1.heap.size W1 W1.drew := (Below.refl _ _).drew
  have HB1 := hid hb1
  clear hb1 k0 k1 c0 c1 c2
  go_enter Tryz.func105, Tryz.ntmps105
  go_wp2_with fail
  try rw [hW1]
  clear hW1
  go_region_held3 (fun W => Below W1.heap.size W1 W ∧ W.cell? ⟨w.heap.size, 0, none⟩ = some (.int .u16 x) ∧ W.cell? ⟨w.heap.size, 1, none⟩ = some (.int .u32 y) ∧ W.cell? ⟨w.heap.size + 1, 0, none⟩ = some (.int .i64 l) ∧ W.cell? ⟨w.heap.size + 1, 1, none⟩ = some (.int .i64 m) ∧ W.cell? ⟨w.heap.size + 1, 2, none⟩ = some (.int .i64 t)) (exact HS.out _ (by repeat (first | assumption | exact H0 | exact Below.refl _ _ | refine below_allocS ?_ _ | refine Below.drew ?_))) (first
    | (go_at_call 140; refine (CH.out _ (by repeat (first | assumption | exact H0 | exact Below.refl _ _ | refine below_allocS ?_ _ | refine Below.drew ?_))).mono ?_; rintro e w6 ⟨h6, r6, rfl, hb6, H6, hq6⟩)
    | (go_at_call 141; refine (CW.out _ (by repeat (first | assumption | exact H0 | exact Below.refl _ _ | refine below_allocS ?_ _ | refine Below.drew ?_))).mono ?_; rintro e w7 ⟨h7, r7, rfl, hb7, H7, hq7⟩)
    | (go_at_call 142; refine (CP.out _ (by repeat (first | assumption | exact H0 | exact Below.refl _ _ | refine below_allocS ?_ _ | refine Below.drew ?_))).mono ?_; rintro e w8 ⟨h8, r8, rfl, hb8, H8, hq8⟩))
  all_goals (
    go_wp2
    go_ret
    have s6 := H6.out.1
    have s7 := H7.out.1
    have s8 := H8.out.1
    simp only [World.size_alloc, World.size_drew] at s6 s7 s8
    have t6 := hb6.size
    have t7 := hb7.size
    have t8 := hb8.size
    refine blank_of (r := r6) (wr := r7) (sr := r8) HB1 rfl (BoxL.madeN _ _ _ (by first | rfl | simp)) ?_ ?_ ?_ ?_ ?_ ?_ ?_ ?_)
  all_goals (first
    | (simp only [List.forall_mem_cons, List.not_mem_nil, false_implies, implies_true, and_true, World.size_alloc, World.size_drew]; omega)
    | (simp only [List.nodup_cons, List.mem_cons, List.not_mem_nil, or_false, not_or, List.nodup_nil, and_true, not_false_eq_true, World.size_alloc, World.size_drew]; omega)
    | (clear hq6 hq7 hq8; (repeat (first | assumption | exact Below.refl _ _ | refine below_allocS ?_ _ | refine Below.drew ?_)); done)
    | (clear hb6 hb7 hb8; refine H6.out.2.ext ?_; (repeat (first | assumption | exact Below.refl _ _ | refine below_allocS ?_ _ | refine belowS_trans ?_ (by assumption) | refine Below.drew ?_)); done)
    | (clear hb6 hb7 hb8; refine H7.out.2.ext ?_; (repeat (first | assumption | exact Below.refl _ _ | refine below_allocS ?_ _ | refine belowS_trans ?_ (by assumption) | refine Below.drew ?_)); done)
    | (clear hb6 hb7 hb8; refine H8.out.2.ext ?_; (repeat (first | assumption | exact Below.refl _ _ | refine below_allocS ?_ _ | refine belowS_trans ?_ (by assumption) | refine Below.drew ?_)); done)
    | (clear hb6 hb7 hb8; intros; first
      | (refine mapAt (X := w8) ?_ ?_
         · first | rfl | (simp; done)
         · (repeat (first | assumption | exact Below.refl _ _ | refine below_allocS ?_ _ | refine belowS_trans ?_ hq8 | refine belowS_trans ?_ hq7 | refine belowS_trans ?_ hq6 | refine Below.drew ?_)); done)
      | (refine mapAt (X := w8.alloc (.map #[] 0)) ?_ ?_
         · first | rfl | (simp; done)
         · (repeat (first | assumption | exact Below.refl _ _ | refine below_allocS ?_ _ | refine belowS_trans ?_ hq8 | refine belowS_trans ?_ hq7 | refine belowS_trans ?_ hq6 | refine Below.drew ?_)); done)
      | (refine mapAt (X := w7) ?_ ?_
         · first | rfl | (simp; done)
         · (repeat (first | assumption | exact Below.refl _ _ | refine below_allocS ?_ _ | refine belowS_trans ?_ hq8 | refine belowS_trans ?_ hq7 | refine belowS_trans ?_ hq6 | refine Below.drew ?_)); done)
      | (refine mapAt (X := w7.alloc (.map #[] 0)) ?_ ?_
         · first | rfl | (simp; done)
         · (repeat (first | assumption | exact Below.refl _ _ | refine below_allocS ?_ _ | refine belowS_trans ?_ hq8 | refine belowS_trans ?_ hq7 | refine belowS_trans ?_ hq6 | refine Below.drew ?_)); done)
      | (refine mapAt (X := w6) ?_ ?_
         · first | rfl | (simp; done)
         · (repeat (first | assumption | exact Below.refl _ _ | refine below_allocS ?_ _ | refine belowS_trans ?_ hq8 | refine belowS_trans ?_ hq7 | refine belowS_trans ?_ hq6 | refine Below.drew ?_)); done)
      | (refine mapAt (X := w6.alloc (.map #[] 0)) ?_ ?_
         · first | rfl | (simp; done)
         · (repeat (first | assumption | exact Below.refl _ _ | refine below_allocS ?_ _ | refine belowS_trans ?_ hq8 | refine belowS_trans ?_ hq7 | refine belowS_trans ?_ hq6 | refine Below.drew ?_)); done)
      | (refine mapAt (X := W1) ?_ ?_
         · first | rfl | (simp; done)
         · (repeat (first | assumption | exact Below.refl _ _ | refine below_allocS ?_ _ | refine belowS_trans ?_ hq8 | refine belowS_trans ?_ hq7 | refine belowS_trans ?_ hq6 | refine Below.drew ?_)); done)
      | (refine mapAt (X := W1.alloc (.map #[] 0)) ?_ ?_
         · first | rfl | (simp; done)
         · (repeat (first | assumption | exact Below.refl _ _ | refine below_allocS ?_ _ | refine belowS_trans ?_ hq8 | refine belowS_trans ?_ hq7 | refine belowS_trans ?_ hq6 | refine Below.drew ?_)); done)
      | (refine mapAt (X := W1.drew) ?_ ?_
         · first | rfl | (simp; done)
         · (repeat (first | assumption | exact Below.refl _ _ | refine below_allocS ?_ _ | refine belowS_trans ?_ hq8 | refine belowS_trans ?_ hq7 | refine belowS_trans ?_ hq6 | refine Below.drew ?_)); done)
      | (refine mapAt (X := (W1.drew).alloc (.map #[] 0)) ?_ ?_
         · first | rfl | (simp; done)
         · (repeat (first | assumption | exact Below.refl _ _ | refine below_allocS ?_ _ | refine belowS_trans ?_ hq8 | refine belowS_trans ?_ hq7 | refine belowS_trans ?_ hq6 | refine Below.drew ?_)); done)
      | (refine mapAt (X := (W1.alloc (.map #[] 0)).drew) ?_ ?_
         · first | rfl | (simp; done)
         · repeat (first | assumption | exact Below.refl _ _ | refine below_allocS ?_ _ | refine belowS_trans ?_ hq8 | refine belowS_trans ?_ hq7 | refine belowS_trans ?_ hq6 | refine Below.drew ?_))))
end Go.Proofs.YtehagnbphamjhaaGreatDoor

