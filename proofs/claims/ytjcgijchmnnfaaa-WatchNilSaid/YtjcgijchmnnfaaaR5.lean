import Derived.Test.YtjcgijchmnnfaaaR4
namespace Go.Proofs.Ytjcgijchmnnfaaa
open Go.RowKit

theorem rel {P : Program} {f : FuncId} {args : Array Value} {w0 W : World} {v v' : Value} (hb : Below w0.heap.size w0 W) (h : Calls P f args W fun e w' => e = .returned v ∧ Below W.heap.size W w') (hv : v = v') :
    Calls P f args W fun e w' => e = .returned v' ∧ Below w0.heap.size w0 w' := by
  subst hv
  exact h.mono fun _ _ ⟨h1, h2⟩ => ⟨h1, hb.trans (h2.mono hb.size)⟩

set_option maxRecDepth 100000 in
set_option maxHeartbeats 1600000 in
theorem awake_any (w : World) : Calls Try.prog 13 #[] w fun e w' => e = .returned (.bool true) ∧ Below w.heap.size w w' := by
  go_enter Try.func13, Try.ntmps13
  go_wp2_with (go_at_call 59; refine (small_any _).mono ?_; rintro e w1 ⟨am, al, ad, rfl, hV, hb1⟩)
  have hVx := hV.ext ((Below.refl _ _).alloc (Nat.le_refl _) (.cells #[.int .u64 1, .slice am 3 3, .slice al 2 2, .slice ad 2 2] 26))
  have hbx : ViewBox (w1.alloc (.cells #[.int .u64 1, .slice am 3 3, .slice al 2 2, .slice ad 2 2] 26)) w1.heap.size smallV am al ad 3 2 2 := ViewBox.made (V := smallV) w1
  have hB : Below w.heap.size w (w1.alloc (.cells #[.int .u64 1, .slice am 3 3, .slice al 2 2, .slice ad 2 2] 26)) := hb1.alloc hb1.size _
  generalize (w1.alloc (.cells #[.int .u64 1, .slice am 3 3, .slice al 2 2, .slice ad 2 2] 26)) = w2 at *
  obtain ⟨bm, om, x, y, rfl, hx, d1, d2⟩ := hVx.ms.at (Below.refl _ _) rfl (k := 0) (by decide)
  obtain ⟨rfl, rfl⟩ : x = 1 ∧ y = 1 := by simpa [smallV] using hx
  obtain ⟨bm', om', x, y, hab, hx2, d3, d4⟩ := hVx.ms.at (Below.refl _ _) rfl (k := 1) (by decide)
  cases hab
  obtain ⟨rfl, rfl⟩ : x = 2 ∧ y = 1 := by simpa [smallV] using hx2
  have f1 : ∀ W, Below w2.heap.size w2 W → W.cell? ⟨bm, om, none⟩ = some (.int .u16 1) := fun W h => cell_to (by simpa using d1) h
  have f2 : ∀ W, Below w2.heap.size w2 W → W.cell? ⟨bm, om + 1, none⟩ = some (.int .u32 1) := fun W h => cell_to (by simpa using d2) h
  have f3 : ∀ W, Below w2.heap.size w2 W → W.cell? ⟨bm, om + 2, none⟩ = some (.int .u16 2) := fun W h => cell_to (by simpa using d3) h
  have f4 : ∀ W, Below w2.heap.size w2 W → W.cell? ⟨bm, om + 3, none⟩ = some (.int .u32 1) := fun W h => cell_to (by simpa using d4) h
  have g0 : ∀ W, Below w2.heap.size w2 W → W.cell? ⟨w1.heap.size, 0, none⟩ = some (.int .u64 1) := fun W h => (hbx.ext h hbx.lt).c0
  have g1 : ∀ W, Below w2.heap.size w2 W → W.cell? ⟨w1.heap.size, 1, none⟩ = some (.slice (some ⟨bm, om, none⟩) 3 3) := fun W h => (hbx.ext h hbx.lt).c1
  have g2 : ∀ W, Below w2.heap.size w2 W → W.cell? ⟨w1.heap.size, 2, none⟩ = some (.slice al 2 2) := fun W h => (hbx.ext h hbx.lt).c2
  have g3 : ∀ W, Below w2.heap.size w2 W → W.cell? ⟨w1.heap.size, 3, none⟩ = some (.slice ad 2 2) := fun W h => (hbx.ext h hbx.lt).c3
  have c1 : ∀ W, Below w2.heap.size w2 W → Calls Try.prog 14 #[.agg #[.int .u64 1, .slice (some ⟨bm, om, none⟩) 3 3, .slice al 2 2, .slice ad 2 2]] W fun e w' => e = .returned (.int .i64 0) ∧ Below w2.heap.size w2 w' := fun W h =>
    rel h (check_any smallV _ _ _ 3 2 2 W (hVx.ext h) (by decide)) (by kernel_rfl)
  have c2 : ∀ W a, Below w2.heap.size w2 W → PidRow W a [(1, 1)] → Calls Try.prog 16 #[.agg #[.int .u64 1, .slice (some ⟨bm, om, none⟩) 3 3, .slice al 2 2, .slice ad 2 2], .slice a 1 1] W fun e w' => e = .returned (.bool false) ∧ Below w2.heap.size w2 w' := fun W a h hr =>
    rel h (quorum_any smallV _ _ _ 3 2 2 a 1 [(1, 1)] W (hVx.ext h) (by decide) hr) (by kernel_rfl)
  have c3 : ∀ W, Below w2.heap.size w2 W → Calls Try.prog 16 #[.agg #[.int .u64 1, .slice (some ⟨bm, om, none⟩) 3 3, .slice al 2 2, .slice ad 2 2], .slice (some ⟨bm, om, none⟩) 3 3] W fun e w' => e = .returned (.bool true) ∧ Below w2.heap.size w2 w' := fun W h =>
    rel h (quorum_any smallV _ _ _ 3 2 2 _ 3 smallV.ms W (hVx.ext h) (by decide) (hVx.ext h).ms) (by kernel_rfl)
  have c4 : ∀ W, Below w2.heap.size w2 W → Calls Try.prog 20 #[.agg #[.int .u64 1, .slice (some ⟨bm, om, none⟩) 3 3, .slice al 2 2, .slice ad 2 2], .agg #[.int .u16 2, .int .u32 1]] W fun e w' => e = .returned (.int .i64 1) ∧ Below w2.heap.size w2 w' := fun W h =>
    rel h (leaf_any smallV _ _ _ 3 2 2 2 1 W (hVx.ext h)) (by kernel_rfl)
  have c5 : ∀ W, Below w2.heap.size w2 W → Calls Try.prog 19 #[.agg #[.int .u64 1, .slice (some ⟨bm, om, none⟩) 3 3, .slice al 2 2, .slice ad 2 2], .agg #[.int .u16 9, .int .u32 1]] W fun e w' => e = .returned (.int .i64 (-1)) ∧ Below w2.heap.size w2 w' := fun W h =>
    rel h (rank_any smallV _ _ _ 3 2 2 9 1 W (hVx.ext h)) (by kernel_rfl)
  have C1 := hid c1
  have C2 := hid c2
  have C3 := hid c3
  have C4 := hid c4
  have C5 := hid c5
  clear hVx hbx hV hb1 d1 d2 d3 d4 hx hx2 c1 c2 c3 c4 c5
  go_region_held3 (fun W => Below w2.heap.size w2 W) (first | exact (Below.refl _ _).drew | assumption | exact Below.alloc (by assumption) (Below.size (by assumption)) _) (first | (go_at_call 14; refine (C1.out _ (by assumption)).mono ?_; rintro e w' ⟨rfl, hb'⟩) | (go_at_call 16; (with_reducible refine (C3.out _ ?_).mono ?_); assumption; rintro e w' ⟨rfl, hb'⟩) | (go_at_call 16; (with_reducible refine (C2.out _ _ ?_ ?_).mono ?_); exact Below.alloc (by assumption) (Below.size (by assumption)) _; exact PidRow.one _ _ _; rintro e w' ⟨rfl, hb'⟩) | (go_at_call 20; refine (C4.out _ (by assumption)).mono ?_; rintro e w' ⟨rfl, hb'⟩) | (go_at_call 19; refine (C5.out _ (by assumption)).mono ?_; rintro e w' ⟨rfl, hb'⟩))
  go_wp2
  go_ret
  exact ⟨rfl, hB.trans (Below.mono (by assumption) hB.size)⟩
end Go.Proofs.Ytjcgijchmnnfaaa
