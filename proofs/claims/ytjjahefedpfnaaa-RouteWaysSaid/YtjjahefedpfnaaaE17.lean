import Derived.Test.YtjjahefedpfnaaaE16
namespace Go.Proofs.Ytjjahefedpfnaaa
open Go.RowKit
theorem RumBox.of {w : World} {b : Nat} {r : Nat → Int} (h : w.rangeAt b 0 (RL r)) : RumBox w b r := fun i hi => by
  have := h i (.int .u32 (r i)) (by unfold RL; rw [Array.getElem?_toList]; exact rumC_get r hi)
  simpa using this
set_option maxRecDepth 100000 in
set_option maxHeartbeats 12800000 in
theorem awakeR_any (w : World) : Calls Try.prog 46 #[] w fun e w' => e = .returned (.bool true) ∧ Below w.heap.size w w' := by
  go_enter Try.func46, Try.ntmps46
  go_wp2_with (go_at_call 72; refine (four_any _).mono ?_; rintro e w1 ⟨am, al, ad, rfl, hV, hb1⟩)
  have hVx := hV.ext ((Below.refl _ _).alloc (Nat.le_refl _) (.cells #[.int .u64 1, .slice am 4 4, .slice al 2 2, .slice ad 2 2] 68))
  have hbx : ViewBox (w1.alloc (.cells #[.int .u64 1, .slice am 4 4, .slice al 2 2, .slice ad 2 2] 68)) w1.heap.size fourV am al ad 4 2 2 := ViewBox.made (V := fourV) w1
  have hB : Below w.heap.size w (w1.alloc (.cells #[.int .u64 1, .slice am 4 4, .slice al 2 2, .slice ad 2 2] 68)) := hb1.alloc hb1.size _
  have hz2 : (w1.alloc (.cells #[.int .u64 1, .slice am 4 4, .slice al 2 2, .slice ad 2 2] 68)).heap.size = w1.heap.size + 1 := by simp
  generalize hw2 : (w1.alloc (.cells #[.int .u64 1, .slice am 4 4, .slice al 2 2, .slice ad 2 2] 68)) = w2 at hVx hbx hB hz2 ⊢
  clear hw2 hV hb1
  obtain ⟨bm, om, x, y, rfl, hx, m00, m01⟩ := hVx.ms.at (Below.refl _ _) rfl (k := 0) (by decide)
  obtain ⟨rfl, rfl⟩ : x = 1 ∧ y = 1 := by simpa [fourV] using hx
  obtain ⟨bm', om', x, y, hab, hx2, m10, m11⟩ := hVx.ms.at (Below.refl _ _) rfl (k := 1) (by decide)
  cases hab
  obtain ⟨rfl, rfl⟩ : x = 2 ∧ y = 1 := by simpa [fourV] using hx2
  obtain ⟨bm', om', x, y, hab, hx3, m20, m21⟩ := hVx.ms.at (Below.refl _ _) rfl (k := 2) (by decide)
  cases hab
  obtain ⟨rfl, rfl⟩ : x = 3 ∧ y = 1 := by simpa [fourV] using hx3
  simp at m00 m01 m10 m11 m20 m21
  have hMS := hVx.ms
  have HZ := hid hz2
  clear hx hx2 hx3 hz2
  have hbl := hbx.lt
  have hu70 := Try.underlying70
  have hi70 := info70L r1
  have VV : Hid (∀ W, Below w2.heap.size w2 W → ViewR W (some ⟨bm, om, none⟩) al ad fourV) := hid fun W h => hVx.ext h
  have VC : Hid (∀ W, Below w2.heap.size w2 W → W.cell? ⟨w1.heap.size, 0, none⟩ = some (.int .u64 1) ∧ W.cell? ⟨w1.heap.size, 1, none⟩ = some (.slice (some ⟨bm, om, none⟩) 4 4) ∧ W.cell? ⟨w1.heap.size, 2, none⟩ = some (.slice al 2 2) ∧ W.cell? ⟨w1.heap.size, 3, none⟩ = some (.slice ad 2 2)) := hid fun W h => ⟨(hbx.ext h hbl).c0, (hbx.ext h hbl).c1, (hbx.ext h hbl).c2, (hbx.ext h hbl).c3⟩
  have M0 : Hid (∀ W, Below w2.heap.size w2 W → W.cell? ⟨bm, om, none⟩ = some (.int .u16 1) ∧ W.cell? ⟨bm, om + 1, none⟩ = some (.int .u32 1)) := hid fun W h => ⟨cell_to m00 h, cell_to m01 h⟩
  have M1 : Hid (∀ W, Below w2.heap.size w2 W → W.cell? ⟨bm, om + 2, none⟩ = some (.int .u16 2) ∧ W.cell? ⟨bm, om + 3, none⟩ = some (.int .u32 1)) := hid fun W h => ⟨cell_to m10 h, cell_to m11 h⟩
  have M2 : Hid (∀ W, Below w2.heap.size w2 W → W.cell? ⟨bm, om + 4, none⟩ = some (.int .u16 3) ∧ W.cell? ⟨bm, om + 5, none⟩ = some (.int .u32 1)) := hid fun W h => ⟨cell_to m20 h, cell_to m21 h⟩
  clear hVx hbx hbl
  have hbase : Below w2.heap.size w2 w2 := Below.refl _ _
  go_upto_region 3 with fail
  go_cut [3] (fun s wx => ∃ g, s = .pointer (some ⟨g, 0, none⟩) ∧ PtrTo wx g (.int .u16 1) (.int .u32 1) ∧ Below w2.heap.size w2 wx ∧ w2.heap.size ≤ g)
  case first =>
    have HS : Hid (∀ W, Below w2.heap.size w2 W → Below w2.heap.size w2 W ∧ W.cell? ⟨w1.heap.size, 0, none⟩ = some (.int .u64 1) ∧ W.cell? ⟨w1.heap.size, 1, none⟩ = some (.slice (some ⟨bm, om, none⟩) 4 4) ∧ W.cell? ⟨w1.heap.size, 2, none⟩ = some (.slice al 2 2) ∧ W.cell? ⟨w1.heap.size, 3, none⟩ = some (.slice ad 2 2) ∧ W.cell? ⟨bm, om + 2, none⟩ = some (.int .u16 2) ∧ W.cell? ⟨bm, om + 3, none⟩ = some (.int .u32 1)) := hid fun W h => ⟨h, (VC.out W (hbase.trans (h.mono hbase.size))).1, (VC.out W (hbase.trans (h.mono hbase.size))).2.1, (VC.out W (hbase.trans (h.mono hbase.size))).2.2.1, (VC.out W (hbase.trans (h.mono hbase.size))).2.2.2, M1.out W (hbase.trans (h.mono hbase.size))⟩
    have C1 : Hid (∀ W, Below w2.heap.size w2 W → Calls Try.prog 48 #[.agg #[.int .u64 1, .slice (some ⟨bm, om, none⟩) 4 4, .slice al 2 2, .slice ad 2 2], .agg #[.int .u32 0, .int .u32 0, .int .u32 0, .int .u32 0, .int .u32 0, .int .u32 0, .int .u32 0, .int .u32 0, .int .u32 0, .int .u32 0, .int .u32 0, .int .u32 0, .int .u32 0, .int .u32 0, .int .u32 0, .int .u32 0], .agg #[.int .u16 2, .int .u32 1]] W fun e w' => e = .returned (.tuple #[.agg #[.int .u16 1, .int .u32 1], .bool true]) ∧ Below W.heap.size W w' ∧ Below w2.heap.size w2 w') := hid fun W h => ((up4_a (VV.out W (hbase.trans (h.mono hbase.size)))).mono fun e w' ⟨h1, h2⟩ => ⟨h1, h2, h.trans (h2.mono h.size)⟩)
    have H0 : Below w2.heap.size w2 w2.drew := (Below.refl _ _).drew
    go_region_held3 (fun W => Below w2.heap.size w2 W ∧ W.cell? ⟨w1.heap.size, 0, none⟩ = some (.int .u64 1) ∧ W.cell? ⟨w1.heap.size, 1, none⟩ = some (.slice (some ⟨bm, om, none⟩) 4 4) ∧ W.cell? ⟨w1.heap.size, 2, none⟩ = some (.slice al 2 2) ∧ W.cell? ⟨w1.heap.size, 3, none⟩ = some (.slice ad 2 2) ∧ W.cell? ⟨bm, om + 2, none⟩ = some (.int .u16 2) ∧ W.cell? ⟨bm, om + 3, none⟩ = some (.int .u32 1)) (first | exact HS.out _ H0 | exact HS.out _ (by assumption) | exact HS.out _ (Below.alloc (by assumption) (Below.size (by assumption)) _) | exact HS.out _ (below_put (by assumption) (by first | exact Nat.le_refl _ | exact Below.size (by assumption)) _ _)) ((go_at_call 48; refine (C1.out _ (by first | assumption | exact Below.alloc (by assumption) (Below.size (by assumption)) _)).mono ?_; rintro e w15 ⟨rfl, hbb15, hb15⟩; obtain ⟨hc15, hf15⟩ := bcell hbb15; try (have hs15 : w2.heap.size < w15.heap.size := by have := hbb15.size; simp at this; omega)))
    all_goals (
      obtain ⟨hBx, -⟩ := ‹Below w2.heap.size w2 _ ∧ _›
      go_wp2_with fail
      go_meet
      first
        | (have q0 : w15.cell? ⟨w2.heap.size, 0, none⟩ = some (.int .u16 0) := by (rw [hc15 _ _ (by simp)]; simp)
           have q1 : w15.cell? ⟨w2.heap.size, 1, none⟩ = some (.int .u32 0) := by (rw [hc15 _ _ (by simp)]; simp)
           exact ⟨_, rfl, two_cell q0 q1, hBx, Nat.le_refl _⟩)
        | exact ⟨_, rfl, ⟨by simp, by simp⟩, hBx, Below.size (by assumption)⟩)
  case rest =>
  obtain ⟨g3, rfl, hP3, hb3, hg3⟩ := hcut
  rename World => wx3
  have hl3 : g3 < wx3.heap.size := World.block_lt_of_cell? wx3 _ hP3.1
  clear hbase
  have hbase := hb3
  go_upto_region 4 with fail
  go_cut [5] (fun s wx => ∃ g, s = .pointer (some ⟨g, 0, none⟩) ∧ PtrTo wx g (.int .u16 1) (.int .u32 1) ∧ Below wx3.heap.size wx3 wx ∧ wx3.heap.size ≤ g)
  case first =>
    have HS : Hid (∀ W, Below wx3.heap.size wx3 W → Below wx3.heap.size wx3 W ∧ W.cell? ⟨w1.heap.size, 0, none⟩ = some (.int .u64 1) ∧ W.cell? ⟨w1.heap.size, 1, none⟩ = some (.slice (some ⟨bm, om, none⟩) 4 4) ∧ W.cell? ⟨w1.heap.size, 2, none⟩ = some (.slice al 2 2) ∧ W.cell? ⟨w1.heap.size, 3, none⟩ = some (.slice ad 2 2) ∧ W.cell? ⟨bm, om + 4, none⟩ = some (.int .u16 3) ∧ W.cell? ⟨bm, om + 5, none⟩ = some (.int .u32 1)) := hid fun W h => ⟨h, (VC.out W (hbase.trans (h.mono hbase.size))).1, (VC.out W (hbase.trans (h.mono hbase.size))).2.1, (VC.out W (hbase.trans (h.mono hbase.size))).2.2.1, (VC.out W (hbase.trans (h.mono hbase.size))).2.2.2, M2.out W (hbase.trans (h.mono hbase.size))⟩
    have C1 : Hid (∀ W, Below wx3.heap.size wx3 W → Calls Try.prog 48 #[.agg #[.int .u64 1, .slice (some ⟨bm, om, none⟩) 4 4, .slice al 2 2, .slice ad 2 2], .agg #[.int .u32 0, .int .u32 0, .int .u32 0, .int .u32 0, .int .u32 0, .int .u32 0, .int .u32 0, .int .u32 0, .int .u32 0, .int .u32 0, .int .u32 0, .int .u32 0, .int .u32 0, .int .u32 0, .int .u32 0, .int .u32 0], .agg #[.int .u16 3, .int .u32 1]] W fun e w' => e = .returned (.tuple #[.agg #[.int .u16 1, .int .u32 1], .bool true]) ∧ Below W.heap.size W w' ∧ Below wx3.heap.size wx3 w') := hid fun W h => ((up4_b (VV.out W (hbase.trans (h.mono hbase.size)))).mono fun e w' ⟨h1, h2⟩ => ⟨h1, h2, h.trans (h2.mono h.size)⟩)
    have H0 : Below wx3.heap.size wx3 wx3.drew := (Below.refl _ _).drew
    go_region_held3 (fun W => Below wx3.heap.size wx3 W ∧ W.cell? ⟨w1.heap.size, 0, none⟩ = some (.int .u64 1) ∧ W.cell? ⟨w1.heap.size, 1, none⟩ = some (.slice (some ⟨bm, om, none⟩) 4 4) ∧ W.cell? ⟨w1.heap.size, 2, none⟩ = some (.slice al 2 2) ∧ W.cell? ⟨w1.heap.size, 3, none⟩ = some (.slice ad 2 2) ∧ W.cell? ⟨bm, om + 4, none⟩ = some (.int .u16 3) ∧ W.cell? ⟨bm, om + 5, none⟩ = some (.int .u32 1)) (first | exact HS.out _ H0 | exact HS.out _ (by assumption) | exact HS.out _ (Below.alloc (by assumption) (Below.size (by assumption)) _) | exact HS.out _ (below_put (by assumption) (by first | exact Nat.le_refl _ | exact Below.size (by assumption)) _ _)) ((go_at_call 48; refine (C1.out _ (by first | assumption | exact Below.alloc (by assumption) (Below.size (by assumption)) _)).mono ?_; rintro e w15 ⟨rfl, hbb15, hb15⟩; obtain ⟨hc15, hf15⟩ := bcell hbb15; try (have hs15 : wx3.heap.size < w15.heap.size := by have := hbb15.size; simp at this; omega)))
    all_goals (
      obtain ⟨hBx, -⟩ := ‹Below wx3.heap.size wx3 _ ∧ _›
      go_wp2_with fail
      go_meet
      first
        | (have q0 : w15.cell? ⟨wx3.heap.size, 0, none⟩ = some (.int .u16 0) := by (rw [hc15 _ _ (by simp)]; simp)
           have q1 : w15.cell? ⟨wx3.heap.size, 1, none⟩ = some (.int .u32 0) := by (rw [hc15 _ _ (by simp)]; simp)
           exact ⟨_, rfl, two_cell q0 q1, hBx, Nat.le_refl _⟩)
        | exact ⟨_, rfl, ⟨by simp, by simp⟩, hBx, Below.size (by assumption)⟩)
  case rest =>
  obtain ⟨g5, rfl, hP5, hb5, hg5⟩ := hcut
  rename World => wx5
  have hl5 : g5 < wx5.heap.size := World.block_lt_of_cell? wx5 _ hP5.1
  have hP35 := hP3.ext hb5
  have hl35 := Nat.lt_of_lt_of_le hl3 hb5.size
  have hb25 := hb3.trans (hb5.mono hb3.size)
  clear hbase hP3 hb5 hl3
  have hbase := hb25
  have hM5 := hMS.ext hb25
  have hup := fun W => run_upto (a := some ⟨bm, om, none⟩) (n := 4) (c := 4) (k := 1) (by omega) W
  have hrow1 : PidRow wx5 (if (4 : Nat) = 0 then some ⟨bm, om, none⟩ else (some ⟨bm, om, none⟩ : Option Addr).map (·.add (0 * 2))) [(1, 1)] := by have := hM5.upto0 (c := 4) 1; exact this
  obtain ⟨A, C, hupA, hrowA⟩ : ∃ (A : Option Addr) (C : Nat), (∀ W, (Instr.slice 33 (.slice (some ⟨bm, om, none⟩) 4 4) none (some (.int .i64 1)) none).run Try.prog W = .ok (.slice A 1 C) W) ∧ PidRow wx5 A [(1, 1)] := ⟨_, _, hup, hrow1⟩
  clear hup hrow1 hM5
  go_upto_region 6 with (first
    | ((go_at_call 73; refine (with1_any A C _ hrowA).mono ?_; rintro e w6 ⟨rfl, hb6⟩; have ht6 : (w6.alloc (.cells #[.int .u32 0, .int .u32 0, .int .u32 0, .int .u32 0, .int .u32 0, .int .u32 0, .int .u32 0, .int .u32 0, .int .u32 0, .int .u32 0, .int .u32 0, .int .u32 0, .int .u32 0, .int .u32 0, .int .u32 0, .int .u32 0] 70)).there w6.heap.size 0 16 := RumBox.there (zero16 w6) (fun j => by rw [frozen?_alloc_cells]; unfold World.frozen?; rw [Array.getElem?_eq_none (by simp)])))
    | (refine wpList_storeR (r := r1) rfl rfl rfl rfl ht6 ?_))
  have hb57 : Below wx5.heap.size wx5 ((w6.alloc (.cells #[.int .u32 0, .int .u32 0, .int .u32 0, .int .u32 0, .int .u32 0, .int .u32 0, .int .u32 0, .int .u32 0, .int .u32 0, .int .u32 0, .int .u32 0, .int .u32 0, .int .u32 0, .int .u32 0, .int .u32 0, .int .u32 0] 70)).setCells w6.heap.size 0 (RL r1)) := below_setCells _ _ (hb6.alloc hb6.size _) hb6.size
  have hR7 := RumBox.of (World.rangeAt_setCells_same (w6.alloc (.cells #[.int .u32 0, .int .u32 0, .int .u32 0, .int .u32 0, .int .u32 0, .int .u32 0, .int .u32 0, .int .u32 0, .int .u32 0, .int .u32 0, .int .u32 0, .int .u32 0, .int .u32 0, .int .u32 0, .int .u32 0, .int .u32 0] 70)) w6.heap.size 0 (RL r1) ht6)
  have hg7 : w6.heap.size < ((w6.alloc (.cells #[.int .u32 0, .int .u32 0, .int .u32 0, .int .u32 0, .int .u32 0, .int .u32 0, .int .u32 0, .int .u32 0, .int .u32 0, .int .u32 0, .int .u32 0, .int .u32 0, .int .u32 0, .int .u32 0, .int .u32 0, .int .u32 0] 70)).setCells w6.heap.size 0 (RL r1)).heap.size := World.block_lt_of_cell? _ _ (hR7 0 (by decide))
  generalize hw7 : (w6.alloc (.cells #[.int .u32 0, .int .u32 0, .int .u32 0, .int .u32 0, .int .u32 0, .int .u32 0, .int .u32 0, .int .u32 0, .int .u32 0, .int .u32 0, .int .u32 0, .int .u32 0, .int .u32 0, .int .u32 0, .int .u32 0, .int .u32 0] 70)).setCells w6.heap.size 0 (RL r1) = wx7 at hb57 hR7 hg7 ⊢
  clear hw7 ht6 hb6 hupA hrowA
  generalize w6.heap.size = g7 at hR7 hg7 ⊢
  try simp only [Act.put]
  have hb27 := hb25.trans (hb57.mono hb25.size)
  have hP37 := hP35.ext hb57
  have hP57 := hP5.ext hb57
  clear hbase hP35 hP5 hb57 hb25
  have hbase := hb27
  go_upto_region 6 with fail
  go_cut [8] (fun s wx => ∃ g, s = .pointer (some ⟨g, 0, none⟩) ∧ PtrTo wx g (.int .u16 3) (.int .u32 1) ∧ Below wx7.heap.size wx7 wx ∧ wx7.heap.size ≤ g)
  case first =>
    have HS : Hid (∀ W, Below wx7.heap.size wx7 W → Below wx7.heap.size wx7 W ∧ W.rangeAt g7 0 (RL r1) ∧ W.cell? ⟨w1.heap.size, 0, none⟩ = some (.int .u64 1) ∧ W.cell? ⟨w1.heap.size, 1, none⟩ = some (.slice (some ⟨bm, om, none⟩) 4 4) ∧ W.cell? ⟨w1.heap.size, 2, none⟩ = some (.slice al 2 2) ∧ W.cell? ⟨w1.heap.size, 3, none⟩ = some (.slice ad 2 2) ∧ W.cell? ⟨bm, om + 2, none⟩ = some (.int .u16 2) ∧ W.cell? ⟨bm, om + 3, none⟩ = some (.int .u32 1)) := hid fun W h => ⟨h, (hR7.ext h hg7).range, (VC.out W (hbase.trans (h.mono hbase.size))).1, (VC.out W (hbase.trans (h.mono hbase.size))).2.1, (VC.out W (hbase.trans (h.mono hbase.size))).2.2.1, (VC.out W (hbase.trans (h.mono hbase.size))).2.2.2, M1.out W (hbase.trans (h.mono hbase.size))⟩
    have C1 : Hid (∀ W, Below wx7.heap.size wx7 W → Calls Try.prog 48 #[.agg #[.int .u64 1, .slice (some ⟨bm, om, none⟩) 4 4, .slice al 2 2, .slice ad 2 2], .agg (RL r1).toArray, .agg #[.int .u16 2, .int .u32 1]] W fun e w' => e = .returned (.tuple #[.agg #[.int .u16 3, .int .u32 1], .bool true]) ∧ Below W.heap.size W w' ∧ Below wx7.heap.size wx7 w') := hid fun W h => ((up4_c (VV.out W (hbase.trans (h.mono hbase.size)))).mono fun e w' ⟨h1, h2⟩ => ⟨h1, h2, h.trans (h2.mono h.size)⟩)
    have H0 : Below wx7.heap.size wx7 wx7.drew := (Below.refl _ _).drew
    go_region_held3 (fun W => Below wx7.heap.size wx7 W ∧ W.rangeAt g7 0 (RL r1) ∧ W.cell? ⟨w1.heap.size, 0, none⟩ = some (.int .u64 1) ∧ W.cell? ⟨w1.heap.size, 1, none⟩ = some (.slice (some ⟨bm, om, none⟩) 4 4) ∧ W.cell? ⟨w1.heap.size, 2, none⟩ = some (.slice al 2 2) ∧ W.cell? ⟨w1.heap.size, 3, none⟩ = some (.slice ad 2 2) ∧ W.cell? ⟨bm, om + 2, none⟩ = some (.int .u16 2) ∧ W.cell? ⟨bm, om + 3, none⟩ = some (.int .u32 1)) (first | exact HS.out _ H0 | exact HS.out _ (by assumption) | exact HS.out _ (Below.alloc (by assumption) (Below.size (by assumption)) _) | exact HS.out _ (below_put (by assumption) (by first | exact Nat.le_refl _ | exact Below.size (by assumption)) _ _)) ((go_at_call 48; refine (C1.out _ (by first | assumption | exact Below.alloc (by assumption) (Below.size (by assumption)) _)).mono ?_; rintro e w15 ⟨rfl, hbb15, hb15⟩; obtain ⟨hc15, hf15⟩ := bcell hbb15; try (have hs15 : wx7.heap.size < w15.heap.size := by have := hbb15.size; simp at this; omega)))
    all_goals (
      obtain ⟨hBx, -⟩ := ‹Below wx7.heap.size wx7 _ ∧ _›
      go_wp2_with fail
      go_meet
      first
        | (have q0 : w15.cell? ⟨wx7.heap.size, 0, none⟩ = some (.int .u16 0) := by (rw [hc15 _ _ (by simp)]; simp)
           have q1 : w15.cell? ⟨wx7.heap.size, 1, none⟩ = some (.int .u32 0) := by (rw [hc15 _ _ (by simp)]; simp)
           exact ⟨_, rfl, two_cell q0 q1, hBx, Nat.le_refl _⟩)
        | exact ⟨_, rfl, ⟨by simp, by simp⟩, hBx, Below.size (by assumption)⟩)
  case rest =>
  obtain ⟨g8, rfl, hP8, hb8, hg8⟩ := hcut
  rename World => wx8
  have hP38 := hP37.ext hb8
  have hP58 := hP57.ext hb8
  have hR8 := hR7.ext hb8 hg7
  have hb28 := hb27.trans (hb8.mono hb27.size)
  have hV8 := VV.out _ hb28
  obtain ⟨v0, v1, v2, v3⟩ := VC.out _ hb28
  clear hbase hP37 hP57 hR7 hg7 hb27 hb8
  go_upto_region 8 with (first
    | (refine wpList_loadRw hR8 (by rfl) rfl rfl ?_)
    | ((go_at_call 47; refine (chief4 hV8).mono ?_; rintro e w9 ⟨rfl, hb9⟩)))
  have hP39 := hP38.ext hb9
  have hP59 := hP58.ext hb9
  have hP89 := hP8.ext hb9
  have hb29 := hb28.trans (hb9.mono hb28.size)
  have hb2x : Below w2.heap.size w2 (w9.alloc (.cells #[.int .u16 3, .int .u32 1] 32)) := hb29.alloc hb29.size _
  have hb9x : Below w9.heap.size w9 (w9.alloc (.cells #[.int .u16 3, .int .u32 1] 32)) := (Below.refl _ _).alloc (Nat.le_refl _) _
  have hPx3 := hP39.ext hb9x
  have hPx5 := hP59.ext hb9x
  have hPx8 := hP89.ext hb9x
  have hPx10 : PtrTo (w9.alloc (.cells #[.int .u16 3, .int .u32 1] 32)) w9.heap.size (.int .u16 3) (.int .u32 1) := ⟨by simp, by simp⟩
  generalize hwx : w9.alloc (.cells #[.int .u16 3, .int .u32 1] 32) = wx at hb2x hPx3 hPx5 hPx8 hPx10 ⊢
  clear hwx hb9x hP39 hP59 hP89 hb29 hb9 hV8 v0 v1 v2 v3 hb28 hR8 hP38 hP58 hP8
  generalize w9.heap.size = g10 at hPx10 ⊢
  have he1 := fun w => eql_pid 1 1 1 1 w
  have he3 := fun w => eql_pid 3 1 3 1 w
  simp only [decide_true] at he1 he3
  have HS : Hid (∀ W, Below wx.heap.size wx W → Below wx.heap.size wx W ∧ W.cell? ⟨w1.heap.size, 0, none⟩ = some (.int .u64 1) ∧ W.cell? ⟨w1.heap.size, 1, none⟩ = some (.slice (some ⟨bm, om, none⟩) 4 4) ∧ W.cell? ⟨w1.heap.size, 2, none⟩ = some (.slice al 2 2) ∧ W.cell? ⟨w1.heap.size, 3, none⟩ = some (.slice ad 2 2) ∧ W.cell? ⟨bm, om, none⟩ = some (.int .u16 1) ∧ W.cell? ⟨bm, om + 1, none⟩ = some (.int .u32 1) ∧ W.cell? ⟨bm, om + 2, none⟩ = some (.int .u16 2) ∧ W.cell? ⟨bm, om + 3, none⟩ = some (.int .u32 1) ∧ W.cell? ⟨bm, om + 4, none⟩ = some (.int .u16 3) ∧ W.cell? ⟨bm, om + 5, none⟩ = some (.int .u32 1) ∧ W.cell? ⟨g3, 0, none⟩ = some (.int .u16 1) ∧ W.cell? ⟨g3, 1, none⟩ = some (.int .u32 1) ∧ W.cell? ⟨g5, 0, none⟩ = some (.int .u16 1) ∧ W.cell? ⟨g5, 1, none⟩ = some (.int .u32 1) ∧ W.cell? ⟨g8, 0, none⟩ = some (.int .u16 3) ∧ W.cell? ⟨g8, 1, none⟩ = some (.int .u32 1) ∧ W.cell? ⟨g10, 0, none⟩ = some (.int .u16 3) ∧ W.cell? ⟨g10, 1, none⟩ = some (.int .u32 1)) := hid fun W h => by
    have hb := hb2x.trans (h.mono hb2x.size)
    obtain ⟨a0, a1, a2, a3⟩ := VC.out W hb
    obtain ⟨b0, b1⟩ := M0.out W hb
    obtain ⟨b2, b3⟩ := M1.out W hb
    obtain ⟨b4, b5⟩ := M2.out W hb
    obtain ⟨p0, p1⟩ := hPx3.ext h
    obtain ⟨p2, p3⟩ := hPx5.ext h
    obtain ⟨p4, p5⟩ := hPx8.ext h
    obtain ⟨p6, p7⟩ := hPx10.ext h
    exact ⟨h, a0, a1, a2, a3, b0, b1, b2, b3, b4, b5, p0, p1, p2, p3, p4, p5, p6, p7⟩
  have C1 : Hid (∀ W, Below wx.heap.size wx W → Calls Try.prog 49 #[.agg #[.int .u64 1, .slice (some ⟨bm, om, none⟩) 4 4, .slice al 2 2, .slice ad 2 2], .agg #[.int .u32 0, .int .u32 0, .int .u32 0, .int .u32 0, .int .u32 0, .int .u32 0, .int .u32 0, .int .u32 0, .int .u32 0, .int .u32 0, .int .u32 0, .int .u32 0, .int .u32 0, .int .u32 0, .int .u32 0, .int .u32 0], .agg #[.int .u16 1, .int .u32 1]] W fun e w' => ∃ a c, e = .returned (.slice a 2 c) ∧ PidRow w' a [(2, 1), (3, 1)] ∧ Below W.heap.size W w' ∧ Below wx.heap.size wx w') := hid fun W h => ((down4 (VV.out W (hb2x.trans (h.mono hb2x.size)))).mono fun e w' ⟨a, c, h1, h2, h3⟩ => ⟨a, c, h1, h2, h3, h.trans (h3.mono h.size)⟩)
  have C2 : Hid (∀ W a c b d, Below wx.heap.size wx W → PidRow W a [(2, 1), (3, 1)] → PidRow W b [(2, 1), (3, 1)] → Calls Try.prog 24 #[.slice a 2 c, .slice b 2 d] W fun e w' => e = .returned (.bool true) ∧ Below wx.heap.size wx w') := hid fun W a c b d h h1 h2 => rel h (sameR_any a b c d [(2, 1), (3, 1)] [(2, 1), (3, 1)] W (by decide) (by decide) h1 h2) (by rw [decide_eq_true rfl])
  have H0 : Below wx.heap.size wx wx.drew := (Below.refl _ _).drew
  clear m00 m01 m10 m11 m20 m21 hPx3 hPx5 hPx8 hPx10 hMS hi70 hu70
  go_region_held3 (fun W => Below wx.heap.size wx W ∧ W.cell? ⟨w1.heap.size, 0, none⟩ = some (.int .u64 1) ∧ W.cell? ⟨w1.heap.size, 1, none⟩ = some (.slice (some ⟨bm, om, none⟩) 4 4) ∧ W.cell? ⟨w1.heap.size, 2, none⟩ = some (.slice al 2 2) ∧ W.cell? ⟨w1.heap.size, 3, none⟩ = some (.slice ad 2 2) ∧ W.cell? ⟨bm, om, none⟩ = some (.int .u16 1) ∧ W.cell? ⟨bm, om + 1, none⟩ = some (.int .u32 1) ∧ W.cell? ⟨bm, om + 2, none⟩ = some (.int .u16 2) ∧ W.cell? ⟨bm, om + 3, none⟩ = some (.int .u32 1) ∧ W.cell? ⟨bm, om + 4, none⟩ = some (.int .u16 3) ∧ W.cell? ⟨bm, om + 5, none⟩ = some (.int .u32 1) ∧ W.cell? ⟨g3, 0, none⟩ = some (.int .u16 1) ∧ W.cell? ⟨g3, 1, none⟩ = some (.int .u32 1) ∧ W.cell? ⟨g5, 0, none⟩ = some (.int .u16 1) ∧ W.cell? ⟨g5, 1, none⟩ = some (.int .u32 1) ∧ W.cell? ⟨g8, 0, none⟩ = some (.int .u16 3) ∧ W.cell? ⟨g8, 1, none⟩ = some (.int .u32 1) ∧ W.cell? ⟨g10, 0, none⟩ = some (.int .u16 3) ∧ W.cell? ⟨g10, 1, none⟩ = some (.int .u32 1)) (first | exact HS.out _ H0 | exact HS.out _ (by assumption) | exact HS.out _ (Below.alloc (by assumption) (Below.size (by assumption)) _)) (first | ((go_at_call 49; refine (C1.out _ (by first | assumption | exact Below.alloc (by assumption) (Below.size (by assumption)) _)).mono ?_; rintro e w11 ⟨a11, c11, rfl, hrow11, hbb11, hb11⟩)) | ((go_at_call 24; refine (C2.out _ _ _ _ _ (by first | assumption | exact Below.alloc (by assumption) (Below.size (by assumption)) _) (by first | assumption | exact PidRow.alloc (by assumption) _) (by first | exact PidRow.two' _ rfl _ _ _ _ | exact PidRow.ext (PidRow.two' wx.drew rfl _ _ _ _) hbb11)).mono ?_; rintro e w12 ⟨rfl, hb12⟩)))
  all_goals (
    obtain ⟨hBx, -⟩ := ‹Below wx.heap.size wx _ ∧ _›
    go_wp2
    go_ret
    exact ⟨rfl, hB.trans ((hb2x.trans (hBx.mono hb2x.size)).mono hB.size)⟩)
end Go.Proofs.Ytjjahefedpfnaaa
