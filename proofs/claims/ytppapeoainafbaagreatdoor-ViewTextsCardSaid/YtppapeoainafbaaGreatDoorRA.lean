/- Parts of the proof: RA. -/
import Derived.Test.YtppapeoainafbaaGreatDoorG8
namespace Go.Proofs.YtppapeoainafbaaGreatDoor
open Go.RowKit
/-! ### Quorum, Rank, Leaf, the small view, awake of layer 8 (r1's) -/
set_option maxRecDepth 100000 in
set_option maxHeartbeats 800000 in
theorem quorum_any (V : View) (am al ad : Option Addr) (cm cl cd : Nat) (a : Option Addr) (c : Nat) (l : List Pid) (w : World) (hV : ViewR w am al ad V) (hl : l.length ≤ 70368744177664) (hrow : PidRow w a l) :
   Calls Tryz.prog 45 #[.agg #[.int .u64 V.id, .slice am V.ms.length cm, .slice al V.ls.length cl, .slice ad V.ds.length cd], .slice a l.length c] w fun e w' => e = .returned (.bool (quorumB V l)) ∧ Below w.heap.size w w' := by
  have hBx : Below w.heap.size w (w.alloc (.cells #[.int .u64 V.id, .slice am V.ms.length cm, .slice al V.ls.length cl, .slice ad V.ds.length cd] 33)) := (Below.refl _ _).alloc (Nat.le_refl _) _
  have hVx := hV.ext hBx
  have hbx : ViewBox _ _ V am al ad cm cl cd := ViewBox.made w
  have hld := hV.ld
  go_enter Tryz.func45, Tryz.ntmps45
  go_wp2_with (go_at_call 85; refine (new_any _ _ _ _ hl (hrow.ext hBx)).mono ?_; rintro e w2 ⟨s, r, rfl, hs, hr, hS, hb2⟩; obtain ⟨e0, e1, e2, e3⟩ := hbx.ext hb2 (by simp))
  have hB2 : Below w.heap.size w w2 := hBx.trans (hb2.mono hBx.size)
  have hz2 := hb2.size
  simp at hz2
  have hV2 := hVx.ext hb2
  have hbx2 : ViewBox w2 w.heap.size V am al ad cm cl cd := ⟨e0, e1, e2, e3⟩
  clear hb2 hs hr hVx hbx hBx
  go_loopw [5, 14] (fun nv kv wr => ∃ (k n : Nat), k ≤ V.ds.length ∧ kv = .int .i64 k ∧ nv = .int .i64 n ∧ n ≤ k ∧ Hid (quoN V.ds l = n + quoFrom V.ds (unionL [] l) k (V.ds.drop k)) ∧ Below w2.heap.size w2 wr) (fun _ kv _ => V.ds.length - (intOf kv).toNat)
  case atStart => exact ⟨0, 0, Nat.zero_le _, rfl, rfl, Nat.le_refl _, (show quoN V.ds l = 0 + quoFrom V.ds (unionL [] l) 0 V.ds by rw [Nat.zero_add]; rfl), Below.refl _ _⟩
  case round =>
    obtain ⟨k, n, hk, rfl, rfl, hnk, hq, hb⟩ := hrel
    obtain ⟨e0, e1, e2, e3⟩ := hbx2.ext hb hbx2.lt
    have hSr := hS.ext hb
    have hdr := hV2.ds.ext hb
    have hzr := hb.size
    by_cases hkt : k < V.ds.length
    · obtain ⟨b, off, x, y, rfl, hx, d1, d2⟩ := hV2.ds.at hb rfl hkt
      have hd := quoFrom_drop (S := unionL [] l) hkt hx
      have hB1 : Below w2.heap.size w2 (wr.alloc (.cells #[.int .u16 x, .int .u32 y] 25)) := hb.alloc hzr _
      have hBr1 : Below wr.heap.size wr (wr.alloc (.cells #[.int .u16 x, .int .u32 y] 25)) := (Below.refl _ _).alloc (Nat.le_refl _) _
      obtain ⟨A, hA⟩ : ∃ A, atIx V.ds (x, y) = A := ⟨_, rfl⟩
      rw [hA] at hd
      have HA := hid hA
      have hw := World.block_lt_of_cell? w2 _ hbx2.c0
      simp only at hw
      clear hA hx
      cases hs : (look (x, y) (unionL [] l)).isSome
      · have HS := hid hs
        have HD : Hid (quoFrom V.ds (unionL [] l) k (V.ds.drop k) = quoFrom V.ds (unionL [] l) (k + 1) (V.ds.drop (k + 1))) := by rw [Hid, hd, hs]; simp
        clear hs hd
        go_wp2_with (first
          | (go_at_call 88; refine (has_any _ _ _ _ _ _ _ (hSr.alloc _) HS).mono ?_; rintro e w4 ⟨rfl, hb4⟩))
        go_roundw
        case rel => exact ⟨k + 1, n, by omega, by go_num, rfl, by omega, hq.out.trans (by rw [HD.out]), hB1.trans (hb4.mono hB1.size)⟩
        case measure => simp [intOf]; omega
      · have HS := hid hs
        by_cases hAk : A = (k : Int)
        · have hAk' : (A == (k : Int)) = true := by simpa using hAk
          have HD : Hid (quoFrom V.ds (unionL [] l) k (V.ds.drop k) = 1 + quoFrom V.ds (unionL [] l) (k + 1) (V.ds.drop (k + 1))) := by rw [Hid, hd, hs, hAk]; simp
          clear hs hd hAk
          go_wp2_with (first
            | (go_at_call 88; refine (has_any _ _ _ _ _ _ _ (hSr.alloc _) HS).mono ?_; rintro e w4 ⟨rfl, hb4⟩; obtain ⟨hc4, hf4⟩ := bcell hb4; obtain ⟨y0, y1, y2, y3⟩ := (ViewBox.mk e0 e1 e2 e3).ext (hBr1.trans (hb4.mono hBr1.size)) (by omega))
            | (go_at_call 89; refine (index_is HA hld (hdr.ext (hBr1.trans (hb4.mono hBr1.size)))).mono ?_; rintro e w5 ⟨rfl, hb5⟩))
          go_roundw
          case rel => exact ⟨k + 1, n + 1, by omega, by go_num, by go_num, by omega, hq.out.trans (by rw [HD.out]; omega), (hB1.trans (hb4.mono hB1.size)).trans (hb5.mono (by have := hb4.size; simp at this; omega))⟩
          case measure => simp [intOf]; omega
        · have hAk' : (A == (k : Int)) = false := by simpa using hAk
          have HD : Hid (quoFrom V.ds (unionL [] l) k (V.ds.drop k) = quoFrom V.ds (unionL [] l) (k + 1) (V.ds.drop (k + 1))) := by rw [Hid, hd, hs]; simp [hAk]
          clear hs hd hAk
          go_wp2_with (first
            | (go_at_call 88; refine (has_any _ _ _ _ _ _ _ (hSr.alloc _) HS).mono ?_; rintro e w4 ⟨rfl, hb4⟩; obtain ⟨hc4, hf4⟩ := bcell hb4; obtain ⟨y0, y1, y2, y3⟩ := (ViewBox.mk e0 e1 e2 e3).ext (hBr1.trans (hb4.mono hBr1.size)) (by omega))
            | (go_at_call 89; refine (index_is HA hld (hdr.ext (hBr1.trans (hb4.mono hBr1.size)))).mono ?_; rintro e w5 ⟨rfl, hb5⟩))
          go_roundw
          case rel => exact ⟨k + 1, n, by omega, by go_num, rfl, by omega, hq.out.trans (by rw [HD.out]), (hB1.trans (hb4.mono hB1.size)).trans (hb5.mono (by have := hb4.size; simp at this; omega))⟩
          case measure => simp [intOf]; omega
    · have hq2 : Hid (quoN V.ds l = n) := by
        have := hq.out
        rw [List.drop_eq_nil_of_le (by omega)] at this
        exact hid (by simpa [quoFrom] using this)
      go_wp2
      go_ret
      exact ⟨ret_bool (by unfold quorumB; rw [hq2.out]; simp; omega), hB2.trans (hb.mono hB2.size)⟩
set_option maxRecDepth 100000 in
set_option maxHeartbeats 800000 in
theorem rank_any (V : View) (am al ad : Option Addr) (cm cl cd : Nat) (x y : Int) (w : World) (hV : ViewR w am al ad V) :
   Calls Tryz.prog 47 #[.agg #[.int .u64 V.id, .slice am V.ms.length cm, .slice al V.ls.length cl, .slice ad V.ds.length cd], .agg #[.int .u16 x, .int .u32 y]] w fun e w' => e = .returned (.int .i64 (atIx V.ms (x, y))) ∧ Below w.heap.size w w' := by
  have hB2 : Below w.heap.size w ((w.alloc (.cells #[.int .u64 V.id, .slice am V.ms.length cm, .slice al V.ls.length cl, .slice ad V.ds.length cd] 33)).alloc (.cells #[.int .u16 x, .int .u32 y] 25)) := ((Below.refl _ _).alloc (Nat.le_refl _) _).alloc (by simp) _
  have hV2 := hV.ext hB2
  go_enter Tryz.func47, Tryz.ntmps47
  go_wp2_with (go_at_call 89; refine (index_any _ _ _ _ _ _ hV.lm hV2.ms).mono ?_; rintro e w3 ⟨rfl, hb3⟩)
  go_ret
  exact ⟨rfl, hB2.trans (hb3.mono (by simp; omega))⟩
set_option maxRecDepth 100000 in
set_option maxHeartbeats 800000 in
theorem small_any (w : World) :
   Calls Tryz.prog 43 #[] w fun e w' => ∃ am al ad, e = .returned (.agg #[.int .u64 1, .slice am 3 3, .slice al 2 2, .slice ad 2 2]) ∧ ViewR w' am al ad smallV ∧ Below w.heap.size w w' := by
  go_enter Tryz.func43, Tryz.ntmps43
  go_wp2
  refine bodyPost_ret (v := .agg #[.int .u64 1, .slice (some ⟨w.heap.size + 1 + 1 + 1 + 1, 0, none⟩) 3 3, .slice (some ⟨w.heap.size + 1 + 1 + 1 + 1 + 1 + 1 + 1, 0, none⟩) 2 2, .slice (some ⟨w.heap.size + 1 + 1 + 1 + 1 + 1 + 1 + 1 + 1, 0, none⟩) 2 2]) (by simp [results, Tryz.results43, go_sem]) rfl ⟨_, _, _, rfl, ⟨?_, ?_, ?_, by decide, by decide, by decide, by decide⟩, ?_⟩
  · exact ((((PidRow.three' _ (by simp) _ _ _ _ _ _).alloc _).alloc _).alloc _).alloc _
  · exact (LeafRow.two' _ (by simp) (((PidRow.two' _ (by simp) _ _ _ _).alloc _)) (PidRow.one' _ (by simp) _ _) rfl rfl).alloc _
  · exact PidRow.two' _ (by simp) _ _ _ _
  · exact ((((((((((Below.refl _ _).alloc (Nat.le_refl _) _).alloc (by simp) _).alloc (by simp; omega) _).alloc (by simp; omega) _).alloc (by simp; omega) _).alloc (by simp; omega) _).alloc (by simp; omega) _).alloc (by simp; omega) _).alloc (by simp; omega) _)
set_option maxRecDepth 100000 in
set_option maxHeartbeats 1600000 in
theorem awake_any (w : World) : Calls Tryz.prog 13 #[] w fun e w' => e = .returned (.bool true) ∧ Below w.heap.size w w' := by
  go_enter Tryz.func13, Tryz.ntmps13
  go_wp2_with (go_at_call 43; refine (small_any _).mono ?_; rintro e w1 ⟨am, al, ad, rfl, hV, hb1⟩)
  have hVx := hV.ext ((Below.refl _ _).alloc (Nat.le_refl _) (.cells #[.int .u64 1, .slice am 3 3, .slice al 2 2, .slice ad 2 2] 33))
  have hbx : ViewBox (w1.alloc (.cells #[.int .u64 1, .slice am 3 3, .slice al 2 2, .slice ad 2 2] 33)) w1.heap.size smallV am al ad 3 2 2 := ViewBox.made (V := smallV) w1
  have hB : Below w.heap.size w (w1.alloc (.cells #[.int .u64 1, .slice am 3 3, .slice al 2 2, .slice ad 2 2] 33)) := hb1.alloc hb1.size _
  generalize (w1.alloc (.cells #[.int .u64 1, .slice am 3 3, .slice al 2 2, .slice ad 2 2] 33)) = w2 at *
  obtain ⟨bm, om, x, y, rfl, hx, d1, d2⟩ := hVx.ms.at (Below.refl _ _) rfl (k := 0) (by decide)
  obtain ⟨rfl, rfl⟩ : x = 1 ∧ y = 1 := by simpa [smallV] using hx
  obtain ⟨bm', om', x, y, hab, hx2, d3, d4⟩ := hVx.ms.at (Below.refl _ _) rfl (k := 1) (by decide)
  cases hab
  obtain ⟨rfl, rfl⟩ : x = 2 ∧ y = 1 := by simpa [smallV] using hx2
  have f1 : ∀ W, Below w2.heap.size w2 W → W.cell? ⟨bm, om, none⟩ = some (.int .u16 1) := fun W h => cell_to (by simpa using d1) h
  have f2 : ∀ W, Below w2.heap.size w2 W → W.cell? ⟨bm, om + 1, none⟩ = some (.int .u32 1) := fun W h => cell_to (by simpa using d2) h
  have f3 : ∀ W, Below w2.heap.size w2 W → W.cell? ⟨bm, om + 2, none⟩ = some (.int .u16 2) := fun W h => cell_to (by simpa using d3) h
  have f4 : ∀ W, Below w2.heap.size w2 W → W.cell? ⟨bm, om + 3, none⟩ = some (.int .u32 1) := fun W h => cell_to (by simpa using d4) h
  have g0 : ∀ W, Below w2.heap.size w2 W → W.cell? ⟨w1.heap.size, 0, none⟩ = some (.int .u64 1) := fun W h => (hbx.ext h hbx.lt).c0
  have g1 : ∀ W, Below w2.heap.size w2 W → W.cell? ⟨w1.heap.size, 1, none⟩ = some (.slice (some ⟨bm, om, none⟩) 3 3) := fun W h => (hbx.ext h hbx.lt).c1
  have g2 : ∀ W, Below w2.heap.size w2 W → W.cell? ⟨w1.heap.size, 2, none⟩ = some (.slice al 2 2) := fun W h => (hbx.ext h hbx.lt).c2
  have g3 : ∀ W, Below w2.heap.size w2 W → W.cell? ⟨w1.heap.size, 3, none⟩ = some (.slice ad 2 2) := fun W h => (hbx.ext h hbx.lt).c3
  have c1 : ∀ W, Below w2.heap.size w2 W → Calls Tryz.prog 44 #[.agg #[.int .u64 1, .slice (some ⟨bm, om, none⟩) 3 3, .slice al 2 2, .slice ad 2 2]] W fun e w' => e = .returned (.int .i64 0) ∧ Below w2.heap.size w2 w' := fun W h =>
    rel h (check_any smallV _ _ _ 3 2 2 W (hVx.ext h) (by decide)) (by kernel_rfl)
  have c2 : ∀ W a, Below w2.heap.size w2 W → PidRow W a [(1, 1)] → Calls Tryz.prog 45 #[.agg #[.int .u64 1, .slice (some ⟨bm, om, none⟩) 3 3, .slice al 2 2, .slice ad 2 2], .slice a 1 1] W fun e w' => e = .returned (.bool false) ∧ Below w2.heap.size w2 w' := fun W a h hr =>
    rel h (quorum_any smallV _ _ _ 3 2 2 a 1 [(1, 1)] W (hVx.ext h) (by decide) hr) (by kernel_rfl)
  have c3 : ∀ W, Below w2.heap.size w2 W → Calls Tryz.prog 45 #[.agg #[.int .u64 1, .slice (some ⟨bm, om, none⟩) 3 3, .slice al 2 2, .slice ad 2 2], .slice (some ⟨bm, om, none⟩) 3 3] W fun e w' => e = .returned (.bool true) ∧ Below w2.heap.size w2 w' := fun W h =>
    rel h (quorum_any smallV _ _ _ 3 2 2 _ 3 smallV.ms W (hVx.ext h) (by decide) (hVx.ext h).ms) (by kernel_rfl)
  have c4 : ∀ W, Below w2.heap.size w2 W → Calls Tryz.prog 46 #[.agg #[.int .u64 1, .slice (some ⟨bm, om, none⟩) 3 3, .slice al 2 2, .slice ad 2 2], .agg #[.int .u16 2, .int .u32 1]] W fun e w' => e = .returned (.int .i64 1) ∧ Below w2.heap.size w2 w' := fun W h =>
    rel h (leaf_any smallV _ _ _ 3 2 2 2 1 W (hVx.ext h)) (by kernel_rfl)
  have c5 : ∀ W, Below w2.heap.size w2 W → Calls Tryz.prog 47 #[.agg #[.int .u64 1, .slice (some ⟨bm, om, none⟩) 3 3, .slice al 2 2, .slice ad 2 2], .agg #[.int .u16 9, .int .u32 1]] W fun e w' => e = .returned (.int .i64 (-1)) ∧ Below w2.heap.size w2 w' := fun W h =>
    rel h (rank_any smallV _ _ _ 3 2 2 9 1 W (hVx.ext h)) (by kernel_rfl)
  have C1 := hid c1
  have C2 := hid c2
  have C3 := hid c3
  have C4 := hid c4
  have C5 := hid c5
  clear hVx hbx hV hb1 d1 d2 d3 d4 hx hx2 c1 c2 c3 c4 c5
  go_region_held3 (fun W => Below w2.heap.size w2 W) (first | exact (Below.refl _ _).drew | assumption | exact Below.alloc (by assumption) (Below.size (by assumption)) _) (first | (go_at_call 44; refine (C1.out _ (by assumption)).mono ?_; rintro e w' ⟨rfl, hb'⟩) | (go_at_call 45; (with_reducible refine (C3.out _ ?_).mono ?_); assumption; rintro e w' ⟨rfl, hb'⟩) | (go_at_call 45; (with_reducible refine (C2.out _ _ ?_ ?_).mono ?_); exact Below.alloc (by assumption) (Below.size (by assumption)) _; exact PidRow.one _ _ _; rintro e w' ⟨rfl, hb'⟩) | (go_at_call 46; refine (C4.out _ (by assumption)).mono ?_; rintro e w' ⟨rfl, hb'⟩) | (go_at_call 47; refine (C5.out _ (by assumption)).mono ?_; rintro e w' ⟨rfl, hb'⟩))
  go_wp2
  go_ret
  exact ⟨rfl, hB.trans (Below.mono (by assumption) hB.size)⟩
end Go.Proofs.YtppapeoainafbaaGreatDoor

