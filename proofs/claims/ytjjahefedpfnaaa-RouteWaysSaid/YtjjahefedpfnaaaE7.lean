import Derived.Test.YtjjahefedpfnaaaE5
namespace Go.Proofs.Ytjjahefedpfnaaa
open Go.RowKit
theorem mayR_mayB {x y : Int} (hy : 0 ≤ y) : mayR (x, y) = mayB (x, y) := (may_eq (p := (x, y)) hy).symm
set_option maxRecDepth 100000 in
set_option maxHeartbeats 1600000 in
theorem hasRef_any (r : Nat → Int) (x y : Int) (w : World) (hx : 0 ≤ x) (hy : 0 ≤ y) : Calls Try.prog 50 #[.agg (RL r).toArray, .agg #[.int .u16 x, .int .u32 y]] w fun e w' => e = .returned (.bool (hasRu r (x, y))) ∧ Below w.heap.size w w' := by
  obtain ⟨i, rfl⟩ : ∃ i : Nat, x = (i : Int) := Int.eq_ofNat_of_zero_le hx
  have hB : Below w.heap.size w ((w.alloc (.cells (RL r).toArray 70)).alloc (.cells #[.int .u16 i, .int .u32 y] 32)) := ((Below.refl _ _).alloc (Nat.le_refl _) _).alloc (by simp) _
  have k0 : ((w.alloc (.cells (RL r).toArray 70)).alloc (.cells #[.int .u16 i, .int .u32 y] 32)).cell? ⟨w.heap.size + 1, 0, none⟩ = some (.int .u16 i) := by simp
  have k1 : ((w.alloc (.cells (RL r).toArray 70)).alloc (.cells #[.int .u16 i, .int .u32 y] 32)).cell? ⟨w.heap.size + 1, 1, none⟩ = some (.int .u32 y) := by simp
  have hz : w.heap.size ≤ ((w.alloc (.cells (RL r).toArray 70)).alloc (.cells #[.int .u16 i, .int .u32 y] 32)).heap.size := by simp; omega
  have hRb := (RumBox.madeV w r).ext (B := w.heap.size + 1) ((Below.refl _ _).alloc (by simp) (.cells #[.int .u16 i, .int .u32 y] 32)) (by omega)
  cases hm : mayB ((i : Int), y)
  · have HM : Hid (mayR ((i : Int), y) = false) := hid (by rw [mayR_mayB hy]; exact hm)
    have HD : Hid (hasRu r ((i : Int), y) = false) := hid (by unfold hasRu; rw [hm]; rfl)
    clear hm hRb
    go_enter Try.func50, Try.ntmps50
    go_wp2_with (go_at_call 81; refine (mayR_is HM).mono ?_; rintro e w3 ⟨rfl, hb3⟩)
    go_ret
    exact ⟨by rw [HD.out]; rfl, hB.trans (hb3.mono hz)⟩
  · have HM : Hid (mayR ((i : Int), y) = true) := hid (by rw [mayR_mayB hy]; exact hm)
    have hi : i < 16 := by
      have : (i : Int) < 16 := by simp [mayB] at hm; omega
      omega
    obtain ⟨b, hb⟩ : ∃ b, decide (y ≤ r i) = b := ⟨_, rfl⟩
    have HD : Hid (hasRu r ((i : Int), y) = b) := hid (by unfold hasRu; rw [hm, ← hb]; simp)
    have hi2 : decide ((i : Int) < 16) = true := by simp; omega
    have hi0 : (0 : Int) ≤ (i : Int) := by omega
    have hi3 : (i : Int) < 16 := by omega
    have k2 := hRb i hi
    clear hm hRb
    go_enter Try.func50, Try.ntmps50
    go_wp2_with (go_at_call 81; refine (mayR_is HM).mono ?_; rintro e w3 ⟨rfl, hb3⟩)
    have f0 := cell_extw (cell_to k0 hb3)
    have f1 := cell_extw (cell_to k1 hb3)
    have f2 := cell_extw (cell_to k2 hb3)
    clear k0 k1 k2
    refine wp_region_ext (w := w3) (Below.refl _ _) (by kernel_rfl) (by kernel_rfl) ?_
    repeat (go_big_quiet_step (fail))
    refine wpQuiet_nil ?_
    rintro w9 ⟨⟨_, hb9⟩, rfl⟩
    go_wp2
    go_ret
    exact ⟨by rw [HD.out]; first | rw [hb] | rfl, (hB.trans (hb3.mono hz)).trans (hb9.mono (by have := hb3.size; omega))⟩
theorem hasRef_is {r : Nat → Int} {x y : Int} {w : World} {b : Bool} (hx : 0 ≤ x) (hy : 0 ≤ y) (h : Hid (hasRu r (x, y) = b)) : Calls Try.prog 50 #[.agg (RL r).toArray, .agg #[.int .u16 x, .int .u32 y]] w fun e w' => e = .returned (.bool b) ∧ Below w.heap.size w w' := by
  have := hasRef_any r x y w hx hy
  rw [h.out] at this
  exact this
theorem firstP_drop {S : Pid → Bool} {xs : List Pid} {k : Nat} (h : k < xs.length) {x y : Int} (hx : (x, y) = xs[k]) : firstP S (xs.drop k) = if S (x, y) = true then firstP S (xs.drop (k + 1)) else some (x, y) := by
  unfold firstP
  rw [soundL_drop h hx]
  cases S (x, y) <;> rfl
set_option maxRecDepth 100000 in
set_option maxHeartbeats 3200000 in
theorem firstRef_any (r : Nat → Int) (a : Option Addr) (c : Nat) (xs : List Pid) (w : World) (hwf : WfPids xs) (hn : xs.length ≤ 549755813888) (hrow : PidRow w a xs) :
    Calls Try.prog 82 #[.agg (RL r).toArray, .slice a xs.length c] w fun e w' => e = .returned (optV (firstP (hasRu r) xs)) ∧ Below w.heap.size w w' := by
  have hB2 : Below w.heap.size w ((w.alloc (.cells (RL r).toArray 70)).alloc (.cells #[.int .u16 0, .int .u32 0] 32)) := ((Below.refl _ _).alloc (Nat.le_refl _) _).alloc (by simp) _
  have hR2 := (RumBox.madeV w r).ext (B := w.heap.size + 1) ((Below.refl (w.heap.size + 1) _).alloc (by simp) (.cells #[.int .u16 0, .int .u32 0] 32)) (by omega)
  have hbx := Box2.made (w.alloc (.cells (RL r).toArray 70)) (v0 := .int .u16 0) (v1 := .int .u32 0) 32
  simp only [World.size_alloc] at hbx
  have hx2 := hrow.ext hB2
  have hz2 : ((w.alloc (.cells (RL r).toArray 70)).alloc (.cells #[.int .u16 0, .int .u32 0] 32)).heap.size = w.heap.size + 1 + 1 := by simp
  have hu70 := Try.underlying70
  have hi70 := info70L r
  go_enter Try.func82, Try.ntmps82
  go_wp2
  generalize hw2 : (w.alloc (.cells (RL r).toArray 70)).alloc (.cells #[.int .u16 0, .int .u32 0] 32) = w2 at hB2 hR2 hbx hx2 hz2 ⊢
  clear hw2
  have HZ := hid hz2
  clear hz2
  go_loopw [6] (fun i wr => ∃ k : Nat, k ≤ xs.length ∧ i = .int .i64 k ∧ Hid (firstP (hasRu r) xs = firstP (hasRu r) (xs.drop k)) ∧ Below w2.heap.size w2 wr) (fun i _ => xs.length - (intOf i).toNat)
  case atStart => exact ⟨0, Nat.zero_le _, rfl, rfl, Below.refl _ _⟩
  case round =>
    obtain ⟨k, hk, rfl, hM, hb⟩ := hrel
    have hs0 := hb.size
    by_cases hlt : k < xs.length
    · obtain ⟨pb, po, x, y, rfl, hpx, d1, d2⟩ := hx2.at hb rfl hlt
      have hxy : 0 ≤ x ∧ 0 ≤ y := by have := hwf (x, y) (by rw [hpx]; exact List.getElem_mem _); exact ⟨this.1, this.2.2.1⟩
      have hfd := firstP_drop (S := hasRu r) hlt hpx
      have HS : Hid (∀ W, Below wr.heap.size wr W → Below wr.heap.size wr W ∧ W.rangeAt w.heap.size 0 (RL r) ∧ W.cell? ⟨pb, po + k * 2, none⟩ = some (.int .u16 x) ∧ W.cell? ⟨pb, po + k * 2 + 1, none⟩ = some (.int .u32 y)) :=
        hid fun W h => ⟨h, ((hR2.ext hb (by have := HZ.out; omega)).ext h (by have := HZ.out; omega)).range, cell_to d1 h, cell_to d2 h⟩
      have H0 : Below wr.heap.size wr wr.drew := (Below.refl _ _).drew
      have BX : Hid (∀ W, Below w2.heap.size w2 W → Box2 W (w.heap.size + 1) (.int .u16 0) (.int .u32 0)) := hid fun W h => hbx.ext h
      have HB2 := hid hB2
      cases hs : hasRu r (x, y)
      · rw [hs] at hfd
        have HH := hid hs
        have HFD := hid hfd
        have C1 : Hid (∀ W, Below wr.heap.size wr W → Calls Try.prog 50 #[.agg (RL r).toArray, .agg #[.int .u16 x, .int .u32 y]] W fun e w' => e = .returned (.bool false) ∧ Below wr.heap.size wr w') := hid fun W h => rel h (hasRef_is hxy.1 hxy.2 HH) rfl
        clear hs hfd hR2 hbx hx2 hpx
        go_wp2_with fail
        go_region_held3 (fun W => Below wr.heap.size wr W ∧ W.rangeAt w.heap.size 0 (RL r) ∧ W.cell? ⟨pb, po + k * 2, none⟩ = some (.int .u16 x) ∧ W.cell? ⟨pb, po + k * 2 + 1, none⟩ = some (.int .u32 y)) (first | exact HS.out _ H0 | exact HS.out _ (by assumption)) ((go_at_call 50; refine (C1.out _ H0).mono ?_; rintro e w' ⟨rfl, hb'⟩))
        obtain ⟨-, -, e1, e2⟩ := HS.out _ hb'
        have hBw := hb.trans (hb'.mono hs0)
        obtain ⟨y0, y1, y2, y3⟩ := BX.out _ hBw
        go_wp2
        obtain ⟨t0, t1⟩ := two_cell (x := .int .u16 x) (y := .int .u32 y) y0 y1
        exact bodyPost_ret (v := optV (some (x, y))) (by simp [results, Try.results82, go_sem, t0, t1, optP]) rfl ⟨by rw [hM.out, HFD.out]; rfl, below_put (HB2.out.trans (hBw.mono (by have := HZ.out; omega))) (by omega) _ _⟩
      · rw [hs] at hfd
        have HH := hid hs
        have HFD := hid hfd
        have C1 : Hid (∀ W, Below wr.heap.size wr W → Calls Try.prog 50 #[.agg (RL r).toArray, .agg #[.int .u16 x, .int .u32 y]] W fun e w' => e = .returned (.bool true) ∧ Below wr.heap.size wr w') := hid fun W h => rel h (hasRef_is hxy.1 hxy.2 HH) rfl
        clear hs hfd hR2 hbx hx2 hpx
        go_wp2_with fail
        go_region_held3 (fun W => Below wr.heap.size wr W ∧ W.rangeAt w.heap.size 0 (RL r) ∧ W.cell? ⟨pb, po + k * 2, none⟩ = some (.int .u16 x) ∧ W.cell? ⟨pb, po + k * 2 + 1, none⟩ = some (.int .u32 y)) (first | exact HS.out _ H0 | exact HS.out _ (by assumption)) ((go_at_call 50; refine (C1.out _ H0).mono ?_; rintro e w' ⟨rfl, hb'⟩))
        have hBw := hb.trans (hb'.mono hs0)
        go_wp2
        go_roundw
        case rel => exact ⟨k + 1, by omega, by go_num, hid (hM.out.trans (by rw [HFD.out]; rfl)), hBw⟩
        case measure => simp [intOf]; omega
    · have hend : Hid (firstP (hasRu r) xs = none) := by
        have := hM.out
        rw [List.drop_eq_nil_of_le (by omega)] at this
        rw [Hid, this]; rfl
      obtain ⟨y0, y1, y2, y3⟩ := hbx.ext hb
      go_wp2
      obtain ⟨t0, t1⟩ := two_cell (x := .int .u16 0) (y := .int .u32 0) y0 y1
      exact bodyPost_ret (v := optV none) (by simp [results, Try.results82, go_sem, t0, t1, optP]) rfl ⟨by rw [hend.out], below_put (hB2.trans (hb.mono (by have := HZ.out; omega))) (by omega) _ _⟩
theorem firstRef_is {r : Nat → Int} {a : Option Addr} {c : Nat} {xs : List Pid} {w : World} {o : Option Pid} (h : Hid (firstP (hasRu r) xs = o)) (hwf : WfPids xs) (hn : xs.length ≤ 549755813888) (hrow : PidRow w a xs) :
    Calls Try.prog 82 #[.agg (RL r).toArray, .slice a xs.length c] w fun e w' => e = .returned (optV o) ∧ Below w.heap.size w w' := by
  have := firstRef_any r a c xs w hwf hn hrow
  rw [h.out] at this; exact this
end Go.Proofs.Ytjjahefedpfnaaa
