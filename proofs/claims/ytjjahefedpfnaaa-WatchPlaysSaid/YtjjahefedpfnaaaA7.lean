import Derived.Test.YtjjahefedpfnaaaA6
namespace Go.Proofs.Ytjjahefedpfnaaa
open Go.RowKit
def wA (f : Nat → Bool) (n : Nat) : Nat := if n ≤ 64 then hor f n (64 - n) else 0
def wB (f : Nat → Bool) (n : Nat) : Nat := if n ≤ 64 then hor f 64 64 else hor f n (128 - n)
theorem wA_lt (f : Nat → Bool) {j : Nat} (h : j < 64) : wA f j = 2 * wA f (j + 1) + (f j).toNat ∧ wB f j = wB f (j + 1) := by
  unfold wA wB
  rw [if_pos (by omega), if_pos (by omega), if_pos (by omega), if_pos (by omega), show 64 - j = (63 - j) + 1 by omega, show 64 - (j + 1) = 63 - j by omega]
  exact ⟨rfl, rfl⟩
theorem wB_ge (f : Nat → Bool) {j : Nat} (h : 64 ≤ j) (h2 : j < 128) : wA f j = wA f (j + 1) ∧ wB f j = 2 * wB f (j + 1) + (f j).toNat := by
  unfold wA wB
  rw [if_neg (show ¬ j + 1 ≤ 64 by omega), if_neg (show ¬ j + 1 ≤ 64 by omega)]
  by_cases h64 : j = 64
  · subst h64; exact ⟨rfl, rfl⟩
  · rw [if_neg (by omega), if_neg (by omega), show 128 - j = (128 - (j + 1)) + 1 by omega]
    exact ⟨rfl, rfl⟩
theorem wA_bound (f : Nat → Bool) {j : Nat} (h : j < 64) : wA f (j + 1) < 9223372036854775808 := by
  unfold wA
  rw [if_pos (by omega)]
  exact Nat.lt_of_lt_of_le (hor_lt f _ _) (show 2 ^ (64 - (j + 1)) ≤ 2 ^ 63 from Nat.pow_le_pow_right (by decide) (by omega))
theorem wB_bound (f : Nat → Bool) {j : Nat} (h : 64 ≤ j) (h2 : j < 128) : wB f (j + 1) < 9223372036854775808 := by
  unfold wB
  rw [if_neg (by omega)]
  exact Nat.lt_of_lt_of_le (hor_lt f _ _) (show 2 ^ (128 - (j + 1)) ≤ 2 ^ 63 from Nat.pow_le_pow_right (by decide) (by omega))

theorem off1 {w : World} {b q c j : Nat} {x : Value} (hc : c ≠ b) : (w.setCell ⟨b, q, none⟩ x).cell? ⟨c, j, none⟩ = w.cell? ⟨c, j, none⟩ :=
  World.cell?_setCell_other _ _ _ _ (by intro e; injection e with e1; exact hc e1.symm)
theorem off2 {w : World} {b q j : Nat} {x : Value} (hc : j ≠ q) : (w.setCell ⟨b, q, none⟩ x).cell? ⟨b, j, none⟩ = w.cell? ⟨b, j, none⟩ :=
  World.cell?_setCell_other _ _ _ _ (by intro e; injection e with e1 e2; exact hc e2.symm)

set_option maxRecDepth 100000 in
set_option maxHeartbeats 3200000 in
theorem of_any (bs : Array Value) (f : Nat → Bool) (w : World) (hs : bs.size = 128) (hf : ∀ j, j < 128 → bs[j]? = some (.bool (f j))) :
   Calls Try.prog 92 #[.agg bs] w fun e w' => e = .returned (.agg #[.int .u64 (hor f 0 64), .int .u64 (hor f 64 64)]) ∧ Below w.heap.size w w' := by
  have hB : ∀ c d, Below w.heap.size w (((w.alloc (.cells bs 108)).alloc (.cells c 83)).alloc (.cells d 83)) := fun c d => (((Below.refl _ _).alloc (Nat.le_refl _) _).alloc (by simp) _).alloc (by simp; omega) _
  go_enter Try.func92, Try.ntmps92
  go_wp2
  go_loopw [4] (fun i wr => ∃ (n A B : Nat), n ≤ 128 ∧ i = .int .i64 ((n : Int) - 1) ∧ Hid (A = wA f n) ∧ Hid (B = wB f n) ∧ Below w.heap.size w wr ∧ w.heap.size + 2 < wr.heap.size ∧ (∀ j, j < 128 → wr.cell? ⟨w.heap.size, j, none⟩ = some (.bool (f j))) ∧ wr.cell? ⟨w.heap.size + 1, 0, none⟩ = some (.int .u64 0) ∧ wr.cell? ⟨w.heap.size + 1, 1, none⟩ = some (.int .u64 0) ∧ wr.frozen? ⟨w.heap.size + 1, 0, none⟩ = false ∧ wr.frozen? ⟨w.heap.size + 1, 1, none⟩ = false ∧ wr.cell? ⟨w.heap.size + 1 + 1, 0, none⟩ = some (.int .u64 A) ∧ wr.cell? ⟨w.heap.size + 1 + 1, 1, none⟩ = some (.int .u64 B) ∧ wr.frozen? ⟨w.heap.size + 1 + 1, 0, none⟩ = false ∧ wr.frozen? ⟨w.heap.size + 1 + 1, 1, none⟩ = false) (fun i _ => (intOf i + 1).toNat)
  case atStart =>
    refine ⟨128, 0, 0, Nat.le_refl _, rfl, hid rfl, hid rfl, hB _ _, by simp, fun j hj => ?_, ?_, ?_, ?_, ?_, ?_, ?_, ?_, ?_⟩
    · rw [World.cell?_alloc_past _ _ _ (by simp; omega), World.cell?_alloc_past _ _ _ (by simp)]
      simp [hf j hj]
    · rw [World.cell?_alloc_past _ _ _ (by simp), World.cell?_alloc_at _ _ _ _ (by simp)]; simp
    · rw [World.cell?_alloc_past _ _ _ (by simp), World.cell?_alloc_at _ _ _ _ (by simp)]; simp
    · rw [frozen?_alloc_cells]; simp
    · rw [frozen?_alloc_cells]; simp
    · rw [World.cell?_alloc_at _ _ _ _ (by simp)]; simp
    · rw [World.cell?_alloc_at _ _ _ _ (by simp)]; simp
    · rw [frozen?_alloc_cells, frozen?_alloc_cells, frozen?_alloc_cells]; unfold World.frozen?; rw [Array.getElem?_eq_none (by simp; omega)]
    · rw [frozen?_alloc_cells, frozen?_alloc_cells, frozen?_alloc_cells]; unfold World.frozen?; rw [Array.getElem?_eq_none (by simp; omega)]
  case round =>
    obtain ⟨n, A, B, hn, rfl, hA, hBw, hb, hsz, hc, z0, z1, z2, z3, m0, m1, m2, m3⟩ := hrel
    rcases n with _ | j
    · go_wp2
      obtain ⟨t0, t1⟩ := two_cell (x := .int .u64 A) (y := .int .u64 B) z0 z1
      refine bodyPost_ret (v := .agg #[.int .u64 A, .int .u64 B]) (by simp [results, Try.results92, go_sem, t0, t1]) rfl ⟨by rw [hA.out, hBw.out]; rfl, (hb.setCell (by simp) _).setCell (by simp) _⟩
    · have e0 : ((j + 1 : Nat) : Int) - 1 = (j : Int) := by omega
      rw [e0]
      have hcj := hc j (by omega)
      have HC := hid hc
      by_cases h6 : j < 64
      · have q1 : (j : Int) / 64 = 0 := by omega
        have q2 : (j : Int).tdiv 64 = 0 := by rw [Int.tdiv_eq_ediv_of_nonneg (by omega)]; exact q1
        have hA1 : A < 9223372036854775808 := by rw [hA.out]; exact wA_bound f h6
        obtain ⟨s1, s2⟩ := wA_lt f h6
        have S1 := hid s1
        have S2 := hid s2
        clear s1 s2 hc
        cases hv : f j
        · have HV := hid hv
          rw [hv] at hcj
          clear hv
          go_wp2
          go_roundw
          case rel => exact ⟨j, A * 2, B, by omega, rfl, hid (by rw [S1.out, HV.out, hA.out]; simp; omega), hid (by rw [S2.out, hBw.out]), hb.setCell (by simp; omega) _, by simpa using hsz, fun i hi => (off1 (by omega)).trans (HC.out i hi), (off1 (by omega)).trans (z0), (off1 (by omega)).trans (z1), by simp [z2], by simp [z3], by rw [World.cell?_setCell_same _ _ _ m0]; simp, (off2 (by omega)).trans m1, by simp [m2], by simp [m3]⟩
          case measure => simp [intOf]
        · have HV := hid hv
          rw [hv] at hcj
          clear hv
          go_wp2
          go_roundw
          case rel => exact ⟨j, A * 2 + 1, B, by omega, rfl, hid (by rw [S1.out, HV.out, hA.out]; simp; omega), hid (by rw [S2.out, hBw.out]), (hb.setCell (by simp; omega) _).setCell (by simp; omega) _, by simpa using hsz, fun i hi => (off1 (by omega)).trans ((off1 (by omega)).trans (HC.out i hi)), (off1 (by omega)).trans ((off1 (by omega)).trans (z0)), (off1 (by omega)).trans ((off1 (by omega)).trans (z1)), by simp [z2], by simp [z3], by rw [World.cell?_setCell_same _ _ _ (World.cell?_setCell_same _ _ _ m0)]; simp, (off2 (by omega)).trans ((off2 (by omega)).trans m1), by simp [m2], by simp [m3]⟩
          case measure => simp [intOf]
      · have q1 : (j : Int) / 64 = 1 := by omega
        have q2 : (j : Int).tdiv 64 = 1 := by rw [Int.tdiv_eq_ediv_of_nonneg (by omega)]; exact q1
        have hB1 : B < 9223372036854775808 := by rw [hBw.out]; exact wB_bound f (by omega) (by omega)
        obtain ⟨s1, s2⟩ := wB_ge f (show 64 ≤ j by omega) (by omega)
        have S1 := hid s1
        have S2 := hid s2
        clear s1 s2 hc
        cases hv : f j
        · have HV := hid hv
          rw [hv] at hcj
          clear hv
          go_wp2
          go_roundw
          case rel => exact ⟨j, A, B * 2, by omega, rfl, hid (by rw [S1.out, hA.out]), hid (by rw [S2.out, HV.out, hBw.out]; simp; omega), hb.setCell (by simp; omega) _, by simpa using hsz, fun i hi => (off1 (by omega)).trans (HC.out i hi), (off1 (by omega)).trans (z0), (off1 (by omega)).trans (z1), by simp [z2], by simp [z3], (off2 (by omega)).trans m0, by rw [World.cell?_setCell_same _ _ _ m1]; simp, by simp [m2], by simp [m3]⟩
          case measure => simp [intOf]
        · have HV := hid hv
          rw [hv] at hcj
          clear hv
          go_wp2
          go_roundw
          case rel => exact ⟨j, A, B * 2 + 1, by omega, rfl, hid (by rw [S1.out, hA.out]), hid (by rw [S2.out, HV.out, hBw.out]; simp; omega), (hb.setCell (by simp; omega) _).setCell (by simp; omega) _, by simpa using hsz, fun i hi => (off1 (by omega)).trans ((off1 (by omega)).trans (HC.out i hi)), (off1 (by omega)).trans ((off1 (by omega)).trans (z0)), (off1 (by omega)).trans ((off1 (by omega)).trans (z1)), by simp [z2], by simp [z3], (off2 (by omega)).trans ((off2 (by omega)).trans m0), by rw [World.cell?_setCell_same _ _ _ (World.cell?_setCell_same _ _ _ m1)]; simp, by simp [m2], by simp [m3]⟩
          case measure => simp [intOf]
end Go.Proofs.Ytjjahefedpfnaaa
