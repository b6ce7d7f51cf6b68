import Derived.Test.YtjjahefedpfnaaaA3
import Derived.Deep.RegionHeld3
namespace Go.Proofs.Ytjjahefedpfnaaa
open Go.RowKit
def maskL (ms : List Pid) : Nat × Nat → List Pid → Nat × Nat
  | M, [] => M
  | M, p :: r => maskL ms (mset M (atIx ms p)) r
theorem maskL_drop {ms : List Pid} {M : Nat × Nat} {xs : List Pid} {k : Nat} (h : k < xs.length) {x y : Int} (hx : (x, y) = xs[k]) :
    maskL ms M (xs.drop k) = maskL ms (mset M (atIx ms (x, y))) (xs.drop (k + 1)) := by
  rw [List.drop_eq_getElem_cons h, ← hx]; rfl
theorem with_is {a b a' b' : Nat} {i : Int} {w : World} (hM : mok (a, b)) (h : Hid (mset (a, b) i = (a', b'))) :
   Calls Try.prog 107 #[.agg #[.int .u64 a, .int .u64 b], .int .i64 i] w fun e w' => e = .returned (.agg #[.int .u64 a', .int .u64 b']) ∧ Below w.heap.size w w' := by
  have := with_any a b i w hM
  rw [h.out] at this
  exact this

theorem two_cell {w : World} {b : Nat} {u v x y : Value} (h0 : w.cell? ⟨b, 0, none⟩ = some u) (h1 : w.cell? ⟨b, 1, none⟩ = some v) :
    ((w.setCell ⟨b, 0, none⟩ x).setCell ⟨b, 1, none⟩ y).cell? ⟨b, 0, none⟩ = some x ∧ ((w.setCell ⟨b, 0, none⟩ x).setCell ⟨b, 1, none⟩ y).cell? ⟨b, 1, none⟩ = some y := by
  constructor
  · rw [World.cell?_setCell_other _ _ _ _ (by simp)]
    exact World.cell?_setCell_same _ _ _ h0
  · refine World.cell?_setCell_same _ _ _ (u := v) ?_
    rw [World.cell?_setCell_other _ _ _ _ (by simp)]
    exact h1
theorem two_off {w : World} {b c j : Nat} {u x y : Value} (hc : c ≠ b) (h : w.cell? ⟨c, j, none⟩ = some u) :
    ((w.setCell ⟨b, 0, none⟩ x).setCell ⟨b, 1, none⟩ y).cell? ⟨c, j, none⟩ = some u := by
  rw [World.cell?_setCell_other _ _ _ _ (by intro e; injection e with e1; exact hc e1.symm), World.cell?_setCell_other _ _ _ _ (by intro e; injection e with e1; exact hc e1.symm), h]

set_option maxRecDepth 100000 in
set_option maxHeartbeats 3200000 in
theorem among_any (am : Option Addr) (cm : Nat) (ms : List Pid) (a : Option Addr) (c : Nat) (xs : List Pid) (w : World) (hnm : ms.length ≤ 70368744177664) (hn : xs.length ≤ 70368744177664) (hrm : PidRow w am ms) (hrow : PidRow w a xs) :
   Calls Try.prog 101 #[.slice am ms.length cm, .slice a xs.length c] w fun e w' => e = .returned (.agg #[.int .u64 (maskL ms (0, 0) xs).1, .int .u64 (maskL ms (0, 0) xs).2]) ∧ Below w.heap.size w w' := by
  have hB : ∀ c d, Below w.heap.size w ((w.alloc (.cells c 83)).alloc (.cells d 83)) := fun c d => ((Below.refl _ _).alloc (Nat.le_refl _) _).alloc (by simp) _
  go_enter Try.func101, Try.ntmps101
  go_wp2
  go_loopw [10] (fun i wr => ∃ (k : Nat) (A B : Nat), k ≤ xs.length ∧ i = .int .i64 k ∧ mok (A, B) ∧ Hid (maskL ms (0, 0) xs = maskL ms (A, B) (xs.drop k)) ∧ Below w.heap.size w wr ∧ w.heap.size + 1 < wr.heap.size ∧ wr.cell? ⟨w.heap.size, 0, none⟩ = some (.int .u64 0) ∧ wr.cell? ⟨w.heap.size, 1, none⟩ = some (.int .u64 0) ∧ wr.frozen? ⟨w.heap.size, 0, none⟩ = false ∧ wr.frozen? ⟨w.heap.size, 1, none⟩ = false ∧ wr.cell? ⟨w.heap.size + 1, 0, none⟩ = some (.int .u64 A) ∧ wr.cell? ⟨w.heap.size + 1, 1, none⟩ = some (.int .u64 B) ∧ wr.frozen? ⟨w.heap.size + 1, 0, none⟩ = false ∧ wr.frozen? ⟨w.heap.size + 1, 1, none⟩ = false) (fun i _ => xs.length - (intOf i).toNat)
  case atStart => exact ⟨0, 0, 0, Nat.zero_le _, rfl, ⟨by decide, by decide⟩, rfl, hB _ _, by simp, by simp, by simp, by simp, by simp, by simp, by simp, by simp, by simp⟩
  case round =>
    obtain ⟨k, A, B, hk, rfl, hok, hq, hb, hsz, z0, z1, z2, z3, m0, m1, m2, m3⟩ := hrel
    by_cases hlt : k < xs.length
    · obtain ⟨b, off, x, y, rfl, hx, d1, d2⟩ := hrow.at hb rfl hlt
      obtain ⟨I, hI⟩ : ∃ I, atIx ms (x, y) = I := ⟨_, rfl⟩
      have hd := maskL_drop (ms := ms) (M := (A, B)) hlt hx
      rw [hI] at hd
      obtain ⟨A', B', hAB⟩ : ∃ A' B', mset (A, B) I = (A', B') := ⟨_, _, rfl⟩
      have hok' : mok (A', B') := by rw [← hAB]; exact mset_ok hok
      rw [hAB] at hd
      have HA := hid hAB
      have HI := hid hI
      have HD := hid hd
      have HX := hid hx
      clear hAB hI hd hx
      have hB4 : Below wr.heap.size wr (wr.alloc (.cells #[.int .u16 x, .int .u32 y] 32)) := (Below.refl _ _).alloc (Nat.le_refl _) _
      have hB5 : Below w.heap.size w (wr.alloc (.cells #[.int .u16 x, .int .u32 y] 32)) := hb.alloc hb.size _
      have p0 : (wr.alloc (.cells #[.int .u16 x, .int .u32 y] 32)).cell? ⟨wr.heap.size, 0, none⟩ = some (.int .u16 x) := by simp
      have p1 : (wr.alloc (.cells #[.int .u16 x, .int .u32 y] 32)).cell? ⟨wr.heap.size, 1, none⟩ = some (.int .u32 y) := by simp
      have s4 : wr.heap.size < (wr.alloc (.cells #[.int .u16 x, .int .u32 y] 32)).heap.size := by simp
      have hmr := hrm.ext hB5
      go_wp2
      have n0 := cell_to m0 hB4
      have n1 := cell_to m1 hB4
      have n2 : (wr.alloc (.cells #[.int .u16 x, .int .u32 y] 32)).frozen? ⟨w.heap.size + 1, 0, none⟩ = false := (hB4.frozen (by simp; omega)).trans m2
      have n3 : (wr.alloc (.cells #[.int .u16 x, .int .u32 y] 32)).frozen? ⟨w.heap.size + 1, 1, none⟩ = false := (hB4.frozen (by simp; omega)).trans m3
      generalize hw4 : wr.alloc (.cells #[.int .u16 x, .int .u32 y] 32) = w4 at *
      have F0 : ∀ W, Below w4.heap.size w4 W → W.cell? ⟨w.heap.size + 1, 0, none⟩ = some (.int .u64 A) := fun W h => cell_to n0 h
      have F1 : ∀ W, Below w4.heap.size w4 W → W.cell? ⟨w.heap.size + 1, 1, none⟩ = some (.int .u64 B) := fun W h => cell_to n1 h
      have F2 : ∀ W, Below w4.heap.size w4 W → W.frozen? ⟨w.heap.size + 1, 0, none⟩ = false := fun W h => (h.frozen (by simp; omega)).trans n2
      have F3 : ∀ W, Below w4.heap.size w4 W → W.frozen? ⟨w.heap.size + 1, 1, none⟩ = false := fun W h => (h.frozen (by simp; omega)).trans n3
      have F4 : ∀ W, Below w4.heap.size w4 W → W.cell? ⟨wr.heap.size, 0, none⟩ = some (.int .u16 x) := fun W h => cell_to p0 h
      have F5 : ∀ W, Below w4.heap.size w4 W → W.cell? ⟨wr.heap.size, 1, none⟩ = some (.int .u32 y) := fun W h => cell_to p1 h
      have C1 : Hid (∀ W, Below w4.heap.size w4 W → Calls Try.prog 106 #[.slice am ms.length cm, .agg #[.int .u16 x, .int .u32 y]] W fun e w' => e = .returned (.int .i64 I) ∧ Below w4.heap.size w4 w') := hid fun W h => rel h (index_is HI hnm (hmr.ext h)) rfl
      have C2 : Hid (∀ W, Below w4.heap.size w4 W → Calls Try.prog 107 #[.agg #[.int .u64 A, .int .u64 B], .int .i64 I] W fun e w' => e = .returned (.agg #[.int .u64 A', .int .u64 B']) ∧ Below w4.heap.size w4 w') := hid fun W h => rel h (with_is hok HA) rfl
      have FF : Hid (∀ W, Below w4.heap.size w4 W → W.cell? ⟨w.heap.size + 1, 0, none⟩ = some (.int .u64 A) ∧ W.cell? ⟨w.heap.size + 1, 1, none⟩ = some (.int .u64 B) ∧ W.frozen? ⟨w.heap.size + 1, 0, none⟩ = false ∧ W.frozen? ⟨w.heap.size + 1, 1, none⟩ = false ∧ W.cell? ⟨wr.heap.size, 0, none⟩ = some (.int .u16 x) ∧ W.cell? ⟨wr.heap.size, 1, none⟩ = some (.int .u32 y)) := hid fun W h => ⟨F0 W h, F1 W h, F2 W h, F3 W h, F4 W h, F5 W h⟩
      have G0 : Below w4.heap.size w4 w4 := Below.refl _ _
      have G1 : Below w4.heap.size w4 w4.drew := (Below.refl _ _).drew
      clear F0 F1 F2 F3 F4 F5 m0 m1 m2 m3 d1 d2
      go_region_with (first | (go_at_call 106; refine (C1.out _ (by assumption)).mono ?_; rintro e w' ⟨rfl, hb'⟩; obtain ⟨q0, q1, q2, q3, q4, q5⟩ := FF.out _ hb') | (go_at_call 107; refine (C2.out _ (by assumption)).mono ?_; rintro e w' ⟨rfl, hb'⟩; obtain ⟨q0, q1, q2, q3, q4, q5⟩ := FF.out _ hb'))
      all_goals (
        have y0 := cell_to (cell_to z0 hB4) hb'
        have y1 := cell_to (cell_to z1 hB4) hb'
        have y2 := (hb'.frozen (p := ⟨w.heap.size, 0, none⟩) (by simp; omega)).trans ((hB4.frozen (p := ⟨w.heap.size, 0, none⟩) (by simp; omega)).trans z2)
        have y3 := (hb'.frozen (p := ⟨w.heap.size, 1, none⟩) (by simp; omega)).trans ((hB4.frozen (p := ⟨w.heap.size, 1, none⟩) (by simp; omega)).trans z3)
        have hsz' := hb'.size
        go_wp2
        go_roundw)
      all_goals first
        | (case measure => simp [intOf]; omega)
        | (case rel => exact ⟨k + 1, A', B', by omega, by go_num, hok', hq.out.trans (by rw [HD.out]), ((hB5.trans (hb'.mono hB5.size)).setCell (by simp) _).setCell (by simp) _, by simp; omega, two_off (by omega) y0, two_off (by omega) y1, by simp [y2], by simp [y3], (two_cell q0 q1).1, (two_cell q0 q1).2, by simp [q2], by simp [q3]⟩)
    · have hend : maskL ms (0, 0) xs = (A, B) := by rw [hq.out, List.drop_eq_nil_of_le (by omega)]; rfl
      have HE := hid hend
      clear hend
      go_wp2
      obtain ⟨t0, t1⟩ := two_cell (x := .int .u64 A) (y := .int .u64 B) z0 z1
      refine bodyPost_ret (v := .agg #[.int .u64 A, .int .u64 B]) (by simp [results, Try.results101, go_sem, t0, t1]) rfl ⟨by rw [HE.out], (hb.setCell (by simp) _).setCell (by simp) _⟩
end Go.Proofs.Ytjjahefedpfnaaa
