import Derived.Test.YtjjahefedpfnaaaA2
import Derived.Lib.EndianBits
import Derived.Laws.ShiftsVar
import Derived.Deep.RegionHeld3
namespace Go.Proofs.Ytjjahefedpfnaaa
open Go.RowKit
set_option maxHeartbeats 800000 in
theorem bit_any (i : Nat) (w : World) (hi : i < 128) :
   Calls Try.prog 119 #[.int .i64 i] w fun e w' => e = .returned (.tuple #[.int .i64 (i / 64 : Nat), .int .u64 (2 ^ (i % 64) : Nat), .bool true]) ∧ w' = w := by
  obtain ⟨j, hj⟩ : ∃ j, i % 64 = j := ⟨_, rfl⟩
  have hj2 : j < 64 := by omega
  have ha : bits .and .u64 (i : Int) 63 = (j : Int) := by
    have := (bits_nat .u64 64 (by decide) wraps_u64 i 63 (by omega) (by decide)).1
    rw [← hj, ← show i &&& 63 = i % 64 from Nat.and_two_pow_sub_one_eq_mod i 6]
    exact this
  have h0 : decide ((i : Int) < 0) = false := by simp
  have h1 : decide (128 ≤ (i : Int)) = false := by simp; omega
  go_enter Try.func119, Try.ntmps119
  go_wp2
  have hw : IntKind.u64.wrap (2 ^ j) = ((2 ^ j : Nat) : Int) := by
    have h2 : (2 : Nat) ^ j < 2 ^ 64 := Nat.pow_lt_pow_of_lt (by decide) hj2
    have h3 : ((2 ^ j : Nat) : Int) = (2 : Int) ^ j := by simp
    rw [h3]
    exact wraps_u64 _ (by rw [← h3]; exact Int.natCast_nonneg _) (by rw [← h3]; exact_mod_cast h2)
  rw [hj]
  exact bodyPost_ret (v := .tuple #[.int .i64 ((i : Int) / 64), .int .u64 (IntKind.u64.wrap (2 ^ j)), .bool true]) (by simp [results, Try.results119, go_sem]) rfl ⟨by rw [hw]; rfl, rfl⟩
set_option maxHeartbeats 800000 in
theorem bit_out (i : Int) (w : World) (hi : i < 0 ∨ 128 ≤ i) :
   Calls Try.prog 119 #[.int .i64 i] w fun e w' => e = .returned (.tuple #[.int .i64 0, .int .u64 0, .bool false]) ∧ w' = w := by
  by_cases h0 : i < 0
  · have h0' : decide (i < 0) = true := by simpa using h0
    go_enter Try.func119, Try.ntmps119
    go_wp2
    exact bodyPost_ret (by simp [results, Try.results119, go_sem]) rfl ⟨rfl, rfl⟩
  · have h0' : decide (i < 0) = false := by simpa using h0
    have h1' : decide (128 ≤ i) = true := by simp; omega
    go_enter Try.func119, Try.ntmps119
    go_wp2
    exact bodyPost_ret (by simp [results, Try.results119, go_sem]) rfl ⟨rfl, rfl⟩

/-- a mask of 128 bits, as two words -/
def mset (M : Nat × Nat) (i : Int) : Nat × Nat :=
  if 0 ≤ i ∧ i < 128 then (if i < 64 then (M.1 ||| 2 ^ i.toNat, M.2) else (M.1, M.2 ||| 2 ^ (i.toNat - 64))) else M
def mok (M : Nat × Nat) : Prop := M.1 < 2 ^ 64 ∧ M.2 < 2 ^ 64
theorem mset_ok {M : Nat × Nat} {i : Int} (h : mok M) : mok (mset M i) := by
  unfold mset
  split
  · split
    · exact ⟨Nat.or_lt_two_pow h.1 (Nat.pow_lt_pow_of_lt (by decide) (by omega)), h.2⟩
    · exact ⟨h.1, Nat.or_lt_two_pow h.2 (Nat.pow_lt_pow_of_lt (by decide) (by omega))⟩
  · exact h
theorem or_u64 {a b : Nat} (ha : a < 2 ^ 64) (hb : b < 2 ^ 64) : bits .or .u64 (a : Int) (b : Int) = ((a ||| b : Nat) : Int) := (bits_nat .u64 64 (by decide) wraps_u64 a b ha hb).2

set_option maxHeartbeats 800000 in
theorem with_any (a b : Nat) (i : Int) (w : World) (hM : mok (a, b)) :
   Calls Try.prog 107 #[.agg #[.int .u64 a, .int .u64 b], .int .i64 i] w fun e w' => e = .returned (.agg #[.int .u64 (mset (a, b) i).1, .int .u64 (mset (a, b) i).2]) ∧ Below w.heap.size w w' := by
  have hB : ∀ c d, Below w.heap.size w ((w.alloc (.cells c 83)).alloc (.cells d 83)) := fun c d => ((Below.refl _ _).alloc (Nat.le_refl _) _).alloc (by simp) _
  have hp : ∀ n, (2 : Nat) ^ (n % 64) < 2 ^ 64 := fun n => Nat.pow_lt_pow_of_lt (by decide) (by omega)
  by_cases hi : 0 ≤ i ∧ i < 128
  · obtain ⟨n, rfl⟩ := Int.eq_ofNat_of_zero_le hi.1
    have hn : n < 128 := by omega
    have hpn := hp n
    by_cases h6 : n < 64
    · have hq : n / 64 = 0 := by omega
      have hc : ∀ W, Calls Try.prog 119 #[.int .i64 n] W fun e w' => e = .returned (.tuple #[.int .i64 0, .int .u64 ((2 ^ (n % 64) : Nat) : Int), .bool true]) ∧ w' = W := fun W => by have := bit_any n W hn; rw [hq] at this; exact this
      have he : mset (a, b) n = (a ||| 2 ^ (n % 64), b) := by
        unfold mset; rw [if_pos hi, if_pos (by omega), Nat.mod_eq_of_lt h6]; rfl
      rw [he]
      generalize hP : (2 : Nat) ^ (n % 64) = P at hc hpn
      have ho := or_u64 hM.1 hpn
      go_enter Try.func107, Try.ntmps107
      go_wp2_with (go_at_call 119; refine (hc _).mono ?_; rintro e w3 ⟨rfl, rfl⟩)
      refine bodyPost_ret (v := .agg #[.int .u64 ((a ||| P : Nat) : Int), .int .u64 b]) (by simp [results, Try.results107, go_sem, ho]) rfl ⟨rfl, hB _ _⟩
    · have hq : n / 64 = 1 := by omega
      have hc : ∀ W, Calls Try.prog 119 #[.int .i64 n] W fun e w' => e = .returned (.tuple #[.int .i64 1, .int .u64 ((2 ^ (n % 64) : Nat) : Int), .bool true]) ∧ w' = W := fun W => by have := bit_any n W hn; rw [hq] at this; exact this
      have he : mset (a, b) n = (a, b ||| 2 ^ (n % 64)) := by
        unfold mset; rw [if_pos hi, if_neg (by omega), show n % 64 = n - 64 by omega]; rfl
      rw [he]
      generalize hP : (2 : Nat) ^ (n % 64) = P at hc hpn
      have ho := or_u64 hM.2 hpn
      go_enter Try.func107, Try.ntmps107
      go_wp2_with (go_at_call 119; refine (hc _).mono ?_; rintro e w3 ⟨rfl, rfl⟩)
      refine bodyPost_ret (v := .agg #[.int .u64 a, .int .u64 ((b ||| P : Nat) : Int)]) (by simp [results, Try.results107, go_sem, ho]) rfl ⟨rfl, hB _ _⟩
  · have he : mset (a, b) i = (a, b) := by unfold mset; rw [if_neg hi]
    rw [he]
    have hc := fun W => bit_out i W (by omega)
    go_enter Try.func107, Try.ntmps107
    go_wp2_with (go_at_call 119; refine (hc _).mono ?_; rintro e w3 ⟨rfl, rfl⟩)
    refine bodyPost_ret (v := .agg #[.int .u64 a, .int .u64 b]) (by simp [results, Try.results107, go_sem]) rfl ⟨rfl, hB _ _⟩
end Go.Proofs.Ytjjahefedpfnaaa
namespace Go.Proofs.Ytjjahefedpfnaaa
open Go.RowKit
def maskL (ms : List Pid) : Nat × Nat → List Pid → Nat × Nat
  | M, [] => M
  | M, p :: r => maskL ms (mset M (atIx ms p)) r
theorem maskL_drop {ms : List Pid} {M : Nat × Nat} {xs : List Pid} {k : Nat} (h : k < xs.length) {x y : Int} (hx : (x, y) = xs[k]) :
    maskL ms M (xs.drop k) = maskL ms (mset M (atIx ms (x, y))) (xs.drop (k + 1)) := by
  rw [List.drop_eq_getElem_cons h, ← hx]; rfl
theorem with_is {a b a' b' : Nat} {i : Int} {w : World} (hM : mok (a, b)) (h : Hid (mset (a, b) i = (a', b'))) :
   Calls Try.prog 107 #[.agg #[.int .u64 a, .int .u64 b], .int .i64 i] w fun e w' => e = .returned (.agg #[.int .u64 a', .int .u64 b']) ∧ Below w.heap.size w w' := by
  have := with_any a b i w hM
  rw [h.out] at this
  exact this

theorem two_cell {w : World} {b : Nat} {u v x y : Value} (h0 : w.cell? ⟨b, 0, none⟩ = some u) (h1 : w.cell? ⟨b, 1, none⟩ = some v) :
    ((w.setCell ⟨b, 0, none⟩ x).setCell ⟨b, 1, none⟩ y).cell? ⟨b, 0, none⟩ = some x ∧ ((w.setCell ⟨b, 0, none⟩ x).setCell ⟨b, 1, none⟩ y).cell? ⟨b, 1, none⟩ = some y := by
  constructor
  · rw [World.cell?_setCell_other _ _ _ _ (by simp)]
    exact World.cell?_setCell_same _ _ _ h0
  · refine World.cell?_setCell_same _ _ _ (u := v) ?_
    rw [World.cell?_setCell_other _ _ _ _ (by simp)]
    exact h1
theorem two_off {w : World} {b c j : Nat} {u x y : Value} (hc : c ≠ b) (h : w.cell? ⟨c, j, none⟩ = some u) :
    ((w.setCell ⟨b, 0, none⟩ x).setCell ⟨b, 1, none⟩ y).cell? ⟨c, j, none⟩ = some u := by
  rw [World.cell?_setCell_other _ _ _ _ (by intro e; injection e with e1; exact hc e1.symm), World.cell?_setCell_other _ _ _ _ (by intro e; injection e with e1; exact hc e1.symm), h]

set_option maxRecDepth 100000 in
set_option maxHeartbeats 3200000 in
theorem among_any (am : Option Addr) (cm : Nat) (ms : List Pid) (a : Option Addr) (c : Nat) (xs : List Pid) (w : World) (hnm : ms.length ≤ 70368744177664) (hn : xs.length ≤ 70368744177664) (hrm : PidRow w am ms) (hrow : PidRow w a xs) :
   Calls Try.prog 101 #[.slice am ms.length cm, .slice a xs.length c] w fun e w' => e = .returned (.agg #[.int .u64 (maskL ms (0, 0) xs).1, .int .u64 (maskL ms (0, 0) xs).2]) ∧ Below w.heap.size w w' := by
  have hB : ∀ c d, Below w.heap.size w ((w.alloc (.cells c 83)).alloc (.cells d 83)) := fun c d => ((Below.refl _ _).alloc (Nat.le_refl _) _).alloc (by simp) _
  go_enter Try.func101, Try.ntmps101
  go_wp2
  go_loopw [10] (fun i wr => ∃ (k : Nat) (A B : Nat), k ≤ xs.length ∧ i = .int .i64 k ∧ mok (A, B) ∧ Hid (maskL ms (0, 0) xs = maskL ms (A, B) (xs.drop k)) ∧ Below w.heap.size w wr ∧ w.heap.size + 1 < wr.heap.size ∧ wr.cell? ⟨w.heap.size, 0, none⟩ = some (.int .u64 0) ∧ wr.cell? ⟨w.heap.size, 1, none⟩ = some (.int .u64 0) ∧ wr.frozen? ⟨w.heap.size, 0, none⟩ = false ∧ wr.frozen? ⟨w.heap.size, 1, none⟩ = false ∧ wr.cell? ⟨w.heap.size + 1, 0, none⟩ = some (.int .u64 A) ∧ wr.cell? ⟨w.heap.size + 1, 1, none⟩ = some (.int .u64 B) ∧ wr.frozen? ⟨w.heap.size + 1, 0, none⟩ = false ∧ wr.frozen? ⟨w.heap.size + 1, 1, none⟩ = false) (fun i _ => xs.length - (intOf i).toNat)
  case atStart => exact ⟨0, 0, 0, Nat.zero_le _, rfl, ⟨by decide, by decide⟩, rfl, hB _ _, by simp, by simp, by simp, by simp, by simp, by simp, by simp, by simp, by simp⟩
  case round =>
    obtain ⟨k, A, B, hk, rfl, hok, hq, hb, hsz, z0, z1, z2, z3, m0, m1, m2, m3⟩ := hrel
    by_cases hlt : k < xs.length
    · obtain ⟨b, off, x, y, rfl, hx, d1, d2⟩ := hrow.at hb rfl hlt
      obtain ⟨I, hI⟩ : ∃ I, atIx ms (x, y) = I := ⟨_, rfl⟩
      have hd := maskL_drop (ms := ms) (M := (A, B)) hlt hx
      rw [hI] at hd
      obtain ⟨A', B', hAB⟩ : ∃ A' B', mset (A, B) I = (A', B') := ⟨_, _, rfl⟩
      have hok' : mok (A', B') := by rw [← hAB]; exact mset_ok hok
      rw [hAB] at hd
      have HA := hid hAB
      have HI := hid hI
      have HD := hid hd
      have HX := hid hx
      clear hAB hI hd hx
      have hB4 : Below wr.heap.size wr (wr.alloc (.cells #[.int .u16 x, .int .u32 y] 32)) := (Below.refl _ _).alloc (Nat.le_refl _) _
      have hB5 : Below w.heap.size w (wr.alloc (.cells #[.int .u16 x, .int .u32 y] 32)) := hb.alloc hb.size _
      have p0 : (wr.alloc (.cells #[.int .u16 x, .int .u32 y] 32)).cell? ⟨wr.heap.size, 0, none⟩ = some (.int .u16 x) := by simp
      have p1 : (wr.alloc (.cells #[.int .u16 x, .int .u32 y] 32)).cell? ⟨wr.heap.size, 1, none⟩ = some (.int .u32 y) := by simp
      have s4 : wr.heap.size < (wr.alloc (.cells #[.int .u16 x, .int .u32 y] 32)).heap.size := by simp
      have hmr := hrm.ext hB5
      go_wp2
      have n0 := cell_to m0 hB4
      have n1 := cell_to m1 hB4
      have n2 : (wr.alloc (.cells #[.int .u16 x, .int .u32 y] 32)).frozen? ⟨w.heap.size + 1, 0, none⟩ = false := (hB4.frozen (by simp; omega)).trans m2
      have n3 : (wr.alloc (.cells #[.int .u16 x, .int .u32 y] 32)).frozen? ⟨w.heap.size + 1, 1, none⟩ = false := (hB4.frozen (by simp; omega)).trans m3
      generalize hw4 : wr.alloc (.cells #[.int .u16 x, .int .u32 y] 32) = w4 at *
      have F0 : ∀ W, Below w4.heap.size w4 W → W.cell? ⟨w.heap.size + 1, 0, none⟩ = some (.int .u64 A) := fun W h => cell_to n0 h
      have F1 : ∀ W, Below w4.heap.size w4 W → W.cell? ⟨w.heap.size + 1, 1, none⟩ = some (.int .u64 B) := fun W h => cell_to n1 h
      have F2 : ∀ W, Below w4.heap.size w4 W → W.frozen? ⟨w.heap.size + 1, 0, none⟩ = false := fun W h => (h.frozen (by simp; omega)).trans n2
      have F3 : ∀ W, Below w4.heap.size w4 W → W.frozen? ⟨w.heap.size + 1, 1, none⟩ = false := fun W h => (h.frozen (by simp; omega)).trans n3
      have F4 : ∀ W, Below w4.heap.size w4 W → W.cell? ⟨wr.heap.size, 0, none⟩ = some (.int .u16 x) := fun W h => cell_to p0 h
      have F5 : ∀ W, Below w4.heap.size w4 W → W.cell? ⟨wr.heap.size, 1, none⟩ = some (.int .u32 y) := fun W h => cell_to p1 h
      have C1 : Hid (∀ W, Below w4.heap.size w4 W → Calls Try.prog 106 #[.slice am ms.length cm, .agg #[.int .u16 x, .int .u32 y]] W fun e w' => e = .returned (.int .i64 I) ∧ Below w4.heap.size w4 w') := hid fun W h => rel h (index_is HI hnm (hmr.ext h)) rfl
      have C2 : Hid (∀ W, Below w4.heap.size w4 W → Calls Try.prog 107 #[.agg #[.int .u64 A, .int .u64 B], .int .i64 I] W fun e w' => e = .returned (.agg #[.int .u64 A', .int .u64 B']) ∧ Below w4.heap.size w4 w') := hid fun W h => rel h (with_is hok HA) rfl
      have FF : Hid (∀ W, Below w4.heap.size w4 W → W.cell? ⟨w.heap.size + 1, 0, none⟩ = some (.int .u64 A) ∧ W.cell? ⟨w.heap.size + 1, 1, none⟩ = some (.int .u64 B) ∧ W.frozen? ⟨w.heap.size + 1, 0, none⟩ = false ∧ W.frozen? ⟨w.heap.size + 1, 1, none⟩ = false ∧ W.cell? ⟨wr.heap.size, 0, none⟩ = some (.int .u16 x) ∧ W.cell? ⟨wr.heap.size, 1, none⟩ = some (.int .u32 y)) := hid fun W h => ⟨F0 W h, F1 W h, F2 W h, F3 W h, F4 W h, F5 W h⟩
      have G0 : Below w4.heap.size w4 w4 := Below.refl _ _
      have G1 : Below w4.heap.size w4 w4.drew := (Below.refl _ _).drew
      clear F0 F1 F2 F3 F4 F5 m0 m1 m2 m3 d1 d2
      go_region_with (first | (go_at_call 106; refine (C1.out _ (by assumption)).mono ?_; rintro e w' ⟨rfl, hb'⟩; obtain ⟨q0, q1, q2, q3, q4, q5⟩ := FF.out _ hb') | (go_at_call 107; refine (C2.out _ (by assumption)).mono ?_; rintro e w' ⟨rfl, hb'⟩; obtain ⟨q0, q1, q2, q3, q4, q5⟩ := FF.out _ hb'))
      all_goals (
        have y0 := cell_to (cell_to z0 hB4) hb'
        have y1 := cell_to (cell_to z1 hB4) hb'
        have y2 := (hb'.frozen (p := ⟨w.heap.size, 0, none⟩) (by simp; omega)).trans ((hB4.frozen (p := ⟨w.heap.size, 0, none⟩) (by simp; omega)).trans z2)
        have y3 := (hb'.frozen (p := ⟨w.heap.size, 1, none⟩) (by simp; omega)).trans ((hB4.frozen (p := ⟨w.heap.size, 1, none⟩) (by simp; omega)).trans z3)
        have hsz' := hb'.size
        go_wp2
        go_roundw)
      all_goals first
        | (case measure => simp [intOf]; omega)
        | (case rel => exact ⟨k + 1, A', B', by omega, by go_num, hok', hq.out.trans (by rw [HD.out]), ((hB5.trans (hb'.mono hB5.size)).setCell (by simp) _).setCell (by simp) _, by simp; omega, two_off (by omega) y0, two_off (by omega) y1, by simp [y2], by simp [y3], (two_cell q0 q1).1, (two_cell q0 q1).2, by simp [q2], by simp [q3]⟩)
    · have hend : maskL ms (0, 0) xs = (A, B) := by rw [hq.out, List.drop_eq_nil_of_le (by omega)]; rfl
      have HE := hid hend
      clear hend
      go_wp2
      obtain ⟨t0, t1⟩ := two_cell (x := .int .u64 A) (y := .int .u64 B) z0 z1
      refine bodyPost_ret (v := .agg #[.int .u64 A, .int .u64 B]) (by simp [results, Try.results101, go_sem, t0, t1]) rfl ⟨by rw [HE.out], (hb.setCell (by simp) _).setCell (by simp) _⟩
end Go.Proofs.Ytjjahefedpfnaaa
namespace Go.Proofs.Ytjjahefedpfnaaa
open Go.RowKit
set_option maxRecDepth 100000 in
set_option maxHeartbeats 1600000 in
theorem mask_any (V : View) (am al ad : Option Addr) (cm cl cd : Nat) (a : Option Addr) (c : Nat) (xs : List Pid) (w : World) (hV : ViewR w am al ad V) (hn : xs.length ≤ 70368744177664) (hrow : PidRow w a xs) :
   Calls Try.prog 90 #[.agg #[.int .u64 V.id, .slice am V.ms.length cm, .slice al V.ls.length cl, .slice ad V.ds.length cd], .slice a xs.length c] w fun e w' => e = .returned (.agg #[.int .u64 (maskL V.ms (0, 0) xs).1, .int .u64 (maskL V.ms (0, 0) xs).2]) ∧ Below w.heap.size w w' := by
  have hB2 : Below w.heap.size w ((w.alloc (.cells #[.int .u64 V.id, .slice am V.ms.length cm, .slice al V.ls.length cl, .slice ad V.ds.length cd] 68)).alloc (.cells #[.int .u64 0, .int .u64 0] 83)) := ((Below.refl _ _).alloc (Nat.le_refl _) _).alloc (by simp) _
  have hV2 := hV.ext hB2
  have hr2 := hrow.ext hB2
  have hlm := hV.lm
  generalize hM : maskL V.ms (0, 0) xs = M
  obtain ⟨A, B⟩ := M
  have HM := hid hM
  clear hM
  go_enter Try.func90, Try.ntmps90
  go_wp2_with (go_at_call 101; refine (among_any _ _ _ _ _ _ _ hlm hn hV2.ms hr2).mono ?_; rintro e w3 ⟨rfl, hb3⟩; rw [HM.out]; obtain ⟨hc3, hf3⟩ := bcell hb3)
  have m0 : w3.cell? ⟨w.heap.size + 1, 0, none⟩ = some (.int .u64 0) := by rw [hc3 _ _ (by simp)]; simp
  have m1 : w3.cell? ⟨w.heap.size + 1, 1, none⟩ = some (.int .u64 0) := by rw [hc3 _ _ (by simp)]; simp
  obtain ⟨t0, t1⟩ := two_cell (x := .int .u64 A) (y := .int .u64 B) m0 m1
  refine bodyPost_ret (v := .agg #[.int .u64 A, .int .u64 B]) (by simp [results, Try.results90, go_sem, t0, t1]) rfl ⟨rfl, ((hB2.trans (hb3.mono (by simp; omega))).setCell (by simp) _).setCell (by simp) _⟩
end Go.Proofs.Ytjjahefedpfnaaa
namespace Go.Proofs.Ytjjahefedpfnaaa
open Go.RowKit
/-- n bits of f from place k on, as a number -/
def hor (f : Nat → Bool) : Nat → Nat → Nat
  | _, 0 => 0
  | k, n + 1 => 2 * hor f (k + 1) n + (f k).toNat
theorem hor_bit (f : Nat → Bool) : ∀ (n k j : Nat), (hor f k n).testBit j = (decide (j < n) && f (k + j))
  | 0, k, j => by simp [hor]
  | n + 1, k, 0 => by
    simp only [hor, Nat.testBit_zero]
    cases f k <;> simp <;> omega
  | n + 1, k, j + 1 => by
    have hd : (2 * hor f (k + 1) n + (f k).toNat) / 2 = hor f (k + 1) n := by cases f k <;> simp <;> omega
    simp only [hor, Nat.testBit_succ, hd]
    rw [hor_bit f n (k + 1) j, show k + 1 + j = k + (j + 1) by omega]
    simp
theorem hor_lt (f : Nat → Bool) : ∀ (n k : Nat), hor f k n < 2 ^ n
  | 0, _ => by simp [hor]
  | n + 1, k => by
    have := hor_lt f n (k + 1)
    simp only [hor]
    rw [Nat.pow_succ]
    cases f k <;> simp <;> omega
/-- the bits of a mask -/
def maskF (M : Nat × Nat) (i : Nat) : Bool := if i < 64 then M.1.testBit i else M.2.testBit (i - 64)
theorem mask_hor {M : Nat × Nat} (h : mok M) : (hor (maskF M) 0 64, hor (maskF M) 64 64) = M := by
  obtain ⟨a, b⟩ := M
  obtain ⟨ha, hb⟩ := h
  simp only at ha hb
  congr 1
  · refine Nat.eq_of_testBit_eq fun j => ?_
    rw [hor_bit]
    by_cases hj : j < 64
    · simp [maskF, hj]
    · simp [hj, Nat.testBit_lt_two_pow (Nat.lt_of_lt_of_le ha (Nat.pow_le_pow_right (by decide) (Nat.le_of_not_lt hj)))]
  · refine Nat.eq_of_testBit_eq fun j => ?_
    rw [hor_bit]
    by_cases hj : j < 64
    · simp [maskF, hj]
      intro h; omega
    · simp [hj, Nat.testBit_lt_two_pow (Nat.lt_of_lt_of_le hb (Nat.pow_le_pow_right (by decide) (Nat.le_of_not_lt hj)))]
theorem maskF_in {M : Nat × Nat} {i : Int} (h : 0 ≤ i ∧ i < 128) (j : Nat) (hj : j < 128) : maskF (mset M i) j = (maskF M j || decide (j = i.toNat)) := by
  unfold mset maskF
  rw [if_pos h]
  by_cases h6 : i < 64
  · rw [if_pos h6]
    by_cases hj6 : j < 64
    · rw [if_pos hj6, if_pos hj6]
      simp only [Nat.testBit_or, Nat.testBit_two_pow]
      congr 1
      exact decide_eq_decide.mpr ⟨fun e => e.symm, fun e => e.symm⟩
    · rw [if_neg hj6, if_neg hj6]
      have : decide (j = i.toNat) = false := decide_eq_false (by omega)
      simp [this]
  · rw [if_neg h6]
    by_cases hj6 : j < 64
    · rw [if_pos hj6, if_pos hj6]
      have : decide (j = i.toNat) = false := decide_eq_false (by omega)
      simp [this]
    · rw [if_neg hj6, if_neg hj6]
      simp only [Nat.testBit_or, Nat.testBit_two_pow]
      congr 1
      exact decide_eq_decide.mpr (by omega)
theorem maskF_out {M : Nat × Nat} {i : Int} (h : ¬ (0 ≤ i ∧ i < 128)) : mset M i = M := by
  unfold mset; rw [if_neg h]
end Go.Proofs.Ytjjahefedpfnaaa
namespace Go.Proofs.Ytjjahefedpfnaaa
open Go.RowKit
def wA (f : Nat → Bool) (n : Nat) : Nat := if n ≤ 64 then hor f n (64 - n) else 0
def wB (f : Nat → Bool) (n : Nat) : Nat := if n ≤ 64 then hor f 64 64 else hor f n (128 - n)
theorem wA_lt (f : Nat → Bool) {j : Nat} (h : j < 64) : wA f j = 2 * wA f (j + 1) + (f j).toNat ∧ wB f j = wB f (j + 1) := by
  unfold wA wB
  rw [if_pos (by omega), if_pos (by omega), if_pos (by omega), if_pos (by omega), show 64 - j = (63 - j) + 1 by omega, show 64 - (j + 1) = 63 - j by omega]
  exact ⟨rfl, rfl⟩
theorem wB_ge (f : Nat → Bool) {j : Nat} (h : 64 ≤ j) (h2 : j < 128) : wA f j = wA f (j + 1) ∧ wB f j = 2 * wB f (j + 1) + (f j).toNat := by
  unfold wA wB
  rw [if_neg (show ¬ j + 1 ≤ 64 by omega), if_neg (show ¬ j + 1 ≤ 64 by omega)]
  by_cases h64 : j = 64
  · subst h64; exact ⟨rfl, rfl⟩
  · rw [if_neg (by omega), if_neg (by omega), show 128 - j = (128 - (j + 1)) + 1 by omega]
    exact ⟨rfl, rfl⟩
theorem wA_bound (f : Nat → Bool) {j : Nat} (h : j < 64) : wA f (j + 1) < 9223372036854775808 := by
  unfold wA
  rw [if_pos (by omega)]
  exact Nat.lt_of_lt_of_le (hor_lt f _ _) (show 2 ^ (64 - (j + 1)) ≤ 2 ^ 63 from Nat.pow_le_pow_right (by decide) (by omega))
theorem wB_bound (f : Nat → Bool) {j : Nat} (h : 64 ≤ j) (h2 : j < 128) : wB f (j + 1) < 9223372036854775808 := by
  unfold wB
  rw [if_neg (by omega)]
  exact Nat.lt_of_lt_of_le (hor_lt f _ _) (show 2 ^ (128 - (j + 1)) ≤ 2 ^ 63 from Nat.pow_le_pow_right (by decide) (by omega))

theorem off1 {w : World} {b q c j : Nat} {x : Value} (hc : c ≠ b) : (w.setCell ⟨b, q, none⟩ x).cell? ⟨c, j, none⟩ = w.cell? ⟨c, j, none⟩ :=
  World.cell?_setCell_other _ _ _ _ (by intro e; injection e with e1; exact hc e1.symm)
theorem off2 {w : World} {b q j : Nat} {x : Value} (hc : j ≠ q) : (w.setCell ⟨b, q, none⟩ x).cell? ⟨b, j, none⟩ = w.cell? ⟨b, j, none⟩ :=
  World.cell?_setCell_other _ _ _ _ (by intro e; injection e with e1 e2; exact hc e2.symm)

set_option maxRecDepth 100000 in
set_option maxHeartbeats 3200000 in
theorem of_any (bs : Array Value) (f : Nat → Bool) (w : World) (hs : bs.size = 128) (hf : ∀ j, j < 128 → bs[j]? = some (.bool (f j))) :
   Calls Try.prog 92 #[.agg bs] w fun e w' => e = .returned (.agg #[.int .u64 (hor f 0 64), .int .u64 (hor f 64 64)]) ∧ Below w.heap.size w w' := by
  have hB : ∀ c d, Below w.heap.size w (((w.alloc (.cells bs 108)).alloc (.cells c 83)).alloc (.cells d 83)) := fun c d => (((Below.refl _ _).alloc (Nat.le_refl _) _).alloc (by simp) _).alloc (by simp; omega) _
  go_enter Try.func92, Try.ntmps92
  go_wp2
  go_loopw [4] (fun i wr => ∃ (n A B : Nat), n ≤ 128 ∧ i = .int .i64 ((n : Int) - 1) ∧ Hid (A = wA f n) ∧ Hid (B = wB f n) ∧ Below w.heap.size w wr ∧ w.heap.size + 2 < wr.heap.size ∧ (∀ j, j < 128 → wr.cell? ⟨w.heap.size, j, none⟩ = some (.bool (f j))) ∧ wr.cell? ⟨w.heap.size + 1, 0, none⟩ = some (.int .u64 0) ∧ wr.cell? ⟨w.heap.size + 1, 1, none⟩ = some (.int .u64 0) ∧ wr.frozen? ⟨w.heap.size + 1, 0, none⟩ = false ∧ wr.frozen? ⟨w.heap.size + 1, 1, none⟩ = false ∧ wr.cell? ⟨w.heap.size + 1 + 1, 0, none⟩ = some (.int .u64 A) ∧ wr.cell? ⟨w.heap.size + 1 + 1, 1, none⟩ = some (.int .u64 B) ∧ wr.frozen? ⟨w.heap.size + 1 + 1, 0, none⟩ = false ∧ wr.frozen? ⟨w.heap.size + 1 + 1, 1, none⟩ = false) (fun i _ => (intOf i + 1).toNat)
  case atStart =>
    refine ⟨128, 0, 0, Nat.le_refl _, rfl, hid rfl, hid rfl, hB _ _, by simp, fun j hj => ?_, ?_, ?_, ?_, ?_, ?_, ?_, ?_, ?_⟩
    · rw [World.cell?_alloc_past _ _ _ (by simp; omega), World.cell?_alloc_past _ _ _ (by simp)]
      simp [hf j hj]
    · rw [World.cell?_alloc_past _ _ _ (by simp), World.cell?_alloc_at _ _ _ _ (by simp)]; simp
    · rw [World.cell?_alloc_past _ _ _ (by simp), World.cell?_alloc_at _ _ _ _ (by simp)]; simp
    · rw [frozen?_alloc_cells]; simp
    · rw [frozen?_alloc_cells]; simp
    · rw [World.cell?_alloc_at _ _ _ _ (by simp)]; simp
    · rw [World.cell?_alloc_at _ _ _ _ (by simp)]; simp
    · rw [frozen?_alloc_cells, frozen?_alloc_cells, frozen?_alloc_cells]; unfold World.frozen?; rw [Array.getElem?_eq_none (by simp; omega)]
    · rw [frozen?_alloc_cells, frozen?_alloc_cells, frozen?_alloc_cells]; unfold World.frozen?; rw [Array.getElem?_eq_none (by simp; omega)]
  case round =>
    obtain ⟨n, A, B, hn, rfl, hA, hBw, hb, hsz, hc, z0, z1, z2, z3, m0, m1, m2, m3⟩ := hrel
    rcases n with _ | j
    · go_wp2
      obtain ⟨t0, t1⟩ := two_cell (x := .int .u64 A) (y := .int .u64 B) z0 z1
      refine bodyPost_ret (v := .agg #[.int .u64 A, .int .u64 B]) (by simp [results, Try.results92, go_sem, t0, t1]) rfl ⟨by rw [hA.out, hBw.out]; rfl, (hb.setCell (by simp) _).setCell (by simp) _⟩
    · have e0 : ((j + 1 : Nat) : Int) - 1 = (j : Int) := by omega
      rw [e0]
      have hcj := hc j (by omega)
      have HC := hid hc
      by_cases h6 : j < 64
      · have q1 : (j : Int) / 64 = 0 := by omega
        have q2 : (j : Int).tdiv 64 = 0 := by rw [Int.tdiv_eq_ediv_of_nonneg (by omega)]; exact q1
        have hA1 : A < 9223372036854775808 := by rw [hA.out]; exact wA_bound f h6
        obtain ⟨s1, s2⟩ := wA_lt f h6
        have S1 := hid s1
        have S2 := hid s2
        clear s1 s2 hc
        cases hv : f j
        · have HV := hid hv
          rw [hv] at hcj
          clear hv
          go_wp2
          go_roundw
          case rel => exact ⟨j, A * 2, B, by omega, rfl, hid (by rw [S1.out, HV.out, hA.out]; simp; omega), hid (by rw [S2.out, hBw.out]), hb.setCell (by simp; omega) _, by simpa using hsz, fun i hi => (off1 (by omega)).trans (HC.out i hi), (off1 (by omega)).trans (z0), (off1 (by omega)).trans (z1), by simp [z2], by simp [z3], by rw [World.cell?_setCell_same _ _ _ m0]; simp, (off2 (by omega)).trans m1, by simp [m2], by simp [m3]⟩
          case measure => simp [intOf]
        · have HV := hid hv
          rw [hv] at hcj
          clear hv
          go_wp2
          go_roundw
          case rel => exact ⟨j, A * 2 + 1, B, by omega, rfl, hid (by rw [S1.out, HV.out, hA.out]; simp; omega), hid (by rw [S2.out, hBw.out]), (hb.setCell (by simp; omega) _).setCell (by simp; omega) _, by simpa using hsz, fun i hi => (off1 (by omega)).trans ((off1 (by omega)).trans (HC.out i hi)), (off1 (by omega)).trans ((off1 (by omega)).trans (z0)), (off1 (by omega)).trans ((off1 (by omega)).trans (z1)), by simp [z2], by simp [z3], by rw [World.cell?_setCell_same _ _ _ (World.cell?_setCell_same _ _ _ m0)]; simp, (off2 (by omega)).trans ((off2 (by omega)).trans m1), by simp [m2], by simp [m3]⟩
          case measure => simp [intOf]
      · have q1 : (j : Int) / 64 = 1 := by omega
        have q2 : (j : Int).tdiv 64 = 1 := by rw [Int.tdiv_eq_ediv_of_nonneg (by omega)]; exact q1
        have hB1 : B < 9223372036854775808 := by rw [hBw.out]; exact wB_bound f (by omega) (by omega)
        obtain ⟨s1, s2⟩ := wB_ge f (show 64 ≤ j by omega) (by omega)
        have S1 := hid s1
        have S2 := hid s2
        clear s1 s2 hc
        cases hv : f j
        · have HV := hid hv
          rw [hv] at hcj
          clear hv
          go_wp2
          go_roundw
          case rel => exact ⟨j, A, B * 2, by omega, rfl, hid (by rw [S1.out, hA.out]), hid (by rw [S2.out, HV.out, hBw.out]; simp; omega), hb.setCell (by simp; omega) _, by simpa using hsz, fun i hi => (off1 (by omega)).trans (HC.out i hi), (off1 (by omega)).trans (z0), (off1 (by omega)).trans (z1), by simp [z2], by simp [z3], (off2 (by omega)).trans m0, by rw [World.cell?_setCell_same _ _ _ m1]; simp, by simp [m2], by simp [m3]⟩
          case measure => simp [intOf]
        · have HV := hid hv
          rw [hv] at hcj
          clear hv
          go_wp2
          go_roundw
          case rel => exact ⟨j, A, B * 2 + 1, by omega, rfl, hid (by rw [S1.out, hA.out]), hid (by rw [S2.out, HV.out, hBw.out]; simp; omega), (hb.setCell (by simp; omega) _).setCell (by simp; omega) _, by simpa using hsz, fun i hi => (off1 (by omega)).trans ((off1 (by omega)).trans (HC.out i hi)), (off1 (by omega)).trans ((off1 (by omega)).trans (z0)), (off1 (by omega)).trans ((off1 (by omega)).trans (z1)), by simp [z2], by simp [z3], (off2 (by omega)).trans ((off2 (by omega)).trans m0), by rw [World.cell?_setCell_same _ _ _ (World.cell?_setCell_same _ _ _ m1)]; simp, by simp [m2], by simp [m3]⟩
          case measure => simp [intOf]
end Go.Proofs.Ytjjahefedpfnaaa
