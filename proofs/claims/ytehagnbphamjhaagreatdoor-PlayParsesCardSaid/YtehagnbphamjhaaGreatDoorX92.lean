/- Parts of the proof: X92. -/
import Derived.Test.YtehagnbphamjhaaGreatDoorGPlayBack30
namespace Go.Proofs.YtehagnbphamjhaaGreatDoor
open Go.RowKit
/-! ### layout: Check, great, small, Fits -/
def chkL (b : Bool) : Int := if b then 0 else 1
structure BndOk (b : Bnd) : Prop where
  l : -9223372036854775808 ≤ b.least ∧ b.least ≤ 9223372036854775807
  m : -9223372036854775808 ≤ b.most ∧ b.most ≤ 9223372036854775807
structure BndBox (w : World) (g : Nat) (b : Bnd) : Prop where
  c0 : w.cell? ⟨g, 0, none⟩ = some (.int .i64 b.least)
  c1 : w.cell? ⟨g, 1, none⟩ = some (.int .i64 b.most)
  c2 : w.cell? ⟨g, 2, none⟩ = some (.int .i64 b.tmo)
theorem BndBox.lt {w : World} {g : Nat} {b : Bnd} (h : BndBox w g b) : g < w.heap.size := World.block_lt_of_cell? w _ h.c0
theorem BndBox.ext {w w' : World} {g B : Nat} {b : Bnd} (h : BndBox w g b) (hb : Below B w w') (hB : g < B) : BndBox w' g b :=
  ⟨(hb.cell (by exact hB)).trans h.c0, (hb.cell (by exact hB)).trans h.c1, (hb.cell (by exact hB)).trans h.c2⟩
theorem BndBox.made {b : Bnd} (w : World) : BndBox (w.alloc (.cells #[.int .i64 b.least, .int .i64 b.most, .int .i64 b.tmo] 60)) w.heap.size b := ⟨by simp, by simp, by simp⟩
set_option maxHeartbeats 800000 in
theorem lcheck_any {b : Bnd} {w : World} (hb : BndOk b) :
    Calls Tryz.prog 136 #[.agg #[.int .i64 b.least, .int .i64 b.most, .int .i64 b.tmo]] w fun e w' => e = .returned (.int .i64 (chkL (bchk b))) ∧ Below w.heap.size w w' := by
  have hB : Below w.heap.size w (w.alloc (.cells #[.int .i64 b.least, .int .i64 b.most, .int .i64 b.tmo] 60)) := (Below.refl _ _).alloc (Nat.le_refl _) _
  by_cases h1 : b.least < 1
  · have t1 : decide (b.least < 1) = true := decide_eq_true h1
    have HN : Hid (chkL (bchk b) = 1) := hid (by unfold bchk; rw [decide_eq_false (show ¬ 1 ≤ b.least by omega)]; rfl)
    clear h1
    go_enter Tryz.func136, Tryz.ntmps136
    go_wp2
    go_ret
    exact ⟨by rw [HN.out]; rfl, hB⟩
  have t1 : decide (b.least < 1) = false := decide_eq_false h1
  by_cases h2 : 8 < b.most
  · have t2 : decide (8 < b.most) = true := decide_eq_true h2
    have t3 : decide (b.most > 8) = true := decide_eq_true h2
    have HN : Hid (chkL (bchk b) = 1) := hid (by unfold bchk; rw [decide_eq_false (show ¬ b.most ≤ 8 by omega)]; simp [chkL])
    clear h1 h2
    go_enter Tryz.func136, Tryz.ntmps136
    go_wp2
    go_ret
    exact ⟨by rw [HN.out]; rfl, hB⟩
  have t2 : decide (8 < b.most) = false := decide_eq_false h2
  have t3 : decide (b.most > 8) = false := decide_eq_false h2
  have hm := hb.m
  have h0 : ((2 : Int) == 0) = false := rfl
  obtain ⟨q, hq⟩ : ∃ q, b.most.tdiv 2 = q := ⟨_, rfl⟩
  have hq2 : (0 ≤ b.most → b.most = 2 * q ∨ b.most = 2 * q + 1) ∧ (b.most < 0 → q ≤ 0) ∧ -9223372036854775808 ≤ q ∧ q ≤ 4 := by
    have e1 := Int.mul_tdiv_add_tmod b.most 2
    rw [hq] at e1
    have e2 := Int.tmod_lt_of_pos b.most (show (0 : Int) < 2 by decide)
    have e3 : -2 < b.most.tmod 2 := by
      have := Int.tmod_lt_of_pos (-b.most) (show (0 : Int) < 2 by decide)
      rw [Int.neg_tmod] at this; omega
    refine ⟨fun hp => ?_, fun hp => by omega, by omega, by omega⟩
    have := Int.tmod_nonneg 2 hp
    omega
  have hwr : IntKind.i64.wrap (b.most.tdiv 2) = q := by rw [hq, IntKind.wrap_i64] <;> omega
  by_cases h3 : q < b.least
  · have u1 : decide (q < b.least) = true := decide_eq_true h3
    have u2 : decide (b.least > q) = true := decide_eq_true h3
    have HN : Hid (chkL (bchk b) = 1) := hid (by unfold bchk; rw [decide_eq_false (show ¬ 2 * b.least ≤ b.most by omega)]; simp [chkL])
    clear h1 h2 h3 hq hq2 hm
    go_enter Tryz.func136, Tryz.ntmps136
    go_wp2
    go_ret
    exact ⟨by rw [HN.out]; rfl, hB⟩
  · have u1 : decide (q < b.least) = false := decide_eq_false h3
    have u2 : decide (b.least > q) = false := decide_eq_false h3
    have HN : Hid (chkL (bchk b) = 0) := hid (by
      unfold bchk
      have a1 : decide (1 ≤ b.least) = true := decide_eq_true (by omega)
      have a2 : decide (b.most ≤ 8) = true := decide_eq_true (by omega)
      have a3 : decide (2 * b.least ≤ b.most) = true := decide_eq_true (by omega)
      rw [a1, a2, a3]; rfl)
    clear h1 h2 h3 hq hq2 hm
    go_enter Tryz.func136, Tryz.ntmps136
    go_wp2
    go_ret
    exact ⟨by rw [HN.out]; rfl, hB⟩
theorem great1_any {b : Bnd} {a : Option Addr} {c g : Nat} {l : List Pid} {w : World} {r : Bool} (hr : Hid (gtL b l = r)) (hbx : BndBox w g b) :
    Calls Tryz.prog 348 #[.slice a l.length c, .pointer (some ⟨g, 0, none⟩)] w fun e w' => e = .returned (.bool r) ∧ w = w' := by
  have hc1 := hbx.c1
  have t1 : decide (b.most < (l.length : Int)) = r := hr.out
  have t2 : decide ((l.length : Int) > b.most) = r := hr.out
  clear hr
  go_enter Tryz.func348, Tryz.ntmps348
  go_wp2
  go_ret
  exact ⟨rfl, rfl⟩
set_option maxHeartbeats 800000 in
theorem ixF_great {b : Bnd} {a : Option Addr} {c g : Nat} {ls : LL} {w : World} (hn : ls.length ≤ 70368744177664) (hrow : LeafRow w a ls) (hbx : BndBox w g b) :
    Calls Tryz.prog 347 #[.slice a ls.length c, .func (.func 348) #[] #[.pointer (some ⟨g, 0, none⟩)]] w fun e w' => e = .returned (.int .i64 (fixFrom (gtL b) ls 0)) ∧ Below w.heap.size w w' := by
  have HBX := hid hbx
  go_enter Tryz.func347, Tryz.ntmps347
  go_wp2
  go_loopw [4, 8] (fun r i wr => r = .int .i64 0 ∧ ∃ k : Nat, k ≤ ls.length ∧ i = .int .i64 k ∧ Hid (fixFrom (gtL b) ls 0 = fixFrom (gtL b) (ls.drop k) k) ∧ Below w.heap.size w wr) (fun _ i _ => ls.length - (intOf i).toNat)
  case atStart => exact ⟨rfl, 0, Nat.zero_le _, rfl, rfl, Below.refl _ _⟩
  case round =>
    obtain ⟨rfl, k, hk, rfl, ha, hb⟩ := hrel
    by_cases hlt : k < ls.length
    · obtain ⟨bb, off, ai, ci, l, rfl, hx, d1, d2⟩ := hrow.at hb rfl hlt
      have hbw := HBX.out.ext hb HBX.out.lt
      obtain ⟨r, hr⟩ : ∃ r, gtL b l = r := ⟨_, rfl⟩
      have C1 := hid (great1_any (a := ai) (c := ci) (hid hr) hbw)
      have hd := fixFrom_drop (f := gtL b) hlt hx
      rw [hr] at hd
      have HD := hid hd
      clear hx hrow hr hd hbw d2 hbx
      cases r
      case true =>
        go_wp2_with (go_at_call 348; (with_reducible refine C1.out.mono ?_); rintro e w1 ⟨rfl, rfl⟩)
        go_ret
        exact ⟨ret_int (by rw [ha.out, HD.out]; simp), hb⟩
      case false =>
        go_wp2_with (go_at_call 348; (with_reducible refine C1.out.mono ?_); rintro e w1 ⟨rfl, rfl⟩)
        go_roundw
        case rel => exact ⟨rfl, k + 1, by omega, by go_num, (ha.out.trans (by rw [HD.out]; simp) : _), hb⟩
        case measure => simp [intOf]; omega
    · go_wp2
      go_ret
      exact ⟨ret_int (by rw [ha.out, fixFrom_end (by omega)]), hb⟩
theorem small1_any {b : Bnd} {a : Option Addr} {c g : Nat} {l : List Pid} {w : World} {r : Bool} (hr : Hid (ltL b l = r)) (hbx : BndBox w g b) :
    Calls Tryz.prog 349 #[.slice a l.length c, .pointer (some ⟨g, 0, none⟩)] w fun e w' => e = .returned (.bool r) ∧ w = w' := by
  have hc0 := hbx.c0
  have t1 : decide ((l.length : Int) < b.least) = r := hr.out
  have t2 : decide ((l.length : Int) < b.least) = r := hr.out
  clear hr
  go_enter Tryz.func349, Tryz.ntmps349
  go_wp2
  go_ret
  exact ⟨rfl, rfl⟩
set_option maxHeartbeats 800000 in
theorem ixF_small {b : Bnd} {a : Option Addr} {c g : Nat} {ls : LL} {w : World} (hn : ls.length ≤ 70368744177664) (hrow : LeafRow w a ls) (hbx : BndBox w g b) :
    Calls Tryz.prog 347 #[.slice a ls.length c, .func (.func 349) #[] #[.pointer (some ⟨g, 0, none⟩)]] w fun e w' => e = .returned (.int .i64 (fixFrom (ltL b) ls 0)) ∧ Below w.heap.size w w' := by
  have HBX := hid hbx
  go_enter Tryz.func347, Tryz.ntmps347
  go_wp2
  go_loopw [4, 8] (fun r i wr => r = .int .i64 0 ∧ ∃ k : Nat, k ≤ ls.length ∧ i = .int .i64 k ∧ Hid (fixFrom (ltL b) ls 0 = fixFrom (ltL b) (ls.drop k) k) ∧ Below w.heap.size w wr) (fun _ i _ => ls.length - (intOf i).toNat)
  case atStart => exact ⟨rfl, 0, Nat.zero_le _, rfl, rfl, Below.refl _ _⟩
  case round =>
    obtain ⟨rfl, k, hk, rfl, ha, hb⟩ := hrel
    by_cases hlt : k < ls.length
    · obtain ⟨bb, off, ai, ci, l, rfl, hx, d1, d2⟩ := hrow.at hb rfl hlt
      have hbw := HBX.out.ext hb HBX.out.lt
      obtain ⟨r, hr⟩ : ∃ r, ltL b l = r := ⟨_, rfl⟩
      have C1 := hid (small1_any (a := ai) (c := ci) (hid hr) hbw)
      have hd := fixFrom_drop (f := ltL b) hlt hx
      rw [hr] at hd
      have HD := hid hd
      clear hx hrow hr hd hbw d2 hbx
      cases r
      case true =>
        go_wp2_with (go_at_call 349; (with_reducible refine C1.out.mono ?_); rintro e w1 ⟨rfl, rfl⟩)
        go_ret
        exact ⟨ret_int (by rw [ha.out, HD.out]; simp), hb⟩
      case false =>
        go_wp2_with (go_at_call 349; (with_reducible refine C1.out.mono ?_); rintro e w1 ⟨rfl, rfl⟩)
        go_roundw
        case rel => exact ⟨rfl, k + 1, by omega, by go_num, (ha.out.trans (by rw [HD.out]; simp) : _), hb⟩
        case measure => simp [intOf]; omega
    · go_wp2
      go_ret
      exact ⟨ret_int (by rw [ha.out, fixFrom_end (by omega)]), hb⟩
set_option maxHeartbeats 800000 in
theorem lgreat_any {b : Bnd} {a : Option Addr} {c : Nat} {ls : LL} {w : World} (hn : ls.length ≤ 70368744177664) (hrow : LeafRow w a ls) :
    Calls Tryz.prog 254 #[.slice a ls.length c, .agg #[.int .i64 b.least, .int .i64 b.most, .int .i64 b.tmo]] w fun e w' => e = .returned (.int .i64 (greatL b ls)) ∧ Below w.heap.size w w' := by
  obtain ⟨W1, hW1⟩ : ∃ W1, w.alloc (.cells #[.int .i64 b.least, .int .i64 b.most, .int .i64 b.tmo] 60) = W1 := ⟨_, rfl⟩
  have hB1 : Below w.heap.size w W1 := by rw [← hW1]; exact (Below.refl _ _).alloc (Nat.le_refl _) _
  have hbx : BndBox W1 w.heap.size b := by rw [← hW1]; exact BndBox.made w
  have C1 := hid (ixF_great (c := c) hn (hrow.ext hB1) hbx)
  have HB1 := hid hB1
  clear hB1 hbx hrow
  go_enter Tryz.func254, Tryz.ntmps254
  go_wp2_with (go_at_call 347; (with_reducible refine C1.out.mono ?_); rintro e w1 ⟨rfl, hb1⟩)
  go_ret
  exact ⟨rfl, HB1.out.trans (hb1.mono HB1.out.size)⟩
set_option maxHeartbeats 800000 in
theorem lsmall_any {b : Bnd} {a : Option Addr} {c : Nat} {ls : LL} {w : World} (hn : ls.length ≤ 70368744177664) (hrow : LeafRow w a ls) :
    Calls Tryz.prog 255 #[.slice a ls.length c, .agg #[.int .i64 b.least, .int .i64 b.most, .int .i64 b.tmo]] w fun e w' => e = .returned (.int .i64 (smallL b ls)) ∧ Below w.heap.size w w' := by
  obtain ⟨W1, hW1⟩ : ∃ W1, w.alloc (.cells #[.int .i64 b.least, .int .i64 b.most, .int .i64 b.tmo] 60) = W1 := ⟨_, rfl⟩
  have hB1 : Below w.heap.size w W1 := by rw [← hW1]; exact (Below.refl _ _).alloc (Nat.le_refl _) _
  have hbx : BndBox W1 w.heap.size b := by rw [← hW1]; exact BndBox.made w
  have C1 := hid (ixF_small (c := c) hn (hrow.ext hB1) hbx)
  have HB1 := hid hB1
  clear hB1 hbx hrow
  by_cases h2 : ls.length < 2
  · have t1 : decide (ls.length < 2) = true := decide_eq_true h2
    have t2 : decide ((ls.length : Int) < 2) = true := decide_eq_true (by omega)
    have HE : Hid (smallL b ls = -1) := hid (by unfold smallL; rw [if_pos h2])
    clear h2
    go_enter Tryz.func255, Tryz.ntmps255
    go_wp2
    go_ret
    exact ⟨by rw [HE.out]; rfl, HB1.out⟩
  · have t1 : decide (ls.length < 2) = false := decide_eq_false h2
    have t2 : decide ((ls.length : Int) < 2) = false := decide_eq_false (by omega)
    have HE : Hid (smallL b ls = fixFrom (ltL b) ls 0) := hid (by unfold smallL; rw [if_neg h2])
    clear h2
    go_enter Tryz.func255, Tryz.ntmps255
    go_wp2_with (go_at_call 347; (with_reducible refine C1.out.mono ?_); rintro e w1 ⟨rfl, hb1⟩)
    go_ret
    exact ⟨by rw [HE.out]; rfl, HB1.out.trans (hb1.mono HB1.out.size)⟩
end Go.Proofs.YtehagnbphamjhaaGreatDoor

