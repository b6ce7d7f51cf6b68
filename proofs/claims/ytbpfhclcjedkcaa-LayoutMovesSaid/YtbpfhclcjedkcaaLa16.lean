/- Parts of the proof: X92 X93 ShelfD X94 X95 X96. -/
import Derived.Deep.DeepCutAuto
import Derived.Shelf.SlicesE.Delete
import Derived.Test.YtbpfhclcjedkcaaChecked
import Derived.Lib.Bytes
import Derived.Lib.EndianBits
import Derived.Test.YtbpfhclcjedkcaaLa10
import Derived.Test.YtbpfhclcjedkcaaLa15
import Derived.Test.YtbpfhclcjedkcaaLa3
import Derived.Test.YtbpfhclcjedkcaaLa6
namespace Go.Proofs.Ytbpfhclcjedkcaa
open Go.RowKit
/-! ### layout: Check, great, small, Fits -/
def chkL (b : Bool) : Int := if b then 0 else 1
structure BndOk (b : Bnd) : Prop where
  l : -9223372036854775808 ≤ b.least ∧ b.least ≤ 9223372036854775807
  m : -9223372036854775808 ≤ b.most ∧ b.most ≤ 9223372036854775807
structure BndBox (w : World) (g : Nat) (b : Bnd) : Prop where
  c0 : w.cell? ⟨g, 0, none⟩ = some (.int .i64 b.least)
  c1 : w.cell? ⟨g, 1, none⟩ = some (.int .i64 b.most)
  c2 : w.cell? ⟨g, 2, none⟩ = some (.int .i64 b.tmo)
theorem BndBox.lt {w : World} {g : Nat} {b : Bnd} (h : BndBox w g b) : g < w.heap.size := World.block_lt_of_cell? w _ h.c0
theorem BndBox.ext {w w' : World} {g B : Nat} {b : Bnd} (h : BndBox w g b) (hb : Below B w w') (hB : g < B) : BndBox w' g b :=
  ⟨(hb.cell (by exact hB)).trans h.c0, (hb.cell (by exact hB)).trans h.c1, (hb.cell (by exact hB)).trans h.c2⟩
theorem BndBox.made {b : Bnd} (w : World) : BndBox (w.alloc (.cells #[.int .i64 b.least, .int .i64 b.most, .int .i64 b.tmo] 117)) w.heap.size b := ⟨by simp, by simp, by simp⟩
set_option maxHeartbeats 800000 in
theorem lcheck_any {b : Bnd} {w : World} (hb : BndOk b) :
    Calls Try.prog 163 #[.agg #[.int .i64 b.least, .int .i64 b.most, .int .i64 b.tmo]] w fun e w' => e = .returned (.int .i64 (chkL (bchk b))) ∧ Below w.heap.size w w' := by
  have hB : Below w.heap.size w (w.alloc (.cells #[.int .i64 b.least, .int .i64 b.most, .int .i64 b.tmo] 117)) := (Below.refl _ _).alloc (Nat.le_refl _) _
  by_cases h1 : b.least < 1
  · have t1 : decide (b.least < 1) = true := decide_eq_true h1
    have HN : Hid (chkL (bchk b) = 1) := hid (by unfold bchk; rw [decide_eq_false (show ¬ 1 ≤ b.least by omega)]; rfl)
    clear h1
    go_enter Try.func163, Try.ntmps163
    go_wp2
    go_ret
    exact ⟨by rw [HN.out]; rfl, hB⟩
  have t1 : decide (b.least < 1) = false := decide_eq_false h1
  by_cases h2 : 8 < b.most
  · have t2 : decide (8 < b.most) = true := decide_eq_true h2
    have t3 : decide (b.most > 8) = true := decide_eq_true h2
    have HN : Hid (chkL (bchk b) = 1) := hid (by unfold bchk; rw [decide_eq_false (show ¬ b.most ≤ 8 by omega)]; simp [chkL])
    clear h1 h2
    go_enter Try.func163, Try.ntmps163
    go_wp2
    go_ret
    exact ⟨by rw [HN.out]; rfl, hB⟩
  have t2 : decide (8 < b.most) = false := decide_eq_false h2
  have t3 : decide (b.most > 8) = false := decide_eq_false h2
  have hm := hb.m
  have h0 : ((2 : Int) == 0) = false := rfl
  obtain ⟨q, hq⟩ : ∃ q, b.most.tdiv 2 = q := ⟨_, rfl⟩
  have hq2 : (0 ≤ b.most → b.most = 2 * q ∨ b.most = 2 * q + 1) ∧ (b.most < 0 → q ≤ 0) ∧ -9223372036854775808 ≤ q ∧ q ≤ 4 := by
    have e1 := Int.mul_tdiv_add_tmod b.most 2
    rw [hq] at e1
    have e2 := Int.tmod_lt_of_pos b.most (show (0 : Int) < 2 by decide)
    have e3 : -2 < b.most.tmod 2 := by
      have := Int.tmod_lt_of_pos (-b.most) (show (0 : Int) < 2 by decide)
      rw [Int.neg_tmod] at this; omega
    refine ⟨fun hp => ?_, fun hp => by omega, by omega, by omega⟩
    have := Int.tmod_nonneg 2 hp
    omega
  have hwr : IntKind.i64.wrap (b.most.tdiv 2) = q := by rw [hq, IntKind.wrap_i64] <;> omega
  by_cases h3 : q < b.least
  · have u1 : decide (q < b.least) = true := decide_eq_true h3
    have u2 : decide (b.least > q) = true := decide_eq_true h3
    have HN : Hid (chkL (bchk b) = 1) := hid (by unfold bchk; rw [decide_eq_false (show ¬ 2 * b.least ≤ b.most by omega)]; simp [chkL])
    clear h1 h2 h3 hq hq2 hm
    go_enter Try.func163, Try.ntmps163
    go_wp2
    go_ret
    exact ⟨by rw [HN.out]; rfl, hB⟩
  · have u1 : decide (q < b.least) = false := decide_eq_false h3
    have u2 : decide (b.least > q) = false := decide_eq_false h3
    have HN : Hid (chkL (bchk b) = 0) := hid (by
      unfold bchk
      have a1 : decide (1 ≤ b.least) = true := decide_eq_true (by omega)
      have a2 : decide (b.most ≤ 8) = true := decide_eq_true (by omega)
      have a3 : decide (2 * b.least ≤ b.most) = true := decide_eq_true (by omega)
      rw [a1, a2, a3]; rfl)
    clear h1 h2 h3 hq hq2 hm
    go_enter Try.func163, Try.ntmps163
    go_wp2
    go_ret
    exact ⟨by rw [HN.out]; rfl, hB⟩
theorem great1_any {b : Bnd} {a : Option Addr} {c g : Nat} {l : List Pid} {w : World} {r : Bool} (hr : Hid (gtL b l = r)) (hbx : BndBox w g b) :
    Calls Try.prog 225 #[.slice a l.length c, .pointer (some ⟨g, 0, none⟩)] w fun e w' => e = .returned (.bool r) ∧ w = w' := by
  have hc1 := hbx.c1
  have t1 : decide (b.most < (l.length : Int)) = r := hr.out
  have t2 : decide ((l.length : Int) > b.most) = r := hr.out
  clear hr
  go_enter Try.func225, Try.ntmps225
  go_wp2
  go_ret
  exact ⟨rfl, rfl⟩
set_option maxHeartbeats 800000 in
theorem ixF_great {b : Bnd} {a : Option Addr} {c g : Nat} {ls : LL} {w : World} (hn : ls.length ≤ 70368744177664) (hrow : LeafRow w a ls) (hbx : BndBox w g b) :
    Calls Try.prog 175 #[.slice a ls.length c, .func (.func 225) #[] #[.pointer (some ⟨g, 0, none⟩)]] w fun e w' => e = .returned (.int .i64 (fixFrom (gtL b) ls 0)) ∧ Below w.heap.size w w' := by
  have HBX := hid hbx
  go_enter Try.func175, Try.ntmps175
  go_wp2
  go_loopw [4, 8] (fun r i wr => r = .int .i64 0 ∧ ∃ k : Nat, k ≤ ls.length ∧ i = .int .i64 k ∧ Hid (fixFrom (gtL b) ls 0 = fixFrom (gtL b) (ls.drop k) k) ∧ Below w.heap.size w wr) (fun _ i _ => ls.length - (intOf i).toNat)
  case atStart => exact ⟨rfl, 0, Nat.zero_le _, rfl, rfl, Below.refl _ _⟩
  case round =>
    obtain ⟨rfl, k, hk, rfl, ha, hb⟩ := hrel
    by_cases hlt : k < ls.length
    · obtain ⟨bb, off, ai, ci, l, rfl, hx, d1, d2⟩ := hrow.at hb rfl hlt
      have hbw := HBX.out.ext hb HBX.out.lt
      obtain ⟨r, hr⟩ : ∃ r, gtL b l = r := ⟨_, rfl⟩
      have C1 := hid (great1_any (a := ai) (c := ci) (hid hr) hbw)
      have hd := fixFrom_drop (f := gtL b) hlt hx
      rw [hr] at hd
      have HD := hid hd
      clear hx hrow hr hd hbw d2 hbx
      cases r
      case true =>
        go_wp2_with (go_at_call 225; (with_reducible refine C1.out.mono ?_); rintro e w1 ⟨rfl, rfl⟩)
        go_ret
        exact ⟨ret_int (by rw [ha.out, HD.out]; simp), hb⟩
      case false =>
        go_wp2_with (go_at_call 225; (with_reducible refine C1.out.mono ?_); rintro e w1 ⟨rfl, rfl⟩)
        go_roundw
        case rel => exact ⟨rfl, k + 1, by omega, by go_num, (ha.out.trans (by rw [HD.out]; simp) : _), hb⟩
        case measure => simp [intOf]; omega
    · go_wp2
      go_ret
      exact ⟨ret_int (by rw [ha.out, fixFrom_end (by omega)]), hb⟩
theorem small1_any {b : Bnd} {a : Option Addr} {c g : Nat} {l : List Pid} {w : World} {r : Bool} (hr : Hid (ltL b l = r)) (hbx : BndBox w g b) :
    Calls Try.prog 226 #[.slice a l.length c, .pointer (some ⟨g, 0, none⟩)] w fun e w' => e = .returned (.bool r) ∧ w = w' := by
  have hc0 := hbx.c0
  have t1 : decide ((l.length : Int) < b.least) = r := hr.out
  have t2 : decide ((l.length : Int) < b.least) = r := hr.out
  clear hr
  go_enter Try.func226, Try.ntmps226
  go_wp2
  go_ret
  exact ⟨rfl, rfl⟩
set_option maxHeartbeats 800000 in
theorem ixF_small {b : Bnd} {a : Option Addr} {c g : Nat} {ls : LL} {w : World} (hn : ls.length ≤ 70368744177664) (hrow : LeafRow w a ls) (hbx : BndBox w g b) :
    Calls Try.prog 175 #[.slice a ls.length c, .func (.func 226) #[] #[.pointer (some ⟨g, 0, none⟩)]] w fun e w' => e = .returned (.int .i64 (fixFrom (ltL b) ls 0)) ∧ Below w.heap.size w w' := by
  have HBX := hid hbx
  go_enter Try.func175, Try.ntmps175
  go_wp2
  go_loopw [4, 8] (fun r i wr => r = .int .i64 0 ∧ ∃ k : Nat, k ≤ ls.length ∧ i = .int .i64 k ∧ Hid (fixFrom (ltL b) ls 0 = fixFrom (ltL b) (ls.drop k) k) ∧ Below w.heap.size w wr) (fun _ i _ => ls.length - (intOf i).toNat)
  case atStart => exact ⟨rfl, 0, Nat.zero_le _, rfl, rfl, Below.refl _ _⟩
  case round =>
    obtain ⟨rfl, k, hk, rfl, ha, hb⟩ := hrel
    by_cases hlt : k < ls.length
    · obtain ⟨bb, off, ai, ci, l, rfl, hx, d1, d2⟩ := hrow.at hb rfl hlt
      have hbw := HBX.out.ext hb HBX.out.lt
      obtain ⟨r, hr⟩ : ∃ r, ltL b l = r := ⟨_, rfl⟩
      have C1 := hid (small1_any (a := ai) (c := ci) (hid hr) hbw)
      have hd := fixFrom_drop (f := ltL b) hlt hx
      rw [hr] at hd
      have HD := hid hd
      clear hx hrow hr hd hbw d2 hbx
      cases r
      case true =>
        go_wp2_with (go_at_call 226; (with_reducible refine C1.out.mono ?_); rintro e w1 ⟨rfl, rfl⟩)
        go_ret
        exact ⟨ret_int (by rw [ha.out, HD.out]; simp), hb⟩
      case false =>
        go_wp2_with (go_at_call 226; (with_reducible refine C1.out.mono ?_); rintro e w1 ⟨rfl, rfl⟩)
        go_roundw
        case rel => exact ⟨rfl, k + 1, by omega, by go_num, (ha.out.trans (by rw [HD.out]; simp) : _), hb⟩
        case measure => simp [intOf]; omega
    · go_wp2
      go_ret
      exact ⟨ret_int (by rw [ha.out, fixFrom_end (by omega)]), hb⟩
set_option maxHeartbeats 800000 in
theorem lgreat_any {b : Bnd} {a : Option Addr} {c : Nat} {ls : LL} {w : World} (hn : ls.length ≤ 70368744177664) (hrow : LeafRow w a ls) :
    Calls Try.prog 171 #[.slice a ls.length c, .agg #[.int .i64 b.least, .int .i64 b.most, .int .i64 b.tmo]] w fun e w' => e = .returned (.int .i64 (greatL b ls)) ∧ Below w.heap.size w w' := by
  obtain ⟨W1, hW1⟩ : ∃ W1, w.alloc (.cells #[.int .i64 b.least, .int .i64 b.most, .int .i64 b.tmo] 117) = W1 := ⟨_, rfl⟩
  have hB1 : Below w.heap.size w W1 := by rw [← hW1]; exact (Below.refl _ _).alloc (Nat.le_refl _) _
  have hbx : BndBox W1 w.heap.size b := by rw [← hW1]; exact BndBox.made w
  have C1 := hid (ixF_great (c := c) hn (hrow.ext hB1) hbx)
  have HB1 := hid hB1
  clear hB1 hbx hrow
  go_enter Try.func171, Try.ntmps171
  go_wp2_with (go_at_call 175; (with_reducible refine C1.out.mono ?_); rintro e w1 ⟨rfl, hb1⟩)
  go_ret
  exact ⟨rfl, HB1.out.trans (hb1.mono HB1.out.size)⟩
set_option maxHeartbeats 800000 in
theorem lsmall_any {b : Bnd} {a : Option Addr} {c : Nat} {ls : LL} {w : World} (hn : ls.length ≤ 70368744177664) (hrow : LeafRow w a ls) :
    Calls Try.prog 172 #[.slice a ls.length c, .agg #[.int .i64 b.least, .int .i64 b.most, .int .i64 b.tmo]] w fun e w' => e = .returned (.int .i64 (smallL b ls)) ∧ Below w.heap.size w w' := by
  obtain ⟨W1, hW1⟩ : ∃ W1, w.alloc (.cells #[.int .i64 b.least, .int .i64 b.most, .int .i64 b.tmo] 117) = W1 := ⟨_, rfl⟩
  have hB1 : Below w.heap.size w W1 := by rw [← hW1]; exact (Below.refl _ _).alloc (Nat.le_refl _) _
  have hbx : BndBox W1 w.heap.size b := by rw [← hW1]; exact BndBox.made w
  have C1 := hid (ixF_small (c := c) hn (hrow.ext hB1) hbx)
  have HB1 := hid hB1
  clear hB1 hbx hrow
  by_cases h2 : ls.length < 2
  · have t1 : decide (ls.length < 2) = true := decide_eq_true h2
    have t2 : decide ((ls.length : Int) < 2) = true := decide_eq_true (by omega)
    have HE : Hid (smallL b ls = -1) := hid (by unfold smallL; rw [if_pos h2])
    clear h2
    go_enter Try.func172, Try.ntmps172
    go_wp2
    go_ret
    exact ⟨by rw [HE.out]; rfl, HB1.out⟩
  · have t1 : decide (ls.length < 2) = false := decide_eq_false h2
    have t2 : decide ((ls.length : Int) < 2) = false := decide_eq_false (by omega)
    have HE : Hid (smallL b ls = fixFrom (ltL b) ls 0) := hid (by unfold smallL; rw [if_neg h2])
    clear h2
    go_enter Try.func172, Try.ntmps172
    go_wp2_with (go_at_call 175; (with_reducible refine C1.out.mono ?_); rintro e w1 ⟨rfl, hb1⟩)
    go_ret
    exact ⟨by rw [HE.out]; rfl, HB1.out.trans (hb1.mono HB1.out.size)⟩
end Go.Proofs.Ytbpfhclcjedkcaa

namespace Go.Proofs.Ytbpfhclcjedkcaa
open Go.RowKit
/-! ### the reference's great, small, fewest; layout.fewest -/
theorem LeafRow.at2 {w : World} {b off : Nat} {ls : LL} (h : LeafRow w (some ⟨b, off, none⟩) ls) {k : Nat} (hk : k < ls.length) :
    ∃ ai ci l, l = ls[k] ∧ w.cell? ⟨b, off + k, none⟩ = some (.slice ai l.length ci) ∧ PidRow w ai l := by
  obtain ⟨b', off', ai, ci, l, e, h1, h2, h3⟩ := h.at (Below.refl _ _) rfl hk
  cases e
  exact ⟨ai, ci, l, h1, h2, h3⟩
theorem fewest1_any {a b : Option Addr} {c d n m : Nat} {w : World} {r : Bool} (hr : Hid (decide (n < m) = r)) :
    Calls Try.prog 238 #[.slice a n c, .slice b m d] w fun e w' => e = .returned (.bool r) ∧ w = w' := by
  have t1 : decide ((n : Int) < (m : Int)) = r := by rw [← hr.out]; congr 1; simp
  have t2 : decide (n < m) = r := hr.out
  clear hr
  go_enter Try.func238, Try.ntmps238
  go_wp2
  go_ret
  exact ⟨rfl, rfl⟩
set_option maxRecDepth 100000 in
set_option maxHeartbeats 6400000 in
theorem best_any {a : Option Addr} {c : Nat} {ls : LL} {w : World} (hn : ls.length ≤ 70368744177664) (hrow : LeafRow w a ls) :
    Calls Try.prog 237 #[.slice a ls.length c, .func (.func 238) #[] #[]] w fun e w' => e = .returned (.int .i64 (fewL ls (-1))) ∧ w = w' := by
  go_enter Try.func237, Try.ntmps237
  go_wp2
  go_loopw [5, 10] (fun z i wr => ∃ k : Nat, k ≤ ls.length ∧ z = .int .i64 (fewTo ls (-1) k) ∧ i = .int .i64 k ∧ wr = w) (fun _ i _ => ls.length - (intOf i).toNat)
  case atStart => exact ⟨0, Nat.zero_le _, rfl, rfl, rfl⟩
  case round =>
    obtain ⟨k, hk, rfl, rfl, rfl⟩ := hrel
    by_cases hlt : k < ls.length
    · obtain ⟨bb, off, ai, ci, l, rfl, hx, d1, -⟩ := hrow.at (Below.refl _ _) rfl hlt
      have hlk : lenAt ls k = l.length := by unfold lenAt; rw [hx]; simp [List.getD, hlt]
      have hstep : fewTo ls (-1) (k + 1) = fewStep ls (-1) (fewTo ls (-1) k) k := rfl
      have hcase := fewTo_is ls (-1) k
      obtain ⟨z, hz⟩ : ∃ z, fewTo ls (-1) k = z := ⟨_, rfl⟩
      rw [hz] at hstep hcase
      rw [hz]
      have hkb : ¬ (k : Int) = -1 := by omega
      by_cases hz0 : z < 0
      · have z1 : decide (z < 0) = true := decide_eq_true hz0
        have HV : Hid (fewTo ls (-1) (k + 1) = (k : Int)) := hid (by rw [hstep]; unfold fewStep; rw [if_pos ⟨hkb, .inl hz0⟩])
        clear hkb hstep hcase hz hx hlk hz0
        go_wp2
        go_roundw
        case rel => exact ⟨k + 1, by omega, by rw [HV.out], by go_num, trivial⟩
        case measure => simp [intOf]; omega
      have z1 : decide (z < 0) = false := decide_eq_false hz0
      obtain ⟨j, hj1, hj2⟩ : ∃ j : Nat, j < k ∧ z = (j : Int) := by
        rcases hcase with ⟨h1, -⟩ | ⟨j, h1, h2, -⟩
        · omega
        · exact ⟨j, h1, h2⟩
      subst hj2
      obtain ⟨aj, cj, lj, hxj, dj, -⟩ := hrow.at2 (k := j) (by omega)
      have hlj : lenAt ls j = lj.length := by unfold lenAt; rw [hxj]; simp [List.getD, show j < ls.length by omega]
      have hjl : j < ls.length := by omega
      obtain ⟨r, hr⟩ : ∃ r, decide (l.length < lj.length) = r := ⟨_, rfl⟩
      have HV : Hid (fewTo ls (-1) (k + 1) = if r = true then (k : Int) else (j : Int)) := hid (by
        rw [hstep]; unfold fewStep
        rw [Int.toNat_natCast, hlk, hlj, ← hr]
        by_cases hc : l.length < lj.length
        · rw [if_pos ⟨hkb, .inr hc⟩, if_pos (decide_eq_true hc)]
        · rw [if_neg (by rintro ⟨-, h | h⟩ <;> omega), if_neg (by simpa using hc)])
      have C1 := fun (W : World) => fewest1_any (a := ai) (b := aj) (c := ci) (d := cj) (w := W) (hid hr)
      have HC := hid C1
      clear C1 hkb hstep hcase hz hx hlk hz0 hr hxj hlj
      cases r
      case true =>
        go_wp2_with (go_at_call 238; (with_reducible refine (HC.out _).mono ?_); rintro e wz ⟨rfl, rfl⟩)
        go_roundw
        case rel => exact ⟨k + 1, by omega, by rw [HV.out]; rfl, by go_num, trivial⟩
        case measure => simp [intOf]; omega
      case false =>
        go_wp2_with (go_at_call 238; (with_reducible refine (HC.out _).mono ?_); rintro e wz ⟨rfl, rfl⟩)
        go_roundw
        case rel => exact ⟨k + 1, by omega, by rw [HV.out]; rfl, by go_num, trivial⟩
        case measure => simp [intOf]; omega
    · go_wp2
      go_ret
      have : k = ls.length := by omega
      exact ⟨ret_int (by rw [this]; rfl), rfl⟩
theorem fewest_any {a : Option Addr} {c : Nat} {ls : LL} {w : World} (hn : ls.length ≤ 70368744177664) (hrow : LeafRow w a ls) :
    Calls Try.prog 216 #[.slice a ls.length c] w fun e w' => e = .returned (.int .i64 (fewL ls (-1))) ∧ w = w' := by
  have C1 := hid (best_any (c := c) hn hrow)
  clear hrow
  go_enter Try.func216, Try.ntmps216
  go_wp2_with (go_at_call 237; (with_reducible refine C1.out.mono ?_); rintro e w1 ⟨rfl, rfl⟩)
  go_ret
  exact ⟨rfl, rfl⟩
end Go.Proofs.Ytbpfhclcjedkcaa

/- The contract of slices.Delete at this program: the numbers, and a field a fact. Printed by the kit. -/
namespace Go.Proofs
open Go.Shelf
def Try.delLeaf_ren : Go.Shelf.Ren := ⟨fun | 45 => 256 | n => n, fun | 22 => 31 | 23 => 30 | 3 => 3 | 4 => 4 | 0 => 0 | n => n, fun | n => n⟩
theorem Try.delLeaf : Go.Proofs.SlLaysE.n45 Try.prog Try.delLeaf_ren := {
  mixed := by kernel_rfl
  f45 := ⟨Try.f256.name, by decide, Try.func256.trans (congrArg some (by kernel_rfl))⟩
  t0 := Try.underlying0
  a0 := Try.isAgg0
  z0 := Try.sizeOf0
  v0 := Try.zeroValue0
  t3 := Try.underlying3
  a3 := Try.isAgg3
  z3 := Try.sizeOf3
  v3 := Try.zeroValue3
  t4 := Try.underlying4
  a4 := Try.isAgg4
  z4 := Try.sizeOf4
  v4 := Try.zeroValue4
  t22 := Try.underlying31
  a22 := Try.isAgg31
  z22 := Try.sizeOf31
  v22 := Try.zeroValue31
  a23 := Try.isAgg30
  z23 := Try.sizeOf30 }
end Go.Proofs

namespace Go.Proofs.Ytbpfhclcjedkcaa
open Go.RowKit
/-! ### leaves: an own row of slices, each an own row of processes, each in a block of its own -/
abbrev Sl := Option Addr × Nat × Nat
def encS (s : Sl) : Value := .slice s.1 s.2.1 s.2.2
def blkS (s : Sl) : Option Nat := s.1.map (·.block)
theorem own_encS (s : Sl) : (encS s).ownBlock = blkS s := by
  obtain ⟨a, n, c⟩ := s
  cases a <;> rfl
structure LLs (w : World) (base : Nat) (v : Value) (cs : List Sl) (ls : LL) : Prop where
  own : w.ownsRow base 30 1 v ls.length (cs.map encS)
  el : ∀ i (h : i < ls.length), ∃ s, cs[i]? = some s ∧ OwnP w base (encS s) ls[i]
  out : ∀ s ∈ cs, ∀ g, blkS s = some g → v.ownBlock ≠ some g
  apart : cs.Pairwise fun a b => ∀ g, blkS a = some g → blkS b ≠ some g
theorem LLs.len {w : World} {base : Nat} {v : Value} {cs : List Sl} {ls : LL} (h : LLs w base v cs ls) : cs.length = ls.length := by
  have := h.own.1
  simpa using this
theorem LLs.nil (w : World) (base : Nat) : LLs w base (.slice none 0 0) [] [] := ⟨World.ownsRow_nil _ _ _ _, fun i h => by simp at h, by simp, List.Pairwise.nil⟩
theorem LLs.toOwnLL {w : World} {base : Nat} {v : Value} {cs : List Sl} {ls : LL} (h : LLs w base v cs ls) : OwnLL w base v ls := by
  refine ⟨cs.map encS, h.own, fun i hi => ?_⟩
  obtain ⟨s, h1, h2⟩ := h.el i hi
  refine ⟨encS s, by rw [List.getElem?_map, h1]; rfl, h2, fun g hg => ?_⟩
  rw [own_encS] at hg
  exact h.out s (List.mem_of_getElem? h1) g hg
theorem LLs.row {w : World} {base : Nat} {v : Value} {cs : List Sl} {ls : LL} (h : LLs w base v cs ls) : ∃ a c, v = .slice a ls.length c ∧ LeafRow w a ls := h.toOwnLL.row
theorem LLs.blk {w : World} {base : Nat} {v : Value} {cs : List Sl} {ls : LL} (h : LLs w base v cs ls) {g : Nat} (hg : v.ownBlock = some g) : base ≤ g ∧ g < w.heap.size := h.toOwnLL.blk hg
theorem ownsRow_mut {G : Nat → Prop} {w w' : World} {base n k : Nat} {e : TypeId} {v : Value} {xs : List Value} (h : w.ownsRow base e k v n xs) (hm : Mut G w w') (hG : ∀ g, v.ownBlock = some g → ¬ G g) : w'.ownsRow base e k v n xs := by
  refine ⟨h.1, ?_⟩
  rcases h.2 with hn | ⟨g, cap, cur, rfl, hbb, hgg, rest⟩
  · exact .inl hn
  · exact .inr ⟨g, cap, cur, rfl, hbb, (hm.block g (Array.getElem?_eq_some_iff.1 hgg).1 (hG g rfl)).trans hgg, rest⟩
theorem LLs.mutN {G : Nat → Prop} {w w' : World} {base : Nat} {v : Value} {cs : List Sl} {ls : LL} (h : LLs w base v cs ls) (hm : Mut G w w') (hv : ∀ g, v.ownBlock = some g → ¬ G g) (hc : ∀ s ∈ cs, ∀ g, blkS s = some g → ¬ G g) : LLs w' base v cs ls :=
  ⟨ownsRow_mut h.own hm hv, fun i hi => by
    obtain ⟨s, h1, h2⟩ := h.el i hi
    exact ⟨s, h1, h2.mutN hm (fun g hg => hc s (List.mem_of_getElem? h1) g (by rw [← own_encS]; exact hg))⟩, h.out, h.apart⟩
theorem LLs.elB {w : World} {base : Nat} {v : Value} {cs : List Sl} {ls : LL} (h : LLs w base v cs ls) {s : Sl} (hs : s ∈ cs) {g : Nat} (hg : blkS s = some g) : base ≤ g ∧ g < w.heap.size := by
  obtain ⟨i, hi, e⟩ := List.mem_iff_getElem.1 hs
  obtain ⟨s', h1, h2⟩ := h.el i (by rw [← h.len]; exact hi)
  have : s' = s := by rw [List.getElem?_eq_getElem hi] at h1; cases h1; exact e
  subst this
  exact h2.blk (by rw [own_encS]; exact hg)
theorem LLs.mutT {G : Nat → Prop} {w w' : World} {base : Nat} {v : Value} {cs : List Sl} {ls : LL} (h : LLs w base v cs ls) (hm : Mut G w w') (hG : ∀ k, G k → k < base) : LLs w' base v cs ls :=
  h.mutN hm (fun g hg hk => by have := (h.blk hg).1; have := hG g hk; omega) (fun s hs g hg hk => by have := (h.elB hs hg).1; have := hG g hk; omega)
theorem LLs.ext {w w' : World} {base : Nat} {v : Value} {cs : List Sl} {ls : LL} (h : LLs w base v cs ls) (hb : Below w.heap.size w w') : LLs w' base v cs ls :=
  h.mutN (G := fun _ => False) (Mut.of_below hb) (fun _ _ e => e) (fun _ _ _ _ e => e)
theorem LLs.mono {w : World} {b b' : Nat} {v : Value} {cs : List Sl} {ls : LL} (h : LLs w b v cs ls) (hb : b' ≤ b) : LLs w b' v cs ls := by
  refine ⟨⟨h.own.1, ?_⟩, fun i hi => ?_, h.out, h.apart⟩
  · rcases h.own.2 with hn | ⟨g, cap, cur, rfl, hbb, rest⟩
    · exact .inl hn
    · exact .inr ⟨g, cap, cur, rfl, by omega, rest⟩
  · obtain ⟨s, h1, h2⟩ := h.el i hi
    exact ⟨s, h1, h2.mono2 hb⟩
/-- the k-th leaf -/
theorem LLs.get {w : World} {base : Nat} {v : Value} {cs : List Sl} {ls : LL} (h : LLs w base v cs ls) {k : Nat} (hk : k < ls.length) :
    ∃ g cap s, v = .slice (some ⟨g, 0, none⟩) ls.length cap ∧ ls.length ≤ cap ∧ base ≤ g ∧ g < w.heap.size ∧ cs[k]? = some s ∧ w.cell? ⟨g, k, none⟩ = some (encS s) ∧ w.frozen? ⟨g, k, none⟩ = false ∧ OwnP w base (encS s) ls[k] ∧ blkS s ≠ some g := by
  obtain ⟨s, h1, h2⟩ := h.el k hk
  have hcells := fun g => World.ownsRow.cells (g := g) h.own
  rcases h.own.2 with ⟨rfl, hn⟩ | ⟨g, cap, cur, rfl, hb, hg, hnc, hcm, hcs, htake⟩
  · omega
  · have hlt : g < w.heap.size := (Array.getElem?_eq_some_iff.1 hg).1
    refine ⟨g, cap, s, rfl, hnc, hb, hlt, h1, ?_, by simp [World.frozen?, hg], h2, fun e => h.out s (List.mem_of_getElem? h1) g e rfl⟩
    have := hcells g rfl k (encS s) (by rw [List.getElem?_map, h1]; rfl)
    rw [addr_add] at this
    simpa using this
/-- a leaf is put anew: its row lies in its old block, or in a new one -/
theorem LLs.put {w w1 : World} {base g k cap : Nat} {cs : List Sl} {ls : LL} {s s' : Sl} {l' : List Pid} (h : LLs w base (.slice (some ⟨g, 0, none⟩) ls.length cap) cs ls) (hk : k < ls.length) (hs : cs[k]? = some s) (hm : Mut (fun b => blkS s = some b) w w1) (hnew : OwnP w1 base (encS s') l') (hb : ∀ q, blkS s' = some q → blkS s = some q ∨ w.heap.size ≤ q) :
    LLs (w1.setCell ⟨g, k, none⟩ (encS s')) base (.slice (some ⟨g, 0, none⟩) ls.length cap) (cs.set k s') (ls.set k l') := by
  have hkc : k < cs.length := by rw [h.len]; exact hk
  have hsk : cs[k] = s := by rw [List.getElem?_eq_getElem hkc] at hs; cases hs; rfl
  have hsm : s ∈ cs := List.mem_of_getElem? hs
  have hgs : blkS s ≠ some g := fun e => h.out s hsm g e rfl
  have hglt := (h.blk (g := g) rfl).2
  have hset : Mut (fun b => b = g) w1 (w1.setCell ⟨g, k, none⟩ (encS s')) := mut1
  have hapart : ∀ i (hi : i < cs.length), i ≠ k → ∀ q, blkS cs[i] = some q → blkS s ≠ some q := by
    intro i hi hik q hq e
    rcases Nat.lt_or_gt_of_ne hik with hlt | hlt
    · have := List.pairwise_iff_getElem.1 h.apart i k hi hkc hlt q hq
      rw [hsk] at this; exact this e
    · have := List.pairwise_iff_getElem.1 h.apart k i hkc hi hlt q (by rw [hsk]; exact e)
      exact this hq
  have hapart' : ∀ i (hi : i < cs.length), i ≠ k → ∀ q, blkS cs[i] = some q → blkS s' ≠ some q := by
    intro i hi hik q hq e
    rcases hb q e with h1 | h1
    · exact hapart i hi hik q hq h1
    · have := (h.elB (List.getElem_mem hi) hq).2; omega
  have hown := ownsRow_mut h.own hm (fun q hq e => hgs (by simp [Value.ownBlock] at hq; rw [hq]; exact e))
  refine ⟨⟨by simp; exact h.len, ?_⟩, fun i hi => ?_, fun u hu q hq => ?_, ?_⟩
  · rcases hown.2 with ⟨e, -⟩ | ⟨g', cap', cur, e, hbb, hgg, hnc, hcm, hcs, htake⟩
    · cases e
    · cases e
      refine .inr ⟨g, cap, cur.setIfInBounds k (encS s'), by rw [List.length_set], hbb, ?_, by rw [List.length_set]; exact hnc, hcm, by simpa using hcs, ?_⟩
      · simp only [World.setCell, Array.getElem?_modify, if_pos, hgg, Option.map_some]
        rfl
      · rw [List.length_set, List.map_set, ← htake, Array.toList_setIfInBounds]
        rw [List.take_set]
  · have hi' : i < ls.length := by simpa using hi
    by_cases hik : i = k
    · subst hik
      refine ⟨s', by simp [hkc], ?_⟩
      rw [List.getElem_set_self]
      exact hnew.mutN hset (fun q hq e => by
        rw [own_encS] at hq
        rcases hb q hq with h1 | h1
        · have e : q = g := e
          exact hgs (by rw [h1, e])
        · have e : q = g := e
          omega)
    · obtain ⟨u, h1, h2⟩ := h.el i hi'
      refine ⟨u, by rw [List.getElem?_set_ne (Ne.symm hik)]; exact h1, ?_⟩
      rw [List.getElem_set_ne (Ne.symm hik)]
      have hic : i < cs.length := by rw [h.len]; exact hi'
      have hui : cs[i] = u := by rw [List.getElem?_eq_getElem hic] at h1; cases h1; rfl
      refine (h2.mutN hm (fun q hq e => ?_)).mutN hset (fun q hq e => ?_)
      · rw [own_encS, ← hui] at hq
        exact hapart i hic hik q hq e
      · rw [own_encS] at hq
        have e : q = g := e
        exact h.out u (List.mem_of_getElem? h1) q hq (by rw [e]; rfl)
  · rcases List.mem_or_eq_of_mem_set hu with hu | rfl
    · have := h.out u hu q hq
      simpa [Value.ownBlock] using this
    · intro e
      simp [Value.ownBlock] at e
      rcases hb q hq with h1 | h1
      · exact hgs (by rw [h1, e])
      · omega
  · rw [List.pairwise_iff_getElem]
    intro i j hi hj hij q hq e
    have hi' : i < cs.length := by simpa using hi
    have hj' : j < cs.length := by simpa using hj
    rw [List.getElem_set] at hq e
    by_cases h1 : k = i
    · subst h1
      rw [if_pos rfl] at hq
      rw [if_neg (by omega)] at e
      exact hapart' j hj' (by omega) q e hq
    · rw [if_neg h1] at hq
      by_cases h2 : k = j
      · subst h2
        rw [if_pos rfl] at e
        exact hapart' i hi' (by omega) q hq e
      · rw [if_neg h2] at e
        exact List.pairwise_iff_getElem.1 h.apart i j hi' hj' hij q hq e
end Go.Proofs.Ytbpfhclcjedkcaa

namespace Go.Proofs.Ytbpfhclcjedkcaa
open Go.RowKit
/-! ### leaves: append, delete -/
theorem run_appendLs {w : World} {base : Nat} {v : Value} {cs : List Sl} {ls : LL} {s : Sl} {l : List Pid} {b c : Nat} (h : LLs w base v cs ls) (h0 : w.cell? ⟨b, 0, none⟩ = some (encS s)) (hs : OwnP w base (encS s) l) (hv : ∀ g, blkS s = some g → v.ownBlock ≠ some g) (hc : ∀ u ∈ cs, ∀ g, blkS u = some g → blkS s ≠ some g)
    (hlen : ls.length + 1 ≤ 1099511627776) (hbase : base ≤ w.heap.size) (ty : TypeId) :
    ∃ v' w', (Builtin.append_ #[31, 31] ty #[v, .slice (some ⟨b, 0, none⟩) 1 c]).run Try.prog w = .ok v' w' ∧ LLs w' base v' (cs ++ [s]) (ls ++ [l]) ∧ w.grownBy w' v.ownBlock ∧ (v'.ownBlock = v.ownBlock ∨ v'.ownBlock = some w.heap.size) := by
  obtain ⟨i0, hi, hz0, hz1, hz2⟩ := info_parts infoPs
  obtain ⟨v', w', hrun, h2, h3, h4, h5⟩ := run_append_own_at (P := Try.prog) w base 31 ty 30 i0 _ 1 24 Try.underlying31 hi hz0 hz1 hz2 rfl (by decide) v ls.length (cs.map encS) h.own ⟨b, 0, none⟩ 1 c [encS s] rfl (fun j u hu => by
    have hj : j = 0 := by have := (List.getElem?_eq_some_iff.1 hu).1; simpa using this
    subst hj
    rw [addr_add]
    simp at hu; subst hu
    exact h0) (fun u hu => by simp at hu; subst hu; rfl) (by unfold maxLen; omega) (by omega) hbase
  have hcl := h.len
  have far : ∀ (u : Sl), (∀ g, blkS u = some g → g < w.heap.size) → (∀ g, blkS u = some g → v.ownBlock ≠ some g) → ∀ g, blkS u = some g → v'.ownBlock ≠ some g := by
    intro u hm hno g hg
    rcases h5 with h5 | h5
    · rw [h5]; exact hno g hg
    · rw [h5]
      have := hm g hg
      intro e2; simp at e2; omega
  have hsb : ∀ g, blkS s = some g → g < w.heap.size := fun g hg => (hs.blk (by rw [own_encS]; exact hg)).2
  refine ⟨v', w', hrun, ⟨?_, fun i hi => ?_, fun u hu => ?_, ?_⟩, h3, h5⟩
  · rw [List.length_append, List.map_append]; exact h2
  · by_cases hlt : i < ls.length
    · obtain ⟨u, g1, g2⟩ := h.el i hlt
      rw [List.getElem?_append_left (by omega), List.getElem_append_left hlt]
      exact ⟨u, g1, g2.grownN h3 (fun g hg => by rw [own_encS] at hg; exact h.out u (List.mem_of_getElem? g1) g hg)⟩
    · have hi' : i = ls.length := by simp at hi; omega
      subst hi'
      rw [List.getElem?_append_right (by omega), List.getElem_append_right (by omega)]
      simp only [hcl, Nat.sub_self, List.getElem?_cons_zero, List.getElem_cons_zero]
      exact ⟨s, rfl, hs.grownN h3 (fun g hg => by rw [own_encS] at hg; exact hv g hg)⟩
  · rcases List.mem_append.1 hu with hu | hu
    · exact far u (fun g hg => (h.elB hu hg).2) (h.out u hu)
    · rw [List.mem_singleton.1 hu]; exact far s hsb hv
  · rw [List.pairwise_append]
    refine ⟨h.apart, List.pairwise_singleton _ _, fun a ha b' hb' => ?_⟩
    rw [List.mem_singleton.1 hb']
    exact hc a ha
/-- 'append(l, x)' at the operation -/
theorem wpList_appendLs {w : World} {ops : Array Oper} {rest : List Oper} {o : Oper} {a : Act} {Q : Exit → Act → World → Prop} {sx x : Operand} {base : Nat} {v : Value} {cs : List Sl} {ls : LL} {s : Sl} {l : List Pid} {b c : Nat} (h : LLs w base v cs ls) (h0 : w.cell? ⟨b, 0, none⟩ = some (encS s)) (hs : OwnP w base (encS s) l) (hv : ∀ g, blkS s = some g → v.ownBlock ≠ some g) (hc : ∀ u ∈ cs, ∀ g, blkS u = some g → blkS s ≠ some g)
    (hlen : ls.length + 1 ≤ 1099511627776) (hbase : base ≤ w.heap.size)
    (hg : o.guard = none) (ho : o.op = .call { callee := .builtin .append, args := #[sx, x], argTypes := #[31, 31] }) (hsx : a.eval sx = v) (hx : a.eval x = .slice (some ⟨b, 0, none⟩) 1 c)
    (hk : ∀ v' w', LLs w' base v' (cs ++ [s]) (ls ++ [l]) → w.grownBy w' v.ownBlock → (v'.ownBlock = v.ownBlock ∨ v'.ownBlock = some w.heap.size) → wpList Try.prog ops Q rest (a.put o.dst v') w') : wpList Try.prog ops Q (o :: rest) a w := by
  obtain ⟨v', w', hr, h2, h3, h4⟩ := run_appendLs h h0 hs hv hc hlen hbase (c := c) o.type
  exact Lib.wpList_append_run w hg sx x 31 31 ho _ _ hsx hx v' w' hr (hk v' w' h2 h3 h4)
/-! slices.Delete -/
instance : Inhabited Sl := ⟨(none, 0, 0)⟩
theorem oneS : OneCell encS := fun _ => rfl
theorem zeroS (w : World) : (zeroValue 30).run Try.prog w = .ok (encS (none, 0, 0)) w := Try.zeroValue30 w
theorem put_list {g : Nat} {w : World} {q : Nat} {cur : Array Value} {e : TypeId} {D : Array Sl} (hg : w.heap[g]? = some (.cells cur e (0, 0))) : (Go.Sort.putRow encS (Go.Sort.ahead w q) g 0 D).heap[g]? = some (.cells (Go.Sort.putCells encS 0 D cur) e (0, 0)) := by
  simp [Go.Sort.putRow, Go.Sort.mapBlock, Go.Sort.ahead, Array.getElem?_modify, hg, Go.Sort.onCells]
theorem put_mut {g : Nat} {w : World} {q : Nat} {D : Array Sl} : Mut (fun b => b = g) w (Go.Sort.putRow encS (Go.Sort.ahead w q) g 0 D) := by
  refine ⟨rfl, rfl, rfl, by simp, fun k hk hne => ?_⟩
  have : g ≠ k := fun e => hne e.symm
  simp [Go.Sort.putRow, Go.Sort.mapBlock, Go.Sort.ahead, Array.getElem?_modify, this]
theorem take_putS (cur : Array Value) (D : Array Sl) (n : Nat) (h : D.size ≤ cur.size) (hn : n ≤ D.size) : (Go.Sort.putCells encS 0 D cur).toList.take n = (D.toList.take n).map encS := by
  apply List.ext_getElem?
  intro j
  by_cases hj : j < n
  · rw [List.getElem?_take_of_lt hj, Array.getElem?_toList, List.getElem?_map, List.getElem?_take_of_lt hj, Array.getElem?_toList]
    simp [Go.Sort.putCells, show j < D.size by omega, show j < cur.size by omega]
  · rw [List.getElem?_take_eq_none (by omega), List.getElem?_eq_none (by simp; omega)]
theorem holdsS {w : World} {base g cap : Nat} {cs : List Sl} {ls : LL} (h : LLs w base (.slice (some ⟨g, 0, none⟩) ls.length cap) cs ls) : Go.Sort.Holds encS w g 0 cs.toArray := by
  intro j hj
  have hj' : j < ls.length := by rw [← h.len]; simpa using hj
  obtain ⟨g', cap', s, e, -, -, -, h1, h2, h3, -, -⟩ := h.get hj'
  cases e
  have hjc : j < cs.length := by rw [h.len]; exact hj'
  have hs : cs.toArray[j]! = s := by
    rw [getElem!_pos cs.toArray j (by simpa using hjc)]
    rw [List.getElem?_eq_getElem hjc] at h1; cases h1; simp
  rw [Nat.zero_add, hs]
  exact ⟨h2, h3⟩
theorem delete_any {w : World} {base g cap k : Nat} {cs : List Sl} {ls : LL} {z : Int} (hz : z = (k : Int) + 1) (h : LLs w base (.slice (some ⟨g, 0, none⟩) ls.length cap) cs ls) (hk : k < ls.length) (hcap : ls.length ≤ cap) (hm : cap ≤ 9223372036854775807) :
    Calls Try.prog 256 #[.slice (some ⟨g, 0, none⟩) ls.length cap, .int .i64 k, .int .i64 z] w fun e w' => e = .returned (.slice (some ⟨g, 0, none⟩) (ls.eraseIdx k).length cap) ∧ LLs w' base (.slice (some ⟨g, 0, none⟩) (ls.eraseIdx k).length cap) (cs.eraseIdx k) (ls.eraseIdx k) ∧ Mut (fun b => b = g) w w' := by
  have hcl := h.len
  obtain ⟨i0, hi, hz0, hz1, hz2⟩ := info_parts infoPs
  have hcon := AnyE.slices_Delete Try.delLeaf encS oneS (none, 0, 0) zeroS i0 hi hz1 g 0 cap k (k + 1) cs.toArray w (holdsS h) (by simpa [hcl] using hcap) hm (by omega) (by simp; omega)
  change Calls Try.prog 256 _ _ _ at hcon
  have e1 : cs.toArray.size = ls.length := by simpa using hcl
  have e2 : ((k + 1 : Nat) : Int) = z := by omega
  have e3 : ls.length - (k + 1 - k) = (ls.eraseIdx k).length := by rw [List.length_eraseIdx]; simp [hk]
  rw [e1, e2, e3] at hcon
  refine hcon.mono ?_
  rintro e w' ⟨rfl, q, rfl⟩
  obtain ⟨D, hD⟩ : ∃ D, (cs.toArray.toList.take k ++ cs.toArray.toList.drop (k + 1) ++ List.replicate (k + 1 - k) ((none, 0, 0) : Sl)).toArray = D := ⟨_, rfl⟩
  rw [hD]
  have hDl : D.toList = cs.eraseIdx k ++ [(none, 0, 0)] := by
    rw [← hD, List.eraseIdx_eq_take_drop_succ]
    have : k + 1 - k = 1 := by omega
    rw [this]; simp
  have hDs : D.size = ls.length := by
    have : D.size = D.toList.length := by simp
    rw [this, hDl, List.length_append, List.length_eraseIdx]
    simp [hcl, hk]; omega
  have hel : (ls.eraseIdx k).length = ls.length - 1 := by rw [List.length_eraseIdx]; simp [hk]
  have hec : (cs.eraseIdx k).length = ls.length - 1 := by rw [List.length_eraseIdx]; simp [hk, hcl]
  have hmut : Mut (fun b => b = g) w (Go.Sort.putRow encS (Go.Sort.ahead w q) g 0 D) := put_mut
  refine ⟨rfl, ⟨⟨by simp [hel, hec], ?_⟩, fun i hi => ?_, fun u hu => h.out u (List.mem_of_mem_eraseIdx hu), ?_⟩, hmut⟩
  · rcases h.own.2 with ⟨e, -⟩ | ⟨g', cap', cur, e, hbb, hgg, hnc, hcm, hcs, htake⟩
    · cases e
    · cases e
      refine .inr ⟨g, cap, _, rfl, hbb, put_list hgg, by omega, hcm, by simp [Go.Sort.putCells, hcs], ?_⟩
      rw [take_putS cur D _ (by rw [hDs, hcs]; omega) (by rw [hDs]; omega), hDl, List.take_append_of_le_length (by omega), List.take_of_length_le (by omega)]
  · have hil : i < ls.length - 1 := by omega
    by_cases hik : i < k
    · obtain ⟨u, h1, h2⟩ := h.el i (by omega)
      refine ⟨u, by rw [List.getElem?_eraseIdx_of_lt hik]; exact h1, ?_⟩
      rw [List.getElem_eraseIdx_of_lt _ hik]
      exact h2.mutN hmut (fun p hp e => by
        rw [own_encS] at hp
        have e : p = g := e
        exact h.out u (List.mem_of_getElem? h1) p hp (by rw [e]; rfl))
    · obtain ⟨u, h1, h2⟩ := h.el (i + 1) (by omega)
      refine ⟨u, by rw [List.getElem?_eraseIdx_of_ge (by omega)]; exact h1, ?_⟩
      rw [List.getElem_eraseIdx_of_ge _ (by omega)]
      exact h2.mutN hmut (fun p hp e => by
        rw [own_encS] at hp
        have e : p = g := e
        exact h.out u (List.mem_of_getElem? h1) p hp (by rw [e]; rfl))
  · exact h.apart.sublist (List.eraseIdx_sublist cs k)
end Go.Proofs.Ytbpfhclcjedkcaa

namespace Go.Proofs.Ytbpfhclcjedkcaa
open Go.RowKit
/-! ### layout: part -/
theorem grown_mutS {w w' : World} {v : Value} (hg : w.grownBy w' v.ownBlock) : Mut (fun b => v.ownBlock = some b) w w' :=
  ⟨hg.os, hg.tape, hg.output, hg.size, fun k hk hf => hg.block k hk (fun e => hf e.symm)⟩
theorem Mut.frozen {F : Nat → Prop} {w w' : World} (h : Mut F w w') {p : Addr} (hp : p.block < w.heap.size) (hf : ¬ F p.block) : w'.frozen? p = w.frozen? p := by
  simp only [World.frozen?, h.block p.block hp hf]
/-- the blocks of leaves -/
def inLL (v : Value) (cs : List Sl) (b : Nat) : Prop := v.ownBlock = some b ∨ ∃ s ∈ cs, blkS s = some b
/-- what a step leaves: only the leaves' blocks are written, and the new leaves lie in theirs or in new ones -/
structure Keeps (w : World) (v : Value) (cs : List Sl) (w' : World) (v' : Value) (cs' : List Sl) : Prop where
  mt : Mut (inLL v cs) w w'
  blk : ∀ b, inLL v' cs' b → inLL v cs b ∨ w.heap.size ≤ b
theorem Keeps.refl (w : World) (v : Value) (cs : List Sl) : Keeps w v cs w v cs := ⟨Mut.refl _ _, fun _ h => .inl h⟩
theorem Keeps.trans {w w1 w2 : World} {v v1 v2 : Value} {cs cs1 cs2 : List Sl} (h1 : Keeps w v cs w1 v1 cs1) (h2 : Keeps w1 v1 cs1 w2 v2 cs2) : Keeps w v cs w2 v2 cs2 := by
  have hs := h1.mt.size
  refine ⟨⟨h2.mt.os.trans h1.mt.os, h2.mt.tape.trans h1.mt.tape, h2.mt.output.trans h1.mt.output, Nat.le_trans hs h2.mt.size, fun k hk hn => ?_⟩, fun b hb => ?_⟩
  · refine (h2.mt.block k (by omega) fun e => ?_).trans (h1.mt.block k hk hn)
    rcases h1.blk k e with e | e
    · exact hn e
    · omega
  · rcases h2.blk b hb with e | e
    · exact h1.blk b e
    · exact .inr (by omega)
theorem Keeps.ext {w w1 w2 : World} {v v1 : Value} {cs cs1 : List Sl} (h1 : Keeps w v cs w1 v1 cs1) (hb : Below w1.heap.size w1 w2) : Keeps w v cs w2 v1 cs1 := ⟨h1.mt.trans (Mut.of_below hb), h1.blk⟩
theorem LLs.inB {w : World} {base : Nat} {v : Value} {cs : List Sl} {ls : LL} (h : LLs w base v cs ls) {b : Nat} (hb : inLL v cs b) : base ≤ b ∧ b < w.heap.size := by
  rcases hb with e | ⟨s, hs, e⟩
  · exact h.blk e
  · exact h.elB hs e
theorem run_uptoP {a : Option Addr} {n c k : Nat} (h : k ≤ c) (W : World) : (Instr.slice 30 (.slice a n c) none (some (.int .i64 k)) none).run Try.prog W = .ok (.slice (if c = 0 then a else a.map (·.add (0 * 2))) (k - 0) (c - 0)) W := by
  have hs : ∀ W, (sizeOf 26).run Try.prog W = .ok 2 W := fun W => Try.sizeOf26 W
  simp [Instr.slice, run_underlying Try.underlying30, Instr.sliceBounds, run_sliceBound, hs, Result.andThen, h]
theorem run_fromP {a : Option Addr} {n c k : Nat} (h : k ≤ n) (W : World) : (Instr.slice 30 (.slice a n c) (some (.int .i64 k)) none none).run Try.prog W = .ok (.slice (if c = k then a else a.map (·.add (k * 2))) (n - k) (c - k)) W := by
  have hs : ∀ W, (sizeOf 26).run Try.prog W = .ok 2 W := fun W => Try.sizeOf26 W
  simp [Instr.slice, run_underlying Try.underlying30, Instr.sliceBounds, run_sliceBound, hs, Result.andThen, h]
theorem PidRow.from {w : World} {a : Option Addr} {xs : List Pid} (h : PidRow w a xs) {k c : Nat} (hc : xs.length ≤ c) : PidRow w (if c = k then a else a.map (·.add (k * 2))) (xs.drop k) := by
  by_cases hk : k < xs.length
  · rw [if_neg (by omega)]
    obtain ⟨b, off, rfl, hb, hcell⟩ := h.get (by omega)
    refine .inr ⟨b, off + k * 2, by simp [addr_add], hb, fun i hi => ?_⟩
    simp only [List.length_drop] at hi
    have := hcell (k + i) (by omega)
    rw [List.getElem_drop, show off + k * 2 + i * 2 = off + (k + i) * 2 by omega]
    exact this
  · rw [List.drop_eq_nil_of_le (by omega)]; exact .inl rfl
theorem PidRow.uptoC {w : World} {a : Option Addr} {xs : List Pid} (h : PidRow w a xs) (k c : Nat) : PidRow w (if c = 0 then a else a.map (·.add (0 * 2))) (xs.take k) := by
  have up : ∀ {a : Option Addr}, PidRow w a xs → PidRow w a (xs.take k) := by
    intro a h
    rcases h with rfl | ⟨b, off, rfl, hb, hcell⟩
    · exact .inl (by simp)
    · refine .inr ⟨b, off, rfl, hb, fun i hi => ?_⟩
      simp only [List.length_take] at hi
      have := hcell i (by omega)
      simpa using this
  split
  · exact up h
  · rcases h with rfl | ⟨b, off, rfl, hb, hcell⟩
    · exact .inl (by simp)
    · have e : (some (⟨b, off, none⟩ : Addr)).map (·.add (0 * 2)) = some ⟨b, off, none⟩ := by simp [addr_add]
      rw [e]; exact up (.inr ⟨b, off, rfl, hb, hcell⟩)
theorem OwnP.rowc {w : World} {base : Nat} {v : Value} {xs : List Pid} (h : OwnP w base v xs) : ∃ a c, v = .slice a xs.length c ∧ PidRow w a xs ∧ xs.length ≤ c := by
  obtain ⟨a, c, rfl, hr, -⟩ := h.row
  refine ⟨a, c, rfl, hr, ?_⟩
  rcases h.2 with ⟨h1, h2⟩ | ⟨g, cap, cur, h1, _, _, h2, _⟩
  · omega
  · injection h1 with _ _ h1; omega
/-- an own row as its three words -/
theorem OwnP.sl {w : World} {base : Nat} {v : Value} {xs : List Pid} (h : OwnP w base v xs) : ∃ a c, v = .slice a xs.length c ∧ v = encS (a, xs.length, c) ∧ PidRow w a xs ∧ xs.length ≤ c ∧ ∀ q, blkS (a, xs.length, c) = some q → base ≤ q ∧ q < w.heap.size := by
  obtain ⟨a, c, e, hr, hc⟩ := h.rowc
  refine ⟨a, c, e, e, hr, hc, fun q hq => ?_⟩
  have e2 : v.ownBlock = blkS (a, xs.length, c) := by rw [e]; exact own_encS (a, xs.length, c)
  exact h.blk (by rw [e2]; exact hq)
theorem run_appendPat {w : World} {base : Nat} {v : Value} {xs ys : List Pid} (hown : OwnP w base v xs) {a : Option Addr} {c : Nat} (hy : PidRow w a ys) (hlen : xs.length + ys.length ≤ 1099511627776) (hbase : base ≤ w.heap.size) (ty : TypeId) :
    ∃ v' w', (Builtin.append_ #[30, 30] ty #[v, .slice a ys.length c]).run Try.prog w = .ok v' w' ∧ OwnP w' base v' (xs ++ ys) ∧ w.grownBy w' v.ownBlock ∧ (v'.ownBlock = v.ownBlock ∨ v'.ownBlock = some w.heap.size) := by
  obtain ⟨i0, hi, hz0, hz1, hz2⟩ := info_parts info36
  rcases hy with rfl | ⟨b, off, rfl, hlt, hc⟩
  · refine ⟨v, w, ?_, by simpa using hown, ⟨rfl, rfl, rfl, Nat.le_refl _, fun _ _ _ => rfl⟩, .inl rfl⟩
    rcases hown.2 with ⟨rfl, hn⟩ | ⟨g, cap, cur, rfl, hb, hg, hnc, hcm, hcs, htake⟩
    · cases a <;> simp [Builtin.append_, run_underlying Try.underlying30, sizeOf, typeInfo, hi, Builtin.lenOf, Builtin.firstCells, loadCells, loadCellsFrom]
    · cases a <;> simp [Builtin.append_, run_underlying Try.underlying30, sizeOf, typeInfo, hi, Builtin.lenOf, Builtin.firstCells, loadCells, loadCellsFrom, hnc, storeCells]
  · obtain ⟨v', w', hr, h2, h3, h4, h5⟩ := run_append_own_at (P := Try.prog) w base 30 ty 26 i0 _ 2 8 Try.underlying30 hi hz0 hz1 hz2 rfl (by decide) v xs.length (pidCells xs) hown ⟨b, off, none⟩ ys.length c (pidCells ys) (pidCells_length ys) (PidRow.cells hc) (pidCells_one ys) (by unfold maxLen; omega) (by omega) hbase
    refine ⟨v', w', hr, ?_, h3, h5⟩
    unfold OwnP; rw [List.length_append, pidCells_append]; exact h2
theorem wpList_appendPat {w : World} {ops : Array Oper} {rest : List Oper} {o : Oper} {a : Act} {Q : Exit → Act → World → Prop} {s x : Operand} {base : Nat} {v : Value} {xs ys : List Pid} (hown : OwnP w base v xs) {ad : Option Addr} {c n : Nat} (hy : PidRow w ad ys) (hn : Hid (ys.length = n))
    (hlen : xs.length + n ≤ 1099511627776) (hbase : base ≤ w.heap.size)
    (hg : o.guard = none) (ho : o.op = .call { callee := .builtin .append, args := #[s, x], argTypes := #[30, 30] }) (hs : a.eval s = v) (hx : a.eval x = .slice ad n c)
    (h : ∀ v' w', OwnP w' base v' (xs ++ ys) → w.grownBy w' v.ownBlock → (v'.ownBlock = v.ownBlock ∨ v'.ownBlock = some w.heap.size) → wpList Try.prog ops Q rest (a.put o.dst v') w') : wpList Try.prog ops Q (o :: rest) a w := by
  have hn := hn.out; subst hn
  obtain ⟨v', w', hr, h2, h3, h4⟩ := run_appendPat hown (c := c) hy hlen hbase o.type
  exact Lib.wpList_append_run w hg s x 30 30 ho _ _ hs hx v' w' hr (h v' w' h2 h3 h4)
theorem half_run (n : Nat) (h : n ≤ 70368744177664) : IntKind.i64.wrap (((n : Int) + 1).tdiv 2) = (((n + 1) / 2 : Nat) : Int) := by
  have e : ((n : Int) + 1).tdiv 2 = (((n + 1) / 2 : Nat) : Int) := by
    rw [Int.tdiv_eq_ediv_of_nonneg (by omega)]; omega
  rw [e, IntKind.wrap_i64] <;> omega
set_option maxRecDepth 100000 in
set_option maxHeartbeats 6400000 in
theorem part_any {w : World} {base g cap k : Nat} {cs : List Sl} {ls : LL} {N : Nat} (hN : Hid (ls.length = N)) (h : LLs w base (.slice (some ⟨g, 0, none⟩) N cap) cs ls) (hbase : base ≤ w.heap.size) (hk : k < N) (hl : (ls.getD k []).length ≤ 1000000) (hNl : N ≤ 1000000) :
    Calls Try.prog 242 #[.slice (some ⟨g, 0, none⟩) N cap, .int .i64 k] w fun e w' => ∃ v' cs', e = .returned v' ∧ LLs w' base v' cs' (partL ls k) ∧ Keeps w (.slice (some ⟨g, 0, none⟩) N cap) cs w' v' cs' := by
  have hN' := hN.out
  subst hN'
  obtain ⟨g', cap', s, e0, hcap, hbg, hgw, hcs, hcell, hfr, hown, hsg⟩ := h.get hk
  cases e0
  have hgd : ls.getD k [] = ls[k] := by simp [List.getD, hk]
  obtain ⟨l, hl'⟩ : ∃ l, ls[k] = l := ⟨_, rfl⟩
  rw [hgd, hl'] at hl
  rw [hl'] at hown
  obtain ⟨a, c, he, he2, hrow, hlc, hblk⟩ := hown.sl
  rw [he] at hcell
  have hsS : s = (a, l.length, c) := by
    obtain ⟨x, y, z⟩ := s
    have : Value.slice x y z = Value.slice a l.length c := he
    injection this with e1 e2 e3
    rw [e1, e2, e3]
  obtain ⟨n, hn⟩ : ∃ n, l.length = n := ⟨_, rfl⟩
  obtain ⟨q, hq⟩ : ∃ q, half l = q := ⟨_, rfl⟩
  have hqn : q = (n + 1) / 2 := by rw [← hq, ← hn]; rfl
  have hw2 := half_run n (by omega)
  rw [← hqn] at hw2
  have hw1 : IntKind.i64.wrap ((n : Int) + 1) = (n : Int) + 1 := by rw [IntKind.wrap_i64] <;> omega
  have h20 : ((2 : Int) == 0) = false := rfl
  rw [hn] at hcell hlc hsS
  obtain ⟨a1, ha1⟩ : ∃ a1, (if c = 0 then a else a.map (·.add (0 * 2))) = a1 := ⟨_, rfl⟩
  obtain ⟨a2, ha2⟩ : ∃ a2, (if c = q then a else a.map (·.add (q * 2))) = a2 := ⟨_, rfl⟩
  obtain ⟨n2, hn2⟩ : ∃ n2, n - q = n2 := ⟨_, rfl⟩
  obtain ⟨c2, hc2⟩ : ∃ c2, c - q = c2 := ⟨_, rfl⟩
  have hqle : q ≤ n := by omega
  have U1 : ∀ W, (Instr.slice 30 (.slice a n c) none (some (.int .i64 q)) none).run Try.prog W = .ok (.slice a1 q c) W := fun W => by rw [run_uptoP (by omega) W, ha1]; rfl
  have U2 : ∀ W, (Instr.slice 30 (.slice a n c) (some (.int .i64 q)) none none).run Try.prog W = .ok (.slice a2 n2 c2) W := fun W => by rw [run_fromP hqle W, ha2, hn2, hc2]
  have r1 : PidRow w a1 (l.take q) := by rw [← ha1]; exact hrow.uptoC q c
  have C1 := hid (clone_is (c := c) (hid (show (l.take q).length = q by rw [List.length_take]; omega)) (by omega) r1)
  have HROW := hid hrow
  have HH := hid h
  have HQ := hid hq
  have HL := hid hl'
  have HLN := hid hn
  have HS := hid hsS
  have HGW := hid hgw
  have HBG := hid hbg
  have HHW := hid (And.intro hqn hw2)
  have HCS := hid hcs
  have HSG := hid hsg
  have HCAP := hid hcap
  have HA2 := hid ha2
  have HN2 := hid hn2
  have HLC := hid hlc
  have HGD := hid hgd
  have HBLK := hid hblk
  clear hrow h hq hl' hn hsS hbg hqn hcs hsg hcap ha1 ha2 hn2 hc2 hlc r1 hgd he he2 hown hblk
  go_enter Try.func242, Try.ntmps242
  go_wp2_with fail
  (with_reducible refine C1.out.mono ?_)
  rintro e w2 ⟨v2, rfl, hown2, hb2⟩
  obtain ⟨b2, k2, e2, e2s, -, -, hblk2⟩ := hown2.sl
  have hl2 : (l.take q).length = q := by rw [List.length_take, HLN.out]; omega
  rw [hl2] at e2 e2s hblk2
  have hs2 : LLs (w2.setCell ⟨g, k, none⟩ (encS (b2, q, k2))) base (.slice (some ⟨g, 0, none⟩) ls.length cap) (cs.set k (b2, q, k2)) (ls.set k (l.take q)) :=
    HH.out.put hk HCS.out (Mut.of_below hb2) (by rw [← e2s]; exact hown2.mono2 hbase) (fun p hp => .inr (hblk2 p hp).1)
  subst e2
  obtain ⟨w3, hw3⟩ : ∃ w3, w2.setCell ⟨g, k, none⟩ (.slice b2 q k2) = w3 := ⟨_, rfl⟩
  have hs3 : LLs w3 base (.slice (some ⟨g, 0, none⟩) ls.length cap) (cs.set k (b2, q, k2)) (ls.set k (l.take q)) := by rw [← hw3]; exact hs2
  have hm23 : Mut (fun b => b = g) w2 w3 := by rw [← hw3]; exact mut1
  have hrow3 : PidRow w3 a l := (HROW.out.ext hb2).mutT hm23 (fun b off e _ hk => HSG.out (by have hk : b = g := hk; rw [HS.out, e, hk]; rfl))
  have r2 : PidRow w3 a2 (l.drop q) := by rw [← HA2.out]; exact hrow3.from (by rw [HLN.out]; exact HLC.out)
  have C2 := hid (clone_is (c := c2) (hid (show (l.drop q).length = n2 by rw [List.length_drop, HLN.out]; exact HN2.out)) (by have := HN2.out; have := HLN.out; omega) r2)
  have hcell2 : ∃ u, w2.cell? ⟨g, k, none⟩ = some u := ⟨_, (hb2.cell (by exact HGW.out)).trans hcell⟩
  obtain ⟨u2, hu2⟩ := hcell2
  have hfr2 : w2.frozen? ⟨g, k, none⟩ = false := (hb2.frozen (by exact HGW.out)).trans hfr
  have hm2 : Mut (fun b => b = g) w w3 := (Mut.of_below hb2).trans hm23
  have HK2 : Hid (∀ p, blkS (b2, q, k2) = some p → w.heap.size ≤ p) := hid fun p hp => (hblk2 p hp).1
  have HS3 := hid hs3
  have HM2 := hid hm2
  have HZ3 : Hid (w.heap.size ≤ w3.heap.size ∧ g < w3.heap.size) := hid ⟨hm2.size, by have := HGW.out; have := hm2.size; omega⟩
  have HB2 : Hid (∀ p, blkS (b2, q, k2) = some p → p < w3.heap.size) := hid fun p hp => by have := (hblk2 p hp).2; have := hm23.size; omega
  clear hs2 hs3 hm23 hrow3 r2 hb2 hown2 hm2 C1 e2s hblk2 HROW hcell hfr
  go_wp2_with fail
  (with_reducible refine C2.out.mono ?_)
  rintro e w4 ⟨v4, rfl, hown4, hb4⟩
  obtain ⟨b4, k4, e4, e4s, -, -, hblk4⟩ := hown4.sl
  have hl4 : (l.drop q).length = n2 := by rw [List.length_drop, HLN.out]; exact HN2.out
  rw [hl4] at e4 e4s hblk4
  subst e4
  have hq5 : Below w4.heap.size w4 (w4.alloc (.cells #[.slice b4 n2 k4] 30)) := (Below.refl _ _).alloc (Nat.le_refl _) _
  have hs5 := (HS3.out.ext hb4).ext hq5
  have ho5 : OwnP (w4.alloc (.cells #[.slice b4 n2 k4] 30)) base (encS (b4, n2, k4)) (l.drop q) := (hown4.ext hq5).mono2 (by have := HZ3.out; omega)
  have hc5 : (w4.alloc (.cells #[.slice b4 n2 k4] 30)).cell? ⟨w4.heap.size, 0, none⟩ = some (encS (b4, n2, k4)) := by simp [encS]
  have hv5 : ∀ p, blkS (b4, n2, k4) = some p → (Value.slice (some ⟨g, 0, none⟩) ls.length cap).ownBlock ≠ some p := fun p hp e => by
    have := (hblk4 p hp).1; have := HZ3.out.2; simp [Value.ownBlock] at e; omega
  have hu5 : ∀ u ∈ cs.set k (b2, q, k2), ∀ p, blkS u = some p → blkS (b4, n2, k4) ≠ some p := fun u hu p hp e => by
    have h1 := (hblk4 p e).1
    have h2 := (HS3.out.elB hu hp).2
    omega
  have HK4 : Hid (∀ p, blkS (b4, n2, k4) = some p → w.heap.size ≤ p) := hid fun p hp => by have := (hblk4 p hp).1; have := HZ3.out.1; omega
  have HO5 := hid ho5
  have HS5 := hid hs5
  have HC5 := hid hc5
  have HV5 := hid hv5
  have HU5 := hid hu5
  have HM4 := hid (HM2.out.trans (Mut.of_below (hb4.trans (hq5.mono hb4.size))))
  have HZ5 : Hid (base ≤ (w4.alloc (.cells #[.slice b4 n2 k4] 30)).heap.size) := hid (by have := HM4.out.size; omega)
  have HZ6 : Hid (w.heap.size ≤ (w4.alloc (.cells #[.slice b4 n2 k4] 30)).heap.size) := hid HM4.out.size
  clear hq5 hs5 ho5 hc5 hv5 hu5 hown4 hb4 e4s hblk4 hw3 hu2 hfr2
  go_wp2_with (at_builtin; go_loud (refine wpList_appendLs HS5.out HC5.out HO5.out HV5.out HU5.out (by simp; omega) HZ5.out rfl rfl (by simp [Act.eval, Act.put]; try rfl) rfl ?_; intro v6 w6 hls6 hg6 hat6; have hmg := (grown_mutS hg6).mono (G := fun b => b = g) (fun b _ e => by simp [Value.ownBlock] at e; exact e.symm); have HL6 := hid hls6; have HM6 := hid (HM4.out.trans hmg); have HAT6 := hid hat6; clear hls6 hg6 hat6 hmg))
  go_ret
  refine ⟨v6, cs.set k (b2, q, k2) ++ [(b4, n2, k4)], rfl, ?_, HM6.out.mono fun b _ e => .inl (by rw [e]; rfl), ?_⟩
  · unfold partL
    rw [HGD.out, HL.out, HQ.out]
    exact HL6.out
  · rintro b (hb | ⟨s', hs', hb⟩)
    · rcases HAT6.out with e | e
      · exact .inl (.inl (by rw [← e]; exact hb))
      · rw [hb] at e; cases e; exact .inr HZ6.out
    · rcases List.mem_append.1 hs' with hs' | hs'
      · rcases List.mem_or_eq_of_mem_set hs' with hs' | rfl
        · exact .inl (.inr ⟨s', hs', hb⟩)
        · exact .inr (HK2.out b hb)
      · rw [List.mem_singleton.1 hs'] at hb; exact .inr (HK4.out b hb)
end Go.Proofs.Ytbpfhclcjedkcaa

