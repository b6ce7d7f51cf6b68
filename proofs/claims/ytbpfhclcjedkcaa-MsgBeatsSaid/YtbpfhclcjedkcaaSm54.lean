/- Parts of the proof: X88 XB. -/
import Derived.Test.YtbpfhclcjedkcaaSm24
import Derived.Test.YtbpfhclcjedkcaaSm40
import Derived.Test.YtbpfhclcjedkcaaSm52
namespace Go.Proofs.Ytbpfhclcjedkcaa
open Go.RowKit
/-! ### the law MsgBeats -/
/-- a beat as the row brings it -/
structure BeatIn (w : World) (a : Option Addr) (x : BeatD) : Prop where
  row : PidRow w a x.sus
  ok : ∀ p ∈ x.sus, okP p
  lt : x.v < 18446744073709551616 ∧ x.ap < 18446744073709551616 ∧ x.be < 18446744073709551616 ∧ x.st < 18446744073709551616
theorem BeatIn.ext {w w' : World} {a : Option Addr} {x : BeatD} (h : BeatIn w a x) (hb : Below w.heap.size w w') : BeatIn w' a x := ⟨h.row.ext hb, h.ok, h.lt⟩
theorem decodeBeat_is {ba : Option Addr} {bc n N E : Nat} {bs : List Nat} {y : BeatD} {w0 w : World} (hb : Below w0.heap.size w0 w) (hr : Hid (rBeat bs = (y, E))) (hN : Hid (y.sus.length = N)) (hn : Hid (bs.length = n)) (hl : n ≤ 549755813888) (hby : ∀ b ∈ bs, b < 256) (hrow : ByteRow w ba bs) :
    Calls Try.prog 32 #[.slice ba n bc] w fun e w' => ∃ a c, e = .returned (.tuple #[.agg #[.int .u64 y.v, .int .u64 y.ap, .int .u64 y.be, .int .u64 y.st, .slice a N c], .int .i64 E]) ∧ PidRow w' a y.sus ∧ Below w.heap.size w w' ∧ Below w0.heap.size w0 w' :=
  (decodeBeat_any (bc := bc) hn hl hby hrow).mono fun e w' ⟨a, c, h1, h2, h3⟩ => by
    rw [hr.out] at h1 h2
    refine ⟨a, c, ?_, h2, h3, hb.trans (h3.mono hb.size)⟩
    rw [h1]; simp only [BL, hN.out]
theorem decodeBeatR_is {ba : Option Addr} {bc n N E : Nat} {bs : List Nat} {y : BeatD} {w0 w : World} (hb : Below w0.heap.size w0 w) (hr : Hid (rBeat bs = (y, E))) (hN : Hid (y.sus.length = N)) (hn : Hid (bs.length = n)) (hl : n ≤ 70368744177664) (hcp : n ≤ bc) (hby : ∀ b ∈ bs, b < 256) (hrow : ByteRow w ba bs) :
    Calls Try.prog 33 #[.slice ba n bc] w fun e w' => ∃ a c, e = .returned (.tuple #[.agg #[.int .u64 y.v, .int .u64 y.ap, .int .u64 y.be, .int .u64 y.st, .slice a N c], .int .i64 E]) ∧ PidRow w' a y.sus ∧ Below w.heap.size w w' ∧ Below w0.heap.size w0 w' :=
  (decodeBeatR_any (bc := bc) hn hl hcp hby hrow).mono fun e w' ⟨a, c, h1, h2, h3⟩ => by
    rw [hr.out] at h1 h2
    refine ⟨a, c, ?_, h2, h3, hb.trans (h3.mono hb.size)⟩
    rw [h1]; simp only [BL, hN.out]
theorem sameBeat_is {x y : BeatD} {a b : Option Addr} {c d n m : Nat} {w0 w : World} (hb : Below w0.heap.size w0 w) (he : x = y) (hn : Hid (x.sus.length = n)) (hm : Hid (y.sus.length = m)) (hnl : n ≤ 70368744177664) (hx : PidRow w a x.sus) (hy : PidRow w b y.sus) :
    Calls Try.prog 34 #[.agg #[.int .u64 x.v, .int .u64 x.ap, .int .u64 x.be, .int .u64 x.st, .slice a n c], .agg #[.int .u64 y.v, .int .u64 y.ap, .int .u64 y.be, .int .u64 y.st, .slice b m d]] w fun e w' => e = .returned (.bool true) ∧ Below w0.heap.size w0 w' := by
  subst he
  have hml : m ≤ 70368744177664 := by rw [← hm.out, hn.out]; exact hnl
  have := sameBeat_any (c := c) (d := d) hn hm hnl hml hx hy
  rw [sameBt_self] at this
  exact relB hb this
set_option maxRecDepth 100000 in
set_option maxHeartbeats 12800000 in
theorem msgBeats_any {x : BeatD} {a b : Option Addr} {c d n m : Nat} {bs : List Nat} {w : World} (hn : Hid (x.sus.length = n)) (hm : Hid (bs.length = m)) (hx : BeatIn w a x) (hrow : ByteRow w b bs) (hby : ∀ z ∈ bs, z < 256) (hcp : m ≤ d) :
    Calls Try.prog 5 #[.agg #[.int .u64 x.v, .int .u64 x.ap, .int .u64 x.be, .int .u64 x.st, .slice a n c], .slice b m d] w fun e w' => e = .returned (.bool true) ∧ Below w.heap.size w w' := by
  obtain ⟨W1, hW1⟩ : ∃ W1, w.alloc (.cells #[.int .u64 x.v, .int .u64 x.ap, .int .u64 x.be, .int .u64 x.st, .slice a n c] 54) = W1 := ⟨_, rfl⟩
  have hB1 : Below w.heap.size w W1 := by rw [← hW1]; exact (Below.refl _ _).alloc (Nat.le_refl _) _
  have hbx : BeatBox W1 w.heap.size x a n c := by rw [← hW1]; exact BeatBox.made w
  obtain ⟨g, hg⟩ : ∃ g, w.heap.size = g := ⟨_, rfl⟩
  rw [hg] at hbx
  have HX : Hid (∀ W, Below W1.heap.size W1 W → BeatBox W g x a n c) := hid fun W h => hbx.ext h hbx.lt
  have HI := hid (hx.ext hB1)
  have HROW := hid (hrow.ext hB1)
  have HB1 := hid hB1
  have HBY := hid hby
  have HG := hid hg
  have AW : Hid (∀ W, Below W1.heap.size W1 W → Calls Try.prog 26 #[] W fun e w' => e = .returned (.bool true) ∧ Below W1.heap.size W1 w') := hid fun W h => relB h (awakeM_any W)
  have hrf : Below W1.heap.size W1 W1 := Below.refl _ _
  obtain ⟨c0, c1, c2, c3, c4⟩ := hbx
  clear hB1 hx hrow hby
  by_cases b1 : 60 < n
  · have s1 : decide (60 < n) = true := decide_eq_true b1
    have s2 : decide ((60 : Int) < (n : Int)) = true := decide_eq_true (by omega)
    have s3 : decide ((n : Int) > 60) = true := decide_eq_true (by omega)
    clear b1
    go_enter Try.func5, Try.ntmps5
    go_wp2_with (go_at_call 26; (with_reducible refine (AW.out _ hrf).mono ?_); rintro e w9 ⟨rfl, hb9⟩)
    go_ret
    exact ⟨rfl, HB1.out.trans (hb9.mono HB1.out.size)⟩
  have s1 : decide (60 < n) = false := decide_eq_false b1
  have s2 : decide ((60 : Int) < (n : Int)) = false := decide_eq_false (by omega)
  have s3 : decide ((n : Int) > 60) = false := decide_eq_false (by omega)
  by_cases b2 : 2000 < m
  · have u1 : decide (2000 < m) = true := decide_eq_true b2
    have u2 : decide ((2000 : Int) < (m : Int)) = true := decide_eq_true (by omega)
    have u3 : decide ((m : Int) > 2000) = true := decide_eq_true (by omega)
    clear b1 b2
    go_enter Try.func5, Try.ntmps5
    go_wp2_with (go_at_call 26; (with_reducible refine (AW.out _ hrf).mono ?_); rintro e w9 ⟨rfl, hb9⟩)
    go_ret
    exact ⟨rfl, HB1.out.trans (hb9.mono HB1.out.size)⟩
  have u1 : decide (2000 < m) = false := decide_eq_false b2
  have u2 : decide ((2000 : Int) < (m : Int)) = false := decide_eq_false (by omega)
  have u3 : decide ((m : Int) > 2000) = false := decide_eq_false (by omega)
  have HNM : Hid (n ≤ 60 ∧ m ≤ 2000) := hid (by omega)
  obtain ⟨⟨y, E⟩, hyE⟩ : ∃ r, rBeat bs = r := ⟨_, rfl⟩
  obtain ⟨N, hN⟩ : ∃ N, y.sus.length = N := ⟨_, rfl⟩
  have HN24 : Hid (N ≤ 24) := hid (by have := (rBeat_ok bs).2; rw [hyE, hN] at this; exact this)
  have HY := hid hyE
  have HN := hid hN
  have D1 := hid (decodeBeat_is (bc := d) hrf HY HN hm (by omega) HBY.out HROW.out)
  have hEE : ((E : Int) != (E : Int)) = false := bne_self_eq_false _
  clear b1 b2 hyE hN
  go_enter Try.func5, Try.ntmps5
  go_wp2_with fail
  (with_reducible refine D1.out.mono ?_)
  rintro e w3 ⟨a3, c3, rfl, hr3, -, hb3⟩
  have hby3 : BeatBox (w3.alloc (.cells #[.int .u64 y.v, .int .u64 y.ap, .int .u64 y.be, .int .u64 y.st, .slice a3 N c3] 54)) w3.heap.size y a3 N c3 := BeatBox.made w3
  have hb34 : Below w3.heap.size w3 (w3.alloc (.cells #[.int .u64 y.v, .int .u64 y.ap, .int .u64 y.be, .int .u64 y.st, .slice a3 N c3] 54)) := (Below.refl _ _).alloc (Nat.le_refl _) _
  have D2 := hid (decodeBeatR_is (bc := d) (hb3.trans (hb34.mono hb3.size)) HY HN hm (by have := HNM.out; omega) hcp HBY.out (HROW.out.ext (hb3.trans (hb34.mono hb3.size))))
  obtain ⟨w4, hw4⟩ : ∃ W, w3.alloc (.cells #[.int .u64 y.v, .int .u64 y.ap, .int .u64 y.be, .int .u64 y.st, .slice a3 N c3] 54) = W := ⟨_, rfl⟩
  obtain ⟨g3, hg3⟩ : ∃ g3, w3.heap.size = g3 := ⟨_, rfl⟩
  have HW4 := hid hw4
  rw [hw4] at hby3 hb34
  have hr4 := hr3.ext hb34
  have hb4 := hb3.trans (hb34.mono hb3.size)
  rw [hg3] at hby3
  have HBY3 := hid hby3
  have HR4 := hid hr4
  have HB4 := hid hb4
  have HG3 := hid hg3
  clear hby3 hb34 hr4 hb4 hr3 hb3 hw4 D1
  go_wp2_with fail
  (with_reducible refine D2.out.mono ?_)
  rintro e w5 ⟨a5, c5, rfl, hr5, hbb5, hb5⟩
  rw [HW4.out] at hbb5
  have hq5 : Below w5.heap.size w5 (w5.alloc (.cells #[.int .u64 y.v, .int .u64 y.ap, .int .u64 y.be, .int .u64 y.st, .slice a5 N c5] 54)) := (Below.refl _ _).alloc (Nat.le_refl _) _
  have hy5 : BeatBox (w5.alloc (.cells #[.int .u64 y.v, .int .u64 y.ap, .int .u64 y.be, .int .u64 y.st, .slice a5 N c5] 54)) w5.heap.size y a5 N c5 := BeatBox.made w5
  obtain ⟨w6, hw6⟩ : ∃ W, w5.alloc (.cells #[.int .u64 y.v, .int .u64 y.ap, .int .u64 y.be, .int .u64 y.st, .slice a5 N c5] 54) = W := ⟨_, rfl⟩
  obtain ⟨g5, hg5⟩ : ∃ g5, w5.heap.size = g5 := ⟨_, rfl⟩
  rw [hw6] at hy5 hq5
  rw [hg5] at hy5
  have hb46 : Below w4.heap.size w4 w6 := hbb5.trans (hq5.mono hbb5.size)
  have hy3 := HBY3.out.ext hb46 HBY3.out.lt
  have hb16 := HB4.out.trans (hb46.mono HB4.out.size)
  have SM := hid (sameBeat_is (c := c3) (d := c5) hb16 (rfl : y = y) HN HN (by have := HN24.out; omega) (HR4.out.ext hb46) (hr5.ext hq5))
  have HY5 := hid hy5
  have HY3 := hid hy3
  have HB16 := hid hb16
  have HW6 := hid hw6
  clear hq5 hb46 hr5 hbb5 hb5 HBY3 HR4 HB4 D2 hy5 hy3 hb16 hw6
  go_upto_region 5 with fail
  rw [HW6.out]
  obtain ⟨c0, c1, c2, c3', c4⟩ := HY3.out
  obtain ⟨d0, d1, d2, d3, d4⟩ := HY5.out
  go_wp2_with fail
  (with_reducible refine SM.out.mono ?_)
  rintro e w7 ⟨rfl, hb7⟩
  have HB7 := hid hb7
  clear c0 c1 c2 c3' c4 d0 d1 d2 d3 d4 SM HY5 HY3 HW6 HB16
  obtain ⟨c0, c1, c2, c3', c4⟩ := HX.out _ hb7
  clear hb7
  have HCK : Hid (∀ r, beatChk x = r → ∀ W, Below W1.heap.size W1 W → Calls Try.prog 36 #[.agg #[.int .u64 x.v, .int .u64 x.ap, .int .u64 x.be, .int .u64 x.st, .slice a n c]] W fun e w' => e = .returned (.bool r) ∧ Below W.heap.size W w' ∧ Below W1.heap.size W1 w') := hid fun r h W hW => (checkBeatR_any (c := c) hn (by have := HNM.out; omega) HI.out.ok (HI.out.row.ext hW)).mono fun e w' ⟨h1, h2⟩ => ⟨by rw [h1, h], h2, hW.trans (h2.mono hW.size)⟩
  cases hc : beatChk x
  case false =>
    have EN : Hid (∀ W, Below W1.heap.size W1 W → Calls Try.prog 35 #[.agg #[.int .u64 x.v, .int .u64 x.ap, .int .u64 x.be, .int .u64 x.st, .slice a n c]] W fun e w' => (∃ a c, e = .returned (.tuple #[.slice a 0 c, .int .i64 1])) ∧ Below W1.heap.size W1 w') := hid fun W hW => (encodeBeat_any (c := c) hn (by have := HNM.out; omega) HI.out.ok (HI.out.row.ext hW)).mono fun e w' ⟨v, h1, h2, h3⟩ => by
      rw [hc] at h1 h2
      simp only [Bool.false_eq_true, if_false] at h2
      obtain ⟨a, c, rfl, -, -⟩ := h2.row
      exact ⟨⟨a, c, h1⟩, hW.trans (h3.mono hW.size)⟩
    have HC := hid hc
    clear hc
    go_wp2_with fail
    (with_reducible refine (EN.out _ HB7.out).mono ?_)
    rintro e w8 ⟨⟨a8, c8, rfl⟩, hb8⟩
    have HB8 := hid hb8
    clear c0 c1 c2 c3' c4 EN
    obtain ⟨c0, c1, c2, c3', c4⟩ := HX.out _ hb8
    clear hb8
    go_wp2_with (first
      | (go_at_call 36; (with_reducible refine (HCK.out _ HC.out _ HB8.out).mono ?_); rintro e w9 ⟨rfl, -, hb9⟩)
      | (go_at_call 26; (with_reducible refine (AW.out _ hb9).mono ?_); rintro e w10 ⟨rfl, hb10⟩))
    go_ret
    exact ⟨rfl, HB1.out.trans (hb10.mono HB1.out.size)⟩
  case true =>
    obtain ⟨F, hF⟩ : ∃ F, beatF x = F := ⟨_, rfl⟩
    obtain ⟨NF, hNF⟩ : ∃ N, F.length = N := ⟨_, rfl⟩
    have hNFl : NF ≤ 30000 := by
      have := beatF_len HI.out.lt HI.out.ok (by rw [hn.out]; have := HNM.out; omega)
      rw [hF, hNF] at this; exact this
    have EN : Hid (∀ W, Below W1.heap.size W1 W → Calls Try.prog 35 #[.agg #[.int .u64 x.v, .int .u64 x.ap, .int .u64 x.be, .int .u64 x.st, .slice a n c]] W fun e w' => ∃ a c, e = .returned (.tuple #[.slice a NF c, .int .i64 0]) ∧ ByteRow w' a F ∧ Below W1.heap.size W1 w') := hid fun W hW => (encodeBeat_any (c := c) hn (by have := HNM.out; omega) HI.out.ok (HI.out.row.ext hW)).mono fun e w' ⟨v, h1, h2, h3⟩ => by
      rw [hc] at h1 h2
      rw [if_pos rfl, hF] at h2
      obtain ⟨a, c, rfl, hr, -⟩ := h2.row
      rw [hNF] at h1
      exact ⟨a, c, h1, hr, hW.trans (h3.mono hW.size)⟩
    have BK : Hid (rBeat F = (x, 0)) := hid (by rw [← hF]; exact rBeat_back HI.out.ok hc)
    have BY : Hid (∀ b ∈ F, b < 256) := hid (by rw [← hF]; exact beatF_byte)
    have BF : Hid (∀ W, Below W1.heap.size W1 W → Calls Try.prog 37 #[.agg #[.int .u64 x.v, .int .u64 x.ap, .int .u64 x.be, .int .u64 x.st, .slice a n c]] W fun e w' => ∃ a c, e = .returned (.slice a NF c) ∧ ByteRow w' a F ∧ Below W.heap.size W w' ∧ Below W1.heap.size W1 w') := hid fun W hW => rowN hW (beatForm_any (c := c) hn (by have := HNM.out; omega) HI.out.lt HI.out.ok (HI.out.row.ext hW)) hF hNF
    have HNF := hid hNF
    have HC := hid hc
    clear hc hF hNF
    go_wp2_with fail
    (with_reducible refine (EN.out _ HB7.out).mono ?_)
    rintro e w8 ⟨a8, c8, rfl, hr8, hb8⟩
    have HB8 := hid hb8
    have HR8 := hid hr8
    clear c0 c1 c2 c3' c4 EN hr8
    obtain ⟨c0, c1, c2, c3', c4⟩ := HX.out _ hb8
    clear hb8
    go_wp2_with fail
    (with_reducible refine (HCK.out _ HC.out _ HB8.out).mono ?_)
    rintro e w9 ⟨rfl, hbb9, hb9⟩
    have hr9 := HR8.out.ext hbb9
    have D3 := hid (decodeBeat_is (bc := c8) hb9 BK hn HNF (by omega) BY.out hr9)
    have HR9 := hid hr9
    clear c0 c1 c2 c3' c4 hbb9 hb9 hr9 HR8 HB8
    go_wp2_with fail
    (with_reducible refine D3.out.mono ?_)
    rintro e w10 ⟨a10, c10, rfl, hr10, hbb10, hb10⟩
    have hq10 : Below w10.heap.size w10 (w10.alloc (.cells #[.int .u64 x.v, .int .u64 x.ap, .int .u64 x.be, .int .u64 x.st, .slice a10 n c10] 54)) := (Below.refl _ _).alloc (Nat.le_refl _) _
    have hy10 : BeatBox (w10.alloc (.cells #[.int .u64 x.v, .int .u64 x.ap, .int .u64 x.be, .int .u64 x.st, .slice a10 n c10] 54)) w10.heap.size x a10 n c10 := BeatBox.made w10
    obtain ⟨w11, hw11⟩ : ∃ W, w10.alloc (.cells #[.int .u64 x.v, .int .u64 x.ap, .int .u64 x.be, .int .u64 x.st, .slice a10 n c10] 54) = W := ⟨_, rfl⟩
    obtain ⟨g10, hg10⟩ : ∃ g, w10.heap.size = g := ⟨_, rfl⟩
    rw [hw11] at hy10 hq10
    rw [hg10] at hy10
    have HY11 := hid hy10
    have HB11 := hid (hb10.trans (hq10.mono hb10.size))
    have HR11 := hid (HR9.out.ext (hbb10.trans (hq10.mono hbb10.size)))
    have HZ11 := hid (hr10.ext hq10)
    have HW11 := hid hw11
    clear hq10 hy10 hr10 hbb10 hb10 hw11 D3 HR9
    go_upto_region 11 with fail
    rw [HW11.out]
    obtain ⟨c0, c1, c2, c3', c4⟩ := HX.out _ HB11.out
    go_wp2_with fail
    (with_reducible refine (BF.out _ HB11.out).mono ?_)
    rintro e w12 ⟨a12, c12, rfl, hr12, hbb12, hb12⟩
    have SB := hid (sameB_is (ca := c8) (cb := c12) (hid (decide_eq_true (rfl : F = F))) HNF HNF (by omega) (by omega) (HR11.out.ext hbb12) hr12)
    have HB12 := hid hb12
    have HBB12 := hid hbb12
    clear c0 c1 c2 c3' c4 hr12 hbb12 hb12 BF HR11
    go_wp2_with fail
    (with_reducible refine SB.out.mono ?_)
    rintro e w13 ⟨rfl, hbb13⟩
    have hb13 := HB12.out.trans (hbb13.mono HB12.out.size)
    have hb1113 := HBB12.out.trans (hbb13.mono HBB12.out.size)
    have SM := hid (sameBeat_is (c := c10) (d := c) hb13 (rfl : x = x) hn hn (by have := HNM.out; omega) (HZ11.out.ext hb1113) (HI.out.row.ext hb13))
    obtain ⟨c0, c1, c2, c3', c4⟩ := HX.out _ hb13
    obtain ⟨d0, d1, d2, d3, d4⟩ := HY11.out.ext hb1113 HY11.out.lt
    clear hbb13 hb13 hb1113 SB HB12 HBB12 HZ11 HY11 HB11
    go_wp2_with (first
      | (go_at_call 34; (with_reducible refine SM.out.mono ?_); rintro e w14 ⟨rfl, hb14⟩)
      | (go_at_call 26; (with_reducible refine (AW.out _ hb14).mono ?_); rintro e w15 ⟨rfl, hb15⟩))
    go_ret
    exact ⟨rfl, HB1.out.trans (hb15.mono HB1.out.size)⟩
theorem msgBeats_law {x : BeatD} {a b : Option Addr} {c d : Nat} {bs : List Nat} {w : World} (hx : BeatIn w a x) (hrow : ByteRow w b bs) (hby : ∀ z ∈ bs, z < 256) (hcp : bs.length ≤ d) :
    Calls Try.prog 5 #[.agg #[.int .u64 x.v, .int .u64 x.ap, .int .u64 x.be, .int .u64 x.st, .slice a x.sus.length c], .slice b bs.length d] w fun e w' => e = .returned (.bool true) ∧ Below w.heap.size w w' := msgBeats_any (hid rfl) (hid rfl) hx hrow hby hcp
end Go.Proofs.Ytbpfhclcjedkcaa

namespace Go.Proofs.Ytbpfhclcjedkcaa
open Go.RowKit Go.Deep Go.Joins Go.ChangeShapes
/-! ### from the row's reading to beats -/
theorem cellsBeat : Try.prog.cellsOf 54 = 5 := by kernel_rfl
theorem list5 {α : Type} {cs : List α} (h : cs.length = 5) : ∃ c0 c1 c2 c3 c4, cs = [c0, c1, c2, c3, c4] := by
  match cs, h with
  | [c0, c1, c2, c3, c4], _ => exact ⟨c0, c1, c2, c3, c4, rfl⟩
theorem trod_struct5 {H : Type} {enc : TypeId × Value → H} {P : Program} {w : World} {base : Nat} {spare : Nat → Bool} {held : Bool} {t : TypeId} {f0 f1 f2 f3 f4 : Field} {fuel : Nat} {cs : List Value} {x : DataW H × List MemPlace} (ht : P.underlying t = some (.struct #[f0, f1, f2, f3, f4])) (h : DataW.trod enc P w base spare held fuel t cs = some x) :
    ∃ y0 y1 y2 y3 y4 n, x.1 = .agg [y0.1, y1.1, y2.1, y3.1, y4.1] ∧ cs.length = P.cellsOf t ∧ DataW.trod enc P w base spare held n f0.type ((cs.drop f0.offset).take (P.cellsOf f0.type)) = some y0 ∧ DataW.trod enc P w base spare held n f1.type ((cs.drop f1.offset).take (P.cellsOf f1.type)) = some y1 ∧ DataW.trod enc P w base spare held n f2.type ((cs.drop f2.offset).take (P.cellsOf f2.type)) = some y2 ∧ DataW.trod enc P w base spare held n f3.type ((cs.drop f3.offset).take (P.cellsOf f3.type)) = some y3 ∧ DataW.trod enc P w base spare held n f4.type ((cs.drop f4.offset).take (P.cellsOf f4.type)) = some y4 := by
  obtain ⟨xs, n, _, rfl, hl, hlen, hf⟩ := DataW.trod_struct ht h
  match xs, hlen with
  | [y0, y1, y2, y3, y4], _ => exact ⟨y0, y1, y2, y3, y4, n, by simp, hl, by simpa using hf 0 f0 rfl, by simpa using hf 1 f1 rfl, by simpa using hf 2 f2 rfl, by simpa using hf 3 f3 rfl, by simpa using hf 4 f4 rfl⟩
section
variable {H : Type} {enc : TypeId × Value → H} {w : World}
set_option maxRecDepth 100000 in
theorem open_beatL {n : Nat} {cs : List Value} {x : DataW H × List MemPlace} (h : DataW.trod enc Try.prog w 0 (fun _ => true) true n 54 cs = some x) (hs : Sz 54 x.1) :
    ∃ (a : Option Addr) (c : Nat) (b : BeatD), cs = [.int .u64 b.v, .int .u64 b.ap, .int .u64 b.be, .int .u64 b.st, .slice a b.sus.length c] ∧ BeatIn w a b := by
  obtain ⟨y0, y1, y2, y3, y4, m, hx, hl, h0, h1, h2, h3, h4⟩ := trod_struct5 Try.underlying54 h
  rw [cellsBeat] at hl
  obtain ⟨v0, v1, v2, v3, v4, rfl⟩ := list5 hl
  have e0 : (([v0, v1, v2, v3, v4] : List Value).drop 0).take (Try.prog.cellsOf 29) = [v0] := by rw [cellsU64]; rfl
  have e1 : (([v0, v1, v2, v3, v4] : List Value).drop 1).take (Try.prog.cellsOf 29) = [v1] := by rw [cellsU64]; rfl
  have e2 : (([v0, v1, v2, v3, v4] : List Value).drop 2).take (Try.prog.cellsOf 29) = [v2] := by rw [cellsU64]; rfl
  have e3 : (([v0, v1, v2, v3, v4] : List Value).drop 3).take (Try.prog.cellsOf 29) = [v3] := by rw [cellsU64]; rfl
  have e4 : (([v0, v1, v2, v3, v4] : List Value).drop 4).take (Try.prog.cellsOf 30) = [v4] := by rw [cellsPids]; rfl
  have h0 := e0 ▸ h0
  have h1 := e1 ▸ h1
  have h2 := e2 ▸ h2
  have h3 := e3 ▸ h3
  have h4 := e4 ▸ h4
  have hw : ∀ k, k ∈ y4.1.weights Try.prog 30 → k ≤ reachBytes := by
    intro k hk
    refine hs k ?_
    have e : x.1.weights Try.prog 54 = y0.1.weights Try.prog 29 ++ (y1.1.weights Try.prog 29 ++ (y2.1.weights Try.prog 29 ++ (y3.1.weights Try.prog 29 ++ (y4.1.weights Try.prog 30 ++ [])))) := by
      rw [hx]; simp [DataW.weights, Try.underlying54, DataW.weightsEach]
    rw [e]
    simp only [List.mem_append, List.append_nil]
    exact .inr (.inr (.inr (.inr hk)))
  obtain ⟨i0, hi0, _, wi0⟩ := DataW.trod_int Try.underlying29 h0
  obtain ⟨i1, hi1, _, wi1⟩ := DataW.trod_int Try.underlying29 h1
  obtain ⟨i2, hi2, _, wi2⟩ := DataW.trod_int Try.underlying29 h2
  obtain ⟨i3, hi3, _, wi3⟩ := DataW.trod_int Try.underlying29 h3
  have b0 := bounds_u64 wi0
  have b1 := bounds_u64 wi1
  have b2 := bounds_u64 wi2
  have b3 := bounds_u64 wi3
  obtain ⟨k0, rfl⟩ : ∃ k : Nat, i0 = (k : Int) := ⟨i0.toNat, by omega⟩
  obtain ⟨k1, rfl⟩ : ∃ k : Nat, i1 = (k : Int) := ⟨i1.toNat, by omega⟩
  obtain ⟨k2, rfl⟩ : ∃ k : Nat, i2 = (k : Int) := ⟨i2.toNat, by omega⟩
  obtain ⟨k3, rfl⟩ : ∃ k : Nat, i3 = (k : Int) := ⟨i3.toNat, by omega⟩
  obtain ⟨a, c, l, hv4, rm, wm, bm⟩ := open_pids h4 hw
  cases hi0; cases hi1; cases hi2; cases hi3; cases hv4
  exact ⟨a, c, ⟨k0, k1, k2, k3, l⟩, rfl, ⟨rm, wm, ⟨by simp only; omega, by simp only; omega, by simp only; omega, by simp only; omega⟩⟩⟩
set_option maxRecDepth 100000 in
theorem open_beat {base : Nat} {v : Value} {d : DataW H} {p : List MemPlace} (hv : Value.okWide Try.prog w .any base 54 v) (h : DataW.Trod enc Try.prog w 0 (fun _ => true) true 54 v d p) (hs : Sz 54 d) :
    ∃ (a : Option Addr) (c : Nat) (b : BeatD), v = .agg #[.int .u64 b.v, .int .u64 b.ap, .int .u64 b.be, .int .u64 b.st, .slice a b.sus.length c] ∧ BeatIn w a b := by
  obtain ⟨cs, rfl, hsz⟩ := Go.WideShapes.okWide_struct Try.underlying54 hv
  obtain ⟨fuel, hf⟩ := h
  obtain ⟨a, c, b, hcs, hB⟩ := open_beatL (x := (d, p)) hf hs
  exact ⟨a, c, b, by rw [← Array.toArray_toList (xs := cs)]; simp only [Value.cells] at hcs; rw [hcs], hB⟩
end
end Go.Proofs.Ytbpfhclcjedkcaa

