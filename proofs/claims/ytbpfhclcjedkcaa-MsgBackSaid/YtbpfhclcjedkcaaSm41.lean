/- Parts of the proof: X78 X71. -/
import Derived.Test.YtbpfhclcjedkcaaSm40
import Derived.Test.YtbpfhclcjedkcaaSm6
import Derived.Test.YtbpfhclcjedkcaaX62b
import Derived.Test.YtbpfhclcjedkcaaX69
import Derived.Test.YtbpfhclcjedkcaaX70
import Derived.Test.YtbpfhclcjedkcaaX76
import Derived.Test.YtbpfhclcjedkcaaX77
namespace Go.Proofs.Ytbpfhclcjedkcaa
open Go.RowKit
/-! ### the law MsgDecodes -/
theorem putThere (w : World) : (w.alloc (.cells #[.int .i64 0, .int .u16 0, .int .u32 0, .int .u64 0, .int .u64 0, .int .u64 0, .int .i64 0, .int .u32 0, .int .u16 0, .int .u32 0, .int .u32 0, .int .u16 0, .int .u32 0, .bool false, .int .i64 0, .int .u16 0, .int .u32 0, .int .u64 0, .int .u64 0, .slice none 0 0, .int .u64 0, .slice none 0 0, .slice none 0 0, .slice none 0 0, .int .u64 0, .slice none 0 0, .slice none 0 0, .slice none 0 0, .slice none 0 0] 46)).there w.heap.size 0 29 := (ownZ w).there (by rw [ML_len]; decide)
theorem putBox (w : World) (A : MA) (m : MsgD) : MsgBox ((w.alloc (.cells #[.int .i64 0, .int .u16 0, .int .u32 0, .int .u64 0, .int .u64 0, .int .u64 0, .int .i64 0, .int .u32 0, .int .u16 0, .int .u32 0, .int .u32 0, .int .u16 0, .int .u32 0, .bool false, .int .i64 0, .int .u16 0, .int .u32 0, .int .u64 0, .int .u64 0, .slice none 0 0, .int .u64 0, .slice none 0 0, .slice none 0 0, .slice none 0 0, .int .u64 0, .slice none 0 0, .slice none 0 0, .slice none 0 0, .slice none 0 0] 46)).setCells w.heap.size 0 (ML A m)) w.heap.size A m := by
  have h1 := (ownZ w).sets (vs := ML A m) (o := 0) (by simp [ML_len])
  rw [setsZ] at h1
  exact h1.r
theorem putBelow (w : World) (A : MA) (m : MsgD) : Below w.heap.size w ((w.alloc (.cells #[.int .i64 0, .int .u16 0, .int .u32 0, .int .u64 0, .int .u64 0, .int .u64 0, .int .i64 0, .int .u32 0, .int .u16 0, .int .u32 0, .int .u32 0, .int .u16 0, .int .u32 0, .bool false, .int .i64 0, .int .u16 0, .int .u32 0, .int .u64 0, .int .u64 0, .slice none 0 0, .int .u64 0, .slice none 0 0, .slice none 0 0, .slice none 0 0, .int .u64 0, .slice none 0 0, .slice none 0 0, .slice none 0 0, .slice none 0 0] 46)).setCells w.heap.size 0 (ML A m)) :=
  below_setCells _ _ ((Below.refl _ _).alloc (Nat.le_refl _) _) (Nat.le_refl _)
set_option maxRecDepth 100000 in
set_option maxHeartbeats 12800000 in
theorem msgDecodes_any {a : Option Addr} {c n : Nat} {bs : List Nat} {w : World} (hn : Hid (bs.length = n)) (hc : n ≤ c) (hby : ∀ b ∈ bs, b < 256) (hrow : ByteRow w a bs) :
    Calls Try.prog 6 #[.slice a n c] w fun e w' => e = .returned (.bool true) ∧ Below w.heap.size w w' := by
  by_cases hbig : 2000 < n
  · have t1 : decide (2000 < n) = true := decide_eq_true hbig
    have t2 : decide ((2000 : Int) < (n : Int)) = true := decide_eq_true (by omega)
    have t3 : decide ((n : Int) > 2000) = true := decide_eq_true (by omega)
    clear hbig
    go_enter Try.func6, Try.ntmps6
    go_wp2_with (go_at_call 26; (with_reducible refine (awakeM_any _).mono ?_); rintro e w9 ⟨rfl, hb9⟩)
    go_ret
    exact ⟨rfl, hb9⟩
  · have t1 : decide (2000 < n) = false := decide_eq_false hbig
    have t2 : decide ((2000 : Int) < (n : Int)) = false := decide_eq_false (by omega)
    have t3 : decide ((n : Int) > 2000) = false := decide_eq_false (by omega)
    have hl : n ≤ 2000 := by omega
    clear hbig
    obtain ⟨⟨m, E⟩, hM⟩ : ∃ r, rMsg bs = r := ⟨_, rfl⟩
    have HM := hid hM
    have HBY := hid hby
    have LE := hid (lent_any (c := c) hn (by omega) hrow)
    have HROW := hid hrow
    clear hM hby hrow
    go_enter Try.func6, Try.ntmps6
    go_wp2_with fail
    (with_reducible refine LE.out.mono ?_)
    rintro e w2 ⟨g, rfl, -, hlent2, hb2⟩
    have hlow2 : ByteRow w2 (some ⟨g, 0, none⟩) bs := by
      have := hlent2.upto n
      have e : (lentL bs).take n = bs := by unfold lentL; rw [← hn.out, List.take_left]
      rwa [e] at this
    have D0 := msgDecode_any (bc := n + 8) hn (by omega) HBY.out hlow2
    rw [HM.out] at D0
    have D := hid D0
    have HL2 := hid hlent2
    clear D0 hlow2 hlent2 t1 t2 t3 LE
    go_wp2_with fail
    (with_reducible refine D.out.mono ?_)
    rintro e w3 ⟨A3, rfl, hmo3, hdk3, hb3⟩
    have HMO3 := hid hmo3
    have HDK3 := hid hdk3
    clear hmo3 hdk3 D
    obtain ⟨g4, hg4⟩ : ∃ q, w3.heap.size = q := ⟨_, rfl⟩
    obtain ⟨WZ, hWZ⟩ : ∃ WZ, w3.alloc (.cells #[.int .i64 0, .int .u16 0, .int .u32 0, .int .u64 0, .int .u64 0, .int .u64 0, .int .i64 0, .int .u32 0, .int .u16 0, .int .u32 0, .int .u32 0, .int .u16 0, .int .u32 0, .bool false, .int .i64 0, .int .u16 0, .int .u32 0, .int .u64 0, .int .u64 0, .slice none 0 0, .int .u64 0, .slice none 0 0, .slice none 0 0, .slice none 0 0, .int .u64 0, .slice none 0 0, .slice none 0 0, .slice none 0 0, .slice none 0 0] 46) = WZ := ⟨_, rfl⟩
    have ht0 : WZ.there g4 0 29 := by rw [← hWZ, ← hg4]; exact putThere w3
    have hb4 := putBelow w3 A3 m
    have x4 := putBox w3 A3 m
    rw [hWZ, hg4] at hb4 x4
    obtain ⟨w4, hw4⟩ : ∃ W, WZ.setCells g4 0 (ML A3 m) = W := ⟨_, rfl⟩
    rw [hw4] at hb4 x4
    have HQ := hid hg4
    have HB := hid hb4
    have HX := hid x4
    clear hg4 hb4 x4
    go_wp2_with (refine wpList_storeM (A := A3) (m := m) ht0 rfl rfl (by rw [← HQ.out]; rfl) rfl ?_; rw [hw4])
    have hg4 := HQ.out
    have hb4 := HB.out
    have x4 := HX.out
    clear hWZ hw4 ht0 HB HX
    rw [← hg4] at hb4 x4
    have hb24 : Below w2.heap.size w2 w4 := hb3.trans (hb4.mono hb3.size)
    have hb14 : Below w.heap.size w w4 := hb2.trans (hb24.mono hb2.size)
    have D0 := msgDecodeR_any (bc := c) hn (by omega) hc HBY.out (HROW.out.ext hb14)
    rw [HM.out] at D0
    have D := hid D0
    have HR4 := hid ((HMO3.out.r HDK3.out).ext hb4)
    have HL4 := hid (HL2.out.ext hb24)
    have HB14 := hid hb14
    have X4 := hid x4
    clear D0 hg4 HQ hb4 hb24 hb14 x4 HMO3 HDK3 hb3 hb2 HL2
    go_wp2_with fail
    (with_reducible refine D.out.mono ?_)
    rintro e w5 ⟨A5, rfl, hmo5, hdk5, hb5⟩
    have HMO5 := hid hmo5
    have HDK5 := hid hdk5
    clear hmo5 hdk5 D
    obtain ⟨g6, hg6⟩ : ∃ q, w5.heap.size = q := ⟨_, rfl⟩
    obtain ⟨WZ, hWZ⟩ : ∃ WZ, w5.alloc (.cells #[.int .i64 0, .int .u16 0, .int .u32 0, .int .u64 0, .int .u64 0, .int .u64 0, .int .i64 0, .int .u32 0, .int .u16 0, .int .u32 0, .int .u32 0, .int .u16 0, .int .u32 0, .bool false, .int .i64 0, .int .u16 0, .int .u32 0, .int .u64 0, .int .u64 0, .slice none 0 0, .int .u64 0, .slice none 0 0, .slice none 0 0, .slice none 0 0, .int .u64 0, .slice none 0 0, .slice none 0 0, .slice none 0 0, .slice none 0 0] 46) = WZ := ⟨_, rfl⟩
    have ht0 : WZ.there g6 0 29 := by rw [← hWZ, ← hg6]; exact putThere w5
    have hb6 := putBelow w5 A5 m
    have x6 := putBox w5 A5 m
    rw [hWZ, hg6] at hb6 x6
    obtain ⟨w6, hw6⟩ : ∃ W, WZ.setCells g6 0 (ML A5 m) = W := ⟨_, rfl⟩
    rw [hw6] at hb6 x6
    have HQ := hid hg6
    have HB := hid hb6
    have HX := hid x6
    clear hg6 hb6 x6
    go_upto_region 6 with (refine wpList_storeM (A := A5) (m := m) ht0 rfl rfl (by rw [← HQ.out]; rfl) rfl ?_; rw [hw6])
    have hg6 := HQ.out
    have hb6 := HB.out
    have x6 := HX.out
    clear hWZ hw6 ht0 HB HX
    rw [← hg6] at hb6 x6
    have hb46 : Below w4.heap.size w4 w6 := hb5.trans (hb6.mono hb5.size)
    have x4 := X4.out.ext hb46 X4.out.lt
    have hb16 : Below w.heap.size w w6 := HB14.out.trans (hb46.mono HB14.out.size)
    have SM0 := msgSameR_any (HR4.out.ext hb46) ((HMO5.out.r HDK5.out).ext hb6)
    rw [sameM_self] at SM0
    have SM := hid SM0
    have HL6 := hid (HL4.out.ext hb46)
    have HR6 := hid (HROW.out.ext hb16)
    have HB16 := hid hb16
    clear SM0 hg6 HQ hb6 hb46 hb16 HR4 HL4 HB14 X4 HMO5 HDK5 hb5 HROW
    go_wp2_with (first
      | (refine wpList_loadM x4 rfl rfl rfl ?_)
      | (refine wpList_loadM x6 rfl rfl rfl ?_)
      | (go_at_call 41; (with_reducible refine SM.out.mono ?_); rintro e w7 ⟨rfl, hb7⟩; have KP := hid (kept_any (c := c) hn (by omega) (HL6.out.ext hb7) (HR6.out.ext hb7)))
      | (go_at_call 42; (with_reducible refine KP.out.mono ?_); rintro e w8 ⟨rfl, hb8⟩)
      | (go_at_call 26; (with_reducible refine (awakeM_any _).mono ?_); rintro e w9 ⟨rfl, hb9⟩))
    go_ret
    have h69 : Below w6.heap.size w6 w9 := hb7.trans ((hb8.trans (hb9.mono hb8.size)).mono hb7.size)
    exact ⟨rfl, HB16.out.trans (h69.mono HB16.out.size)⟩
theorem msgDecodes_law {a : Option Addr} {c : Nat} {bs : List Nat} {w : World} (hrow : ByteRow w a bs) (hby : ∀ b ∈ bs, b < 256) (hcp : bs.length ≤ c) :
    Calls Try.prog 6 #[.slice a bs.length c] w fun e w' => e = .returned (.bool true) ∧ Below w.heap.size w w' := msgDecodes_any (hid rfl) hcp hby hrow
end Go.Proofs.Ytbpfhclcjedkcaa

namespace Go.Proofs.Ytbpfhclcjedkcaa
open Go.RowKit
/-! ### MsgEncodes' law -/
/-- a message as the row brings it -/
structure MsgIn (w : World) (A : MA) (m : MsgD) : Prop where
  c : CmdIn w A.da A.am A.al A.ad m.c
  v : ViewR w A.vm A.vl A.vd m.v
  vwf : WfView m.v
  yr : ByteRow w A.ya m.y
  yb : ∀ b ∈ m.y, b < 256
  who : okP m.who
  b : m.b.1 < 4294967296 ∧ okP m.b.2
  a : m.a.1 < 4294967296 ∧ okP m.a.2
  vw : m.vw < 18446744073709551616
  sl : m.sl < 18446744073709551616
  num : m.num < 18446744073709551616
theorem MsgIn.ext {w w' : World} {A : MA} {m : MsgD} (h : MsgIn w A m) (hb : Below w.heap.size w w') : MsgIn w' A m := ⟨h.c.ext hb, h.v.ext hb, h.vwf, h.yr.ext hb, h.yb, h.who, h.b, h.a, h.vw, h.sl, h.num⟩
theorem MsgIn.e {w : World} {A : MA} {m : MsgD} (h : MsgIn w A m) (hg : greatM m = false) : MsgE w A m := by
  obtain ⟨hy, hc, hv⟩ := greatM_no hg
  have g1 := greatC_no hc
  have g2 := great_noC hv
  exact ⟨⟨h.c.r hc, h.v, h.yr, h.yb, by omega⟩, ⟨by omega, by omega, h.c.wf.ms, h.vwf.ms, h.c.fr, h.who, h.b.2, h.a.2⟩, h.c, g1.1, h.vwf.id, h.b.1, h.a.1⟩
set_option maxRecDepth 100000 in
set_option maxHeartbeats 3200000 in
theorem msgGreat_any {A : MA} {m : MsgD} {w : World} {r : Bool} (hr : Hid (greatM m = r)) (hA : MsgIn w A m) :
    Calls Try.prog 25 #[.agg (ML A m).toArray] w fun e w' => e = .returned (.bool r) ∧ Below w.heap.size w w' := by
  obtain ⟨W1, hW1⟩ : ∃ W1, w.alloc (.cells (ML A m).toArray 46) = W1 := ⟨_, rfl⟩
  have hB1 : Below w.heap.size w W1 := by rw [← hW1]; exact (Below.refl _ _).alloc (Nat.le_refl _) _
  have xA : MsgBox W1 w.heap.size A m := by rw [← hW1]; exact MsgBox.made A m w _ _
  have HX : Hid (∀ W, Below W1.heap.size W1 W → MsgBox W w.heap.size A m) := hid fun W h => xA.ext h xA.lt
  have HA := hid (hA.ext hB1)
  have HB1 := hid hB1
  have a28 : W1.cell? ⟨w.heap.size, 28, none⟩ = some (.slice A.ya m.y.length A.yc) := xA.cell rfl
  obtain ⟨gc, hgc⟩ : ∃ g, greatC m.c = g := ⟨_, rfl⟩
  obtain ⟨gv, hgv⟩ : ∃ g, greatB m.v = g := ⟨_, rfl⟩
  obtain ⟨vi, hvi⟩ : ∃ vi : Nat, m.v.id = (vi : Int) := ⟨m.v.id.toNat, by have := hA.vwf.id; omega⟩
  have GC : Hid (Calls Try.prog 89 #[.agg (cmdV A m.c)] W1 fun e w' => e = .returned (.bool gc) ∧ Below W1.heap.size W1 w') := hid (cmdGreat_is (da := A.da) (dc := A.dc) (cm := A.cm) (cl := A.cl) (cd := A.cd) (hid hgc) (hA.ext hB1).c.v)
  have GV : Hid (∀ W, Below W1.heap.size W1 W → Calls Try.prog 18 #[.agg #[.int .u64 vi, .slice A.vm m.v.ms.length A.em, .slice A.vl m.v.ls.length A.el, .slice A.vd m.v.ds.length A.ed]] W fun e w' => e = .returned (.bool gv) ∧ Below W1.heap.size W1 w') := hid fun W h => relB h (great_i hvi (hid hgv) (HA.out.v.ext h))
  have HVI := hid hvi
  have HR : Hid ((decide (400 < m.y.length) || (gc || gv)) = r) := hid (by rw [← hr.out, ← hgc, ← hgv]; rfl)
  clear hA hB1 hgc hgv hvi
  by_cases hy : 400 < m.y.length
  · have t1 : decide (400 < m.y.length) = true := decide_eq_true hy
    have t2 : decide ((m.y.length : Int) > 400) = true := decide_eq_true (by omega)
    have t3 : decide ((400 : Int) < (m.y.length : Int)) = true := decide_eq_true (by omega)
    have HT : Hid (r = true) := hid (by rw [← HR.out, t1]; rfl)
    clear hy
    go_enter Try.func25, Try.ntmps25
    go_wp2
    go_ret
    exact ⟨by rw [HT.out]; rfl, HB1.out⟩
  have t1 : decide (400 < m.y.length) = false := decide_eq_false hy
  have t2 : decide ((m.y.length : Int) > 400) = false := decide_eq_false (by omega)
  have t3 : decide ((400 : Int) < (m.y.length : Int)) = false := decide_eq_false (by omega)
  have HT : Hid ((gc || gv) = r) := hid (by rw [← HR.out, t1]; rfl)
  clear hy
  have loads : ∀ W, Below W1.heap.size W1 W → W.cell? ⟨w.heap.size, 24, none⟩ = some (.int .u64 vi) ∧ W.cell? ⟨w.heap.size, 25, none⟩ = some (.slice A.vm m.v.ms.length A.em) ∧ W.cell? ⟨w.heap.size, 26, none⟩ = some (.slice A.vl m.v.ls.length A.el) ∧ W.cell? ⟨w.heap.size, 27, none⟩ = some (.slice A.vd m.v.ds.length A.ed) := fun W h => ⟨by rw [← HVI.out]; exact (HX.out W h).cell rfl, (HX.out W h).cell rfl, (HX.out W h).cell rfl, (HX.out W h).cell rfl⟩
  have HL := hid loads
  clear loads
  cases gc
  case true =>
    go_enter Try.func25, Try.ntmps25
    go_wp2_with (first
      | (refine wpList_loadMCw xA (by rfl) rfl rfl ?_)
      | (go_at_call 89; (with_reducible refine GC.out.mono ?_); rintro e w3 ⟨rfl, hb3⟩))
    go_ret
    exact ⟨by rw [← HT.out]; rfl, HB1.out.trans (hb3.mono HB1.out.size)⟩
  case false =>
    go_enter Try.func25, Try.ntmps25
    go_wp2_with (first
      | (refine wpList_loadMCw xA (by rfl) rfl rfl ?_)
      | (go_at_call 89; (with_reducible refine GC.out.mono ?_); rintro e w3 ⟨rfl, hb3⟩; obtain ⟨a24, a25, a26, a27⟩ := HL.out _ hb3)
      | (go_at_call 18; (with_reducible refine (GV.out _ hb3).mono ?_); rintro e w4 ⟨rfl, hb4⟩))
    go_ret
    exact ⟨by rw [← HT.out]; cases gv <;> rfl, HB1.out.trans (hb4.mono HB1.out.size)⟩
end Go.Proofs.Ytbpfhclcjedkcaa

