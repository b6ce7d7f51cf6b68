/- Parts of the proof: X67 X71 XM ShelfT Y1 Y2 Y3 A1 Z4 Z1 Z9 Z10 Z11 U1 ShelfB Z3 Z5 Z7. -/
import Derived.Shelf.Pu.ErrVarParseUint
import Derived.Shelf.Strings.Cut
import Derived.Shelf.Strconv.Itoa2
import Derived.Lib.ItoaNum
import Derived.Lib.IndexMore
import Derived.Lib.ParseIntBCases
import Derived.Shelf.Strconv.Itoa1
import Derived.Lib.ItoaMem
import Derived.Lib.AppendIntMem
import Derived.Lib.ItoaWalk
import Derived.Lib.LaidTab
import Derived.Lib.Walk
import Derived.BigCall
import Derived.BigGuard
import Derived.Laws.BytesString
import Derived.Shelf.Strings.Builder1
import Derived.Shelf.Strings.BuilderF
import Derived.Shelf.Strings.BuilderK
import Derived.Shelf.Strconv.Itoa3
import Derived.Lib.Builder
import Derived.Lib.AppendStr
import Derived.Lib.OthersKept
import Derived.Lib.FrozenHead
import Derived.Test.YtppapeoainafbaaGreatDoorX69
namespace Go.Proofs.YtppapeoainafbaaGreatDoor
open Go.RowKit
/-! ### messages: awake -/
def exM1 : MsgD := { zeroM with kind := 3, sl := 5 }
def exM2 : MsgD := { zeroM with kind := 14, vw := 1 }
theorem zeroE {m : MsgD} (hc : m.c = zeroC) (hv : m.v = zeroV) (hy : m.y = []) (hb : m.b = zeroBal) (ha : m.a = zeroBal) (hw : m.who = (0, 0)) (w : World) : MsgE w zeroA m := by
  have ok0 : okP (0, 0) := by unfold okP; decide
  refine ⟨⟨?_, ?_, ?_, ?_, ?_⟩, ⟨?_, ?_, ?_, ?_, ?_, ?_, ?_, ?_⟩, ?_, ?_, ?_, ?_, ?_⟩
  · rw [hc]; exact ⟨.inl rfl, Nat.zero_le _, (fun b hb => by simp [zeroC] at hb), viewR_zero w⟩
  · rw [hv]; exact viewR_zero w
  · rw [hy]; exact .inl rfl
  · rw [hy]; intro b hb; simp at hb
  · rw [hy]; exact Nat.zero_le _
  · rw [hc]; decide
  · rw [hv]; decide
  · rw [hc]; intro p hp; cases hp
  · rw [hv]; intro p hp; cases hp
  · rw [hc]; exact ok0
  · rw [hw]; exact ok0
  · rw [hb]; exact ok0
  · rw [ha]; exact ok0
  · rw [hc]; exact ⟨.inl rfl, (fun b hb => by simp [zeroC] at hb), viewR_zero w, ⟨by decide, (fun p hp => by cases hp), (fun l hl => by cases hl), (fun p hp => by cases hp)⟩, ok0, by decide, by decide⟩
  · rw [hc]; decide
  · rw [hv]; decide
  · rw [hb]; decide
  · rw [ha]; decide
theorem exFm1 : msgChk exM1 = true ∧ msgF exM1 = [3, 5] := by
  refine ⟨by decide, ?_⟩
  show short 3 ++ ([2].flatMap (letF exM1)) = _
  have : letF exM1 2 = short 5 := rfl
  rw [List.flatMap_cons, List.flatMap_nil, this, short_lt (by decide), short_lt (by decide)]; rfl
theorem exF2M : msgChk exM2 = true ∧ msgF exM2 = [14, 1] := by
  refine ⟨by decide, ?_⟩
  show short 14 ++ ([1].flatMap (letF exM2)) = _
  have : letF exM2 1 = short 1 := rfl
  rw [List.flatMap_cons, List.flatMap_nil, this, short_lt (by decide), short_lt (by decide)]; rfl
theorem encX {m : MsgD} {F : List Nat} {n : Nat} (h : msgChk m = true ∧ msgF m = F) (hn : F.length = n) {w : World} (hE : MsgE w zeroA m) : Calls Tryz.prog 21 #[.agg (ML zeroA m).toArray] w fun e w' => ∃ a c, e = .returned (.tuple #[.slice a n c, .int .i64 0]) ∧ ByteRow w' a F ∧ Below w.heap.size w w' := by
  refine (msgEncode_any hE).mono ?_
  rintro e w' ⟨v, rfl, hown, hb⟩
  rw [h.1, if_pos rfl, h.2] at hown
  obtain ⟨a, c, rfl, hr, -⟩ := hown.row
  rw [hn, h.1]
  exact ⟨a, c, rfl, hr, hb⟩
theorem enc1 (w : World) : Calls Tryz.prog 21 #[.agg #[.int .i64 3, .int .u16 0, .int .u32 0, .int .u64 0, .int .u64 5, .int .u64 0, .int .i64 0, .int .u32 0, .int .u16 0, .int .u32 0, .int .u32 0, .int .u16 0, .int .u32 0, .bool false, .int .i64 0, .int .u16 0, .int .u32 0, .int .u64 0, .int .u64 0, .slice none 0 0, .int .u64 0, .slice none 0 0, .slice none 0 0, .slice none 0 0, .int .u64 0, .slice none 0 0, .slice none 0 0, .slice none 0 0, .slice none 0 0]] w fun e w' => ∃ a c, e = .returned (.tuple #[.slice a 2 c, .int .i64 0]) ∧ ByteRow w' a [3, 5] ∧ Below w.heap.size w w' := encX (m := exM1) exFm1 rfl (zeroE rfl rfl rfl rfl rfl rfl w)
theorem enc2 (w : World) : Calls Tryz.prog 21 #[.agg #[.int .i64 14, .int .u16 0, .int .u32 0, .int .u64 1, .int .u64 0, .int .u64 0, .int .i64 0, .int .u32 0, .int .u16 0, .int .u32 0, .int .u32 0, .int .u16 0, .int .u32 0, .bool false, .int .i64 0, .int .u16 0, .int .u32 0, .int .u64 0, .int .u64 0, .slice none 0 0, .int .u64 0, .slice none 0 0, .slice none 0 0, .slice none 0 0, .int .u64 0, .slice none 0 0, .slice none 0 0, .slice none 0 0, .slice none 0 0]] w fun e w' => ∃ a c, e = .returned (.tuple #[.slice a 2 c, .int .i64 0]) ∧ ByteRow w' a [14, 1] ∧ Below w.heap.size w w' := encX (m := exM2) exF2M rfl (zeroE rfl rfl rfl rfl rfl rfl w)
theorem ByteRow.two (w : World) (x y : Nat) : ByteRow (w.alloc (.cells #[.int .u8 x, .int .u8 y] 5)) (some ⟨w.heap.size, 0, none⟩) [x, y] :=
  .inr ⟨w.heap.size, 0, rfl, by simp, fun i hi => by
    simp only [List.length_cons, List.length_nil] at hi
    match i, hi with
    | 0, _ => simp
    | 1, _ => simp⟩
theorem same2 {a b : Option Addr} {ca cb : Nat} {x y : Nat} {w : World} (hx : ByteRow w a [x, y]) (hy : ByteRow w b [x, y]) : Calls Tryz.prog 22 #[.slice a 2 ca, .slice b 2 cb] w fun e w' => e = .returned (.bool true) ∧ Below w.heap.size w w' :=
  (sameB_is (bm := true) (n := 2) (m := 2) (hid (by simp)) (hid rfl) (hid rfl) (by omega) (by omega) hx hy).mono fun _ _ ⟨h1, h2⟩ => ⟨h1, h2⟩
set_option maxRecDepth 100000 in
set_option maxHeartbeats 3200000 in
theorem awakeM_any (w : World) : Calls Tryz.prog 6 #[] w fun e w' => e = .returned (.bool true) ∧ Below w.heap.size w w' := by
  have E1 := hid (enc1 w)
  go_enter Tryz.func6, Tryz.ntmps6
  go_wp2_with fail
  refine E1.out.mono ?_
  rintro e w1 ⟨a1, c1, rfl, hr1, hb1⟩
  have E2 := hid (enc2 w1)
  have HR1 := hid hr1
  have HB1 := hid hb1
  clear hr1 hb1 E1
  go_wp2_with fail
  refine E2.out.mono ?_
  rintro e w2 ⟨a2, c2, rfl, hr2, hb2⟩
  have hq2 : Below w2.heap.size w2 (w2.alloc (.cells #[.int .u8 3, .int .u8 5] 5)) := (Below.refl _ _).alloc (Nat.le_refl _) _
  have S1 := hid (same2 (ca := c1) (cb := 2) ((HR1.out.ext hb2).ext hq2) (ByteRow.two w2 3 5))
  have HR2 := hid (hr2.ext hq2)
  have HB2 := hid (HB1.out.trans ((hb2.trans (hq2.mono hb2.size)).mono HB1.out.size))
  clear hr2 hb2 hq2 E2 HR1 HB1
  go_wp2_with fail
  (with_reducible refine S1.out.mono ?_)
  rintro e w3 ⟨rfl, hb3⟩
  have hq3 : Below w3.heap.size w3 (w3.alloc (.cells #[.int .u8 14, .int .u8 1] 5)) := (Below.refl _ _).alloc (Nat.le_refl _) _
  have S2 := hid (same2 (ca := c2) (cb := 2) ((HR2.out.ext hb3).ext hq3) (ByteRow.two w3 14 1))
  have HB3 := hid (HB2.out.trans ((hb3.trans (hq3.mono hb3.size)).mono HB2.out.size))
  clear hb3 hq3 S1 HR2 HB2
  go_wp2_with fail
  (with_reducible refine S2.out.mono ?_)
  rintro e w4 ⟨rfl, hb4⟩
  have HB4 := hid (HB3.out.trans (hb4.mono HB3.out.size))
  clear hb4 S2
  go_wp2
  go_ret
  exact ⟨rfl, HB4.out⟩
end Go.Proofs.YtppapeoainafbaaGreatDoor


namespace Go.Proofs.YtppapeoainafbaaGreatDoor
open Go.RowKit
/-! ### MsgEncodes' law -/
/-- a message as the row brings it -/
structure MsgIn (w : World) (A : MA) (m : MsgD) : Prop where
  c : CmdIn w A.da A.am A.al A.ad m.c
  v : ViewR w A.vm A.vl A.vd m.v
  vwf : WfView m.v
  yr : ByteRow w A.ya m.y
  yb : ∀ b ∈ m.y, b < 256
  who : okP m.who
  b : m.b.1 < 4294967296 ∧ okP m.b.2
  a : m.a.1 < 4294967296 ∧ okP m.a.2
  vw : m.vw < 18446744073709551616
  sl : m.sl < 18446744073709551616
  num : m.num < 18446744073709551616
theorem MsgIn.ext {w w' : World} {A : MA} {m : MsgD} (h : MsgIn w A m) (hb : Below w.heap.size w w') : MsgIn w' A m := ⟨h.c.ext hb, h.v.ext hb, h.vwf, h.yr.ext hb, h.yb, h.who, h.b, h.a, h.vw, h.sl, h.num⟩
theorem MsgIn.e {w : World} {A : MA} {m : MsgD} (h : MsgIn w A m) (hg : greatM m = false) : MsgE w A m := by
  obtain ⟨hy, hc, hv⟩ := greatM_no hg
  have g1 := greatC_no hc
  have g2 := great_noC hv
  exact ⟨⟨h.c.r hc, h.v, h.yr, h.yb, by omega⟩, ⟨by omega, by omega, h.c.wf.ms, h.vwf.ms, h.c.fr, h.who, h.b.2, h.a.2⟩, h.c, g1.1, h.vwf.id, h.b.1, h.a.1⟩
set_option maxRecDepth 100000 in
set_option maxHeartbeats 3200000 in
theorem msgGreat_any {A : MA} {m : MsgD} {w : World} {r : Bool} (hr : Hid (greatM m = r)) (hA : MsgIn w A m) :
    Calls Tryz.prog 5 #[.agg (ML A m).toArray] w fun e w' => e = .returned (.bool r) ∧ Below w.heap.size w w' := by
  obtain ⟨W1, hW1⟩ : ∃ W1, w.alloc (.cells (ML A m).toArray 37) = W1 := ⟨_, rfl⟩
  have hB1 : Below w.heap.size w W1 := by rw [← hW1]; exact (Below.refl _ _).alloc (Nat.le_refl _) _
  have xA : MsgBox W1 w.heap.size A m := by rw [← hW1]; exact MsgBox.made A m w _ _
  have HX : Hid (∀ W, Below W1.heap.size W1 W → MsgBox W w.heap.size A m) := hid fun W h => xA.ext h xA.lt
  have HA := hid (hA.ext hB1)
  have HB1 := hid hB1
  have a28 : W1.cell? ⟨w.heap.size, 28, none⟩ = some (.slice A.ya m.y.length A.yc) := xA.cell rfl
  obtain ⟨gc, hgc⟩ : ∃ g, greatC m.c = g := ⟨_, rfl⟩
  obtain ⟨gv, hgv⟩ : ∃ g, greatB m.v = g := ⟨_, rfl⟩
  obtain ⟨vi, hvi⟩ : ∃ vi : Nat, m.v.id = (vi : Int) := ⟨m.v.id.toNat, by have := hA.vwf.id; omega⟩
  have GC : Hid (Calls Tryz.prog 20 #[.agg (cmdV A m.c)] W1 fun e w' => e = .returned (.bool gc) ∧ Below W1.heap.size W1 w') := hid (cmdGreat_is (da := A.da) (dc := A.dc) (cm := A.cm) (cl := A.cl) (cd := A.cd) (hid hgc) (hA.ext hB1).c.v)
  have GV : Hid (∀ W, Below W1.heap.size W1 W → Calls Tryz.prog 12 #[.agg #[.int .u64 vi, .slice A.vm m.v.ms.length A.em, .slice A.vl m.v.ls.length A.el, .slice A.vd m.v.ds.length A.ed]] W fun e w' => e = .returned (.bool gv) ∧ Below W1.heap.size W1 w') := hid fun W h => relB h (great_i hvi (hid hgv) (HA.out.v.ext h))
  have HVI := hid hvi
  have HR : Hid ((decide (400 < m.y.length) || (gc || gv)) = r) := hid (by rw [← hr.out, ← hgc, ← hgv]; rfl)
  clear hA hB1 hgc hgv hvi
  by_cases hy : 400 < m.y.length
  · have t1 : decide (400 < m.y.length) = true := decide_eq_true hy
    have t2 : decide ((m.y.length : Int) > 400) = true := decide_eq_true (by omega)
    have t3 : decide ((400 : Int) < (m.y.length : Int)) = true := decide_eq_true (by omega)
    have HT : Hid (r = true) := hid (by rw [← HR.out, t1]; rfl)
    clear hy
    go_enter Tryz.func5, Tryz.ntmps5
    go_wp2
    go_ret
    exact ⟨by rw [HT.out]; rfl, HB1.out⟩
  have t1 : decide (400 < m.y.length) = false := decide_eq_false hy
  have t2 : decide ((m.y.length : Int) > 400) = false := decide_eq_false (by omega)
  have t3 : decide ((400 : Int) < (m.y.length : Int)) = false := decide_eq_false (by omega)
  have HT : Hid ((gc || gv) = r) := hid (by rw [← HR.out, t1]; rfl)
  clear hy
  have loads : ∀ W, Below W1.heap.size W1 W → W.cell? ⟨w.heap.size, 24, none⟩ = some (.int .u64 vi) ∧ W.cell? ⟨w.heap.size, 25, none⟩ = some (.slice A.vm m.v.ms.length A.em) ∧ W.cell? ⟨w.heap.size, 26, none⟩ = some (.slice A.vl m.v.ls.length A.el) ∧ W.cell? ⟨w.heap.size, 27, none⟩ = some (.slice A.vd m.v.ds.length A.ed) := fun W h => ⟨by rw [← HVI.out]; exact (HX.out W h).cell rfl, (HX.out W h).cell rfl, (HX.out W h).cell rfl, (HX.out W h).cell rfl⟩
  have HL := hid loads
  clear loads
  cases gc
  case true =>
    go_enter Tryz.func5, Tryz.ntmps5
    go_wp2_with (first
      | (refine wpList_loadMCw xA (by rfl) rfl rfl ?_)
      | (go_at_call 20; (with_reducible refine GC.out.mono ?_); rintro e w3 ⟨rfl, hb3⟩))
    go_ret
    exact ⟨by rw [← HT.out]; rfl, HB1.out.trans (hb3.mono HB1.out.size)⟩
  case false =>
    go_enter Tryz.func5, Tryz.ntmps5
    go_wp2_with (first
      | (refine wpList_loadMCw xA (by rfl) rfl rfl ?_)
      | (go_at_call 20; (with_reducible refine GC.out.mono ?_); rintro e w3 ⟨rfl, hb3⟩; obtain ⟨a24, a25, a26, a27⟩ := HL.out _ hb3)
      | (go_at_call 12; (with_reducible refine (GV.out _ hb3).mono ?_); rintro e w4 ⟨rfl, hb4⟩))
    go_ret
    exact ⟨by rw [← HT.out]; cases gv <;> rfl, HB1.out.trans (hb4.mono HB1.out.size)⟩
end Go.Proofs.YtppapeoainafbaaGreatDoor

namespace Go.Proofs.YtppapeoainafbaaGreatDoor
open Go.RowKit Go.Deep Go.Joins Go.ChangeShapes
/-! ### from the row's reading to messages -/
theorem cellsBal : Tryz.prog.cellsOf 28 = 3 := by kernel_rfl
theorem cellsBool : Tryz.prog.cellsOf 4 = 1 := by kernel_rfl
theorem cellsMsg : Tryz.prog.cellsOf 37 = 29 := by kernel_rfl
theorem list3 {α : Type} {cs : List α} (h : cs.length = 3) : ∃ c0 c1 c2, cs = [c0, c1, c2] := by
  match cs, h with
  | [c0, c1, c2], _ => exact ⟨c0, c1, c2, rfl⟩
theorem list29 {α : Type} {cs : List α} (h : cs.length = 29) : ∃ v0 v1 v2 v3 v4 v5 v6 v7 v8 v9 v10 v11 v12 v13 v14 v15 v16 v17 v18 v19 v20 v21 v22 v23 v24 v25 v26 v27 v28, cs = [v0, v1, v2, v3, v4, v5, v6, v7, v8, v9, v10, v11, v12, v13, v14, v15, v16, v17, v18, v19, v20, v21, v22, v23, v24, v25, v26, v27, v28] := by
  match cs, h with
  | [v0, v1, v2, v3, v4, v5, v6, v7, v8, v9, v10, v11, v12, v13, v14, v15, v16, v17, v18, v19, v20, v21, v22, v23, v24, v25, v26, v27, v28], _ => exact ⟨v0, v1, v2, v3, v4, v5, v6, v7, v8, v9, v10, v11, v12, v13, v14, v15, v16, v17, v18, v19, v20, v21, v22, v23, v24, v25, v26, v27, v28, rfl⟩
theorem trod_struct12 {H : Type} {enc : TypeId × Value → H} {P : Program} {w : World} {base : Nat} {spare : Nat → Bool} {held : Bool} {t : TypeId} {f0 f1 f2 f3 f4 f5 f6 f7 f8 f9 f10 f11 : Field} {fuel : Nat} {cs : List Value} {x : DataW H × List MemPlace} (ht : P.underlying t = some (.struct #[f0, f1, f2, f3, f4, f5, f6, f7, f8, f9, f10, f11])) (h : DataW.trod enc P w base spare held fuel t cs = some x) :
    ∃ y0 y1 y2 y3 y4 y5 y6 y7 y8 y9 y10 y11 n, x.1 = .agg [y0.1, y1.1, y2.1, y3.1, y4.1, y5.1, y6.1, y7.1, y8.1, y9.1, y10.1, y11.1] ∧ cs.length = P.cellsOf t ∧ DataW.trod enc P w base spare held n f0.type ((cs.drop f0.offset).take (P.cellsOf f0.type)) = some y0 ∧ DataW.trod enc P w base spare held n f1.type ((cs.drop f1.offset).take (P.cellsOf f1.type)) = some y1 ∧ DataW.trod enc P w base spare held n f2.type ((cs.drop f2.offset).take (P.cellsOf f2.type)) = some y2 ∧ DataW.trod enc P w base spare held n f3.type ((cs.drop f3.offset).take (P.cellsOf f3.type)) = some y3 ∧ DataW.trod enc P w base spare held n f4.type ((cs.drop f4.offset).take (P.cellsOf f4.type)) = some y4 ∧ DataW.trod enc P w base spare held n f5.type ((cs.drop f5.offset).take (P.cellsOf f5.type)) = some y5 ∧ DataW.trod enc P w base spare held n f6.type ((cs.drop f6.offset).take (P.cellsOf f6.type)) = some y6 ∧ DataW.trod enc P w base spare held n f7.type ((cs.drop f7.offset).take (P.cellsOf f7.type)) = some y7 ∧ DataW.trod enc P w base spare held n f8.type ((cs.drop f8.offset).take (P.cellsOf f8.type)) = some y8 ∧ DataW.trod enc P w base spare held n f9.type ((cs.drop f9.offset).take (P.cellsOf f9.type)) = some y9 ∧ DataW.trod enc P w base spare held n f10.type ((cs.drop f10.offset).take (P.cellsOf f10.type)) = some y10 ∧ DataW.trod enc P w base spare held n f11.type ((cs.drop f11.offset).take (P.cellsOf f11.type)) = some y11 := by
  obtain ⟨xs, n, _, rfl, hl, hlen, hf⟩ := DataW.trod_struct ht h
  match xs, hlen with
  | [y0, y1, y2, y3, y4, y5, y6, y7, y8, y9, y10, y11], _ => exact ⟨y0, y1, y2, y3, y4, y5, y6, y7, y8, y9, y10, y11, n, by simp, hl, by simpa using hf 0 f0 rfl, by simpa using hf 1 f1 rfl, by simpa using hf 2 f2 rfl, by simpa using hf 3 f3 rfl, by simpa using hf 4 f4 rfl, by simpa using hf 5 f5 rfl, by simpa using hf 6 f6 rfl, by simpa using hf 7 f7 rfl, by simpa using hf 8 f8 rfl, by simpa using hf 9 f9 rfl, by simpa using hf 10 f10 rfl, by simpa using hf 11 f11 rfl⟩
section
variable {H : Type} {enc : TypeId × Value → H} {w : World}
set_option maxRecDepth 100000 in
theorem open_bal {n : Nat} {cs : List Value} {x : DataW H × List MemPlace} (h : DataW.trod enc Tryz.prog w 0 (fun _ => true) true n 28 cs = some x) :
    ∃ b : Bal, cs = [.int .u32 b.1, .int .u16 b.2.1, .int .u32 b.2.2] ∧ b.1 < 4294967296 ∧ okP b.2 := by
  obtain ⟨y0, y1, m, _, hl, h0, h1⟩ := trod_struct2 Tryz.underlying28 h
  rw [cellsBal] at hl
  obtain ⟨c0, c1, c2, rfl⟩ := list3 hl
  have e0 : (([c0, c1, c2] : List Value).drop 0).take (Tryz.prog.cellsOf 23) = [c0] := by rw [cellsU32]; rfl
  have e1 : (([c0, c1, c2] : List Value).drop 1).take (Tryz.prog.cellsOf 25) = [c1, c2] := by rw [cellsPid]; rfl
  obtain ⟨i, hi, _, wi⟩ := DataW.trod_int Tryz.underlying23 (e0 ▸ h0)
  obtain ⟨x, y, hp, hb⟩ := open_pid (e1 ▸ h1)
  have b0 := bounds_u32 wi
  obtain ⟨k, rfl⟩ : ∃ k : Nat, i = (k : Int) := ⟨i.toNat, by omega⟩
  cases hi; cases hp
  exact ⟨(k, (x, y)), rfl, by simp only; omega, hb⟩
set_option maxRecDepth 100000 in
set_option maxHeartbeats 3200000 in
theorem open_msgL {n : Nat} {cs : List Value} {x : DataW H × List MemPlace} (h : DataW.trod enc Tryz.prog w 0 (fun _ => true) true n 37 cs = some x) (hs : Sz 37 x.1) :
    ∃ (A : MA) (m : MsgD), cs = ML A m ∧ MsgIn w A m := by
  obtain ⟨y0, y1, y2, y3, y4, y5, y6, y7, y8, y9, y10, y11, mm, hx, hl, h0, h1, h2, h3, h4, h5, h6, h7, h8, h9, h10, h11⟩ := trod_struct12 Tryz.underlying37 h
  rw [cellsMsg] at hl
  obtain ⟨v0, v1, v2, v3, v4, v5, v6, v7, v8, v9, v10, v11, v12, v13, v14, v15, v16, v17, v18, v19, v20, v21, v22, v23, v24, v25, v26, v27, v28, rfl⟩ := list29 hl
  have e0 : (([v0, v1, v2, v3, v4, v5, v6, v7, v8, v9, v10, v11, v12, v13, v14, v15, v16, v17, v18, v19, v20, v21, v22, v23, v24, v25, v26, v27, v28] : List Value).drop 0).take (Tryz.prog.cellsOf 3) = [v0] := by rw [cellsInt]; rfl
  have e1 : (([v0, v1, v2, v3, v4, v5, v6, v7, v8, v9, v10, v11, v12, v13, v14, v15, v16, v17, v18, v19, v20, v21, v22, v23, v24, v25, v26, v27, v28] : List Value).drop 1).take (Tryz.prog.cellsOf 25) = [v1, v2] := by rw [cellsPid]; rfl
  have e2 : (([v0, v1, v2, v3, v4, v5, v6, v7, v8, v9, v10, v11, v12, v13, v14, v15, v16, v17, v18, v19, v20, v21, v22, v23, v24, v25, v26, v27, v28] : List Value).drop 3).take (Tryz.prog.cellsOf 26) = [v3] := by rw [cellsU64]; rfl
  have e3 : (([v0, v1, v2, v3, v4, v5, v6, v7, v8, v9, v10, v11, v12, v13, v14, v15, v16, v17, v18, v19, v20, v21, v22, v23, v24, v25, v26, v27, v28] : List Value).drop 4).take (Tryz.prog.cellsOf 26) = [v4] := by rw [cellsU64]; rfl
  have e4 : (([v0, v1, v2, v3, v4, v5, v6, v7, v8, v9, v10, v11, v12, v13, v14, v15, v16, v17, v18, v19, v20, v21, v22, v23, v24, v25, v26, v27, v28] : List Value).drop 5).take (Tryz.prog.cellsOf 26) = [v5] := by rw [cellsU64]; rfl
  have e5 : (([v0, v1, v2, v3, v4, v5, v6, v7, v8, v9, v10, v11, v12, v13, v14, v15, v16, v17, v18, v19, v20, v21, v22, v23, v24, v25, v26, v27, v28] : List Value).drop 6).take (Tryz.prog.cellsOf 3) = [v6] := by rw [cellsInt]; rfl
  have e6 : (([v0, v1, v2, v3, v4, v5, v6, v7, v8, v9, v10, v11, v12, v13, v14, v15, v16, v17, v18, v19, v20, v21, v22, v23, v24, v25, v26, v27, v28] : List Value).drop 7).take (Tryz.prog.cellsOf 28) = [v7, v8, v9] := by rw [cellsBal]; rfl
  have e7 : (([v0, v1, v2, v3, v4, v5, v6, v7, v8, v9, v10, v11, v12, v13, v14, v15, v16, v17, v18, v19, v20, v21, v22, v23, v24, v25, v26, v27, v28] : List Value).drop 10).take (Tryz.prog.cellsOf 28) = [v10, v11, v12] := by rw [cellsBal]; rfl
  have e8 : (([v0, v1, v2, v3, v4, v5, v6, v7, v8, v9, v10, v11, v12, v13, v14, v15, v16, v17, v18, v19, v20, v21, v22, v23, v24, v25, v26, v27, v28] : List Value).drop 13).take (Tryz.prog.cellsOf 4) = [v13] := by rw [cellsBool]; rfl
  have e9 : (([v0, v1, v2, v3, v4, v5, v6, v7, v8, v9, v10, v11, v12, v13, v14, v15, v16, v17, v18, v19, v20, v21, v22, v23, v24, v25, v26, v27, v28] : List Value).drop 14).take (Tryz.prog.cellsOf 35) = [v14, v15, v16, v17, v18, v19, v20, v21, v22, v23] := by rw [cellsCmd]; rfl
  have e10 : (([v0, v1, v2, v3, v4, v5, v6, v7, v8, v9, v10, v11, v12, v13, v14, v15, v16, v17, v18, v19, v20, v21, v22, v23, v24, v25, v26, v27, v28] : List Value).drop 24).take (Tryz.prog.cellsOf 33) = [v24, v25, v26, v27] := by rw [cellsView]; rfl
  have e11 : (([v0, v1, v2, v3, v4, v5, v6, v7, v8, v9, v10, v11, v12, v13, v14, v15, v16, v17, v18, v19, v20, v21, v22, v23, v24, v25, v26, v27, v28] : List Value).drop 28).take (Tryz.prog.cellsOf 29) = [v28] := by rw [cellsBytes]; rfl
  have h0 := e0 ▸ h0
  have h1 := e1 ▸ h1
  have h2 := e2 ▸ h2
  have h3 := e3 ▸ h3
  have h4 := e4 ▸ h4
  have h5 := e5 ▸ h5
  have h6 := e6 ▸ h6
  have h7 := e7 ▸ h7
  have h8 := e8 ▸ h8
  have h9 := e9 ▸ h9
  have h10 := e10 ▸ h10
  have h11 := e11 ▸ h11
  have hw : ∀ k, (k ∈ y9.1.weights Tryz.prog 35 ∨ k ∈ y10.1.weights Tryz.prog 33) → k ≤ reachBytes := by
    intro k hk
    refine hs k ?_
    have e : x.1.weights Tryz.prog 37 = y0.1.weights Tryz.prog 3 ++ (y1.1.weights Tryz.prog 25 ++ (y2.1.weights Tryz.prog 26 ++ (y3.1.weights Tryz.prog 26 ++ (y4.1.weights Tryz.prog 26 ++ (y5.1.weights Tryz.prog 3 ++ (y6.1.weights Tryz.prog 28 ++ (y7.1.weights Tryz.prog 28 ++ (y8.1.weights Tryz.prog 4 ++ (y9.1.weights Tryz.prog 35 ++ (y10.1.weights Tryz.prog 33 ++ (y11.1.weights Tryz.prog 29 ++ []))))))))))) := by
      rw [hx]; simp [DataW.weights, Tryz.underlying37, DataW.weightsEach]
    rw [e]
    simp only [List.mem_append, List.append_nil]
    rcases hk with hk | hk
    · exact .inr (.inr (.inr (.inr (.inr (.inr (.inr (.inr (.inr (.inl hk)))))))))
    · exact .inr (.inr (.inr (.inr (.inr (.inr (.inr (.inr (.inr (.inr (.inl hk))))))))))
  obtain ⟨kd, hkd, _, wk⟩ := DataW.trod_int Tryz.underlying3 h0
  obtain ⟨px, py, hp, hpb⟩ := open_pid h1
  obtain ⟨n1, hn1, _, wn1⟩ := DataW.trod_int Tryz.underlying26 h2
  obtain ⟨n2, hn2, _, wn2⟩ := DataW.trod_int Tryz.underlying26 h3
  obtain ⟨n3, hn3, _, wn3⟩ := DataW.trod_int Tryz.underlying26 h4
  obtain ⟨ho, hho, _, who⟩ := DataW.trod_int Tryz.underlying3 h5
  obtain ⟨bb, hbb, hb1, hb2⟩ := open_bal h6
  obtain ⟨ba, hba, ha1, ha2⟩ := open_bal h7
  obtain ⟨hh, hhh, _⟩ := DataW.trod_bool Tryz.underlying4 h8
  obtain ⟨c, da, am, al, ad, dc, cm, cl, cd, hcc, hdr, hdb, hR, hwf, hfr, hcn, hcv⟩ := open_cmdL h9 (fun k hk => hw k (.inl hk))
  obtain ⟨V, vm, vl, vd, em, el, ed, hvc, hVR, hVw⟩ := open_viewL h10 (fun k hk => hw k (.inr hk))
  obtain ⟨ya, yc, bs, hyc, hyr, hyb⟩ := open_bytesL h11
  have b1 := bounds_u64 wn1
  have b2 := bounds_u64 wn2
  have b3 := bounds_u64 wn3
  obtain ⟨k1, rfl⟩ : ∃ k : Nat, n1 = (k : Int) := ⟨n1.toNat, by omega⟩
  obtain ⟨k2, rfl⟩ : ∃ k : Nat, n2 = (k : Int) := ⟨n2.toNat, by omega⟩
  obtain ⟨k3, rfl⟩ : ∃ k : Nat, n3 = (k : Int) := ⟨n3.toNat, by omega⟩
  cases hkd; cases hp; cases hn1; cases hn2; cases hn3; cases hho; cases hbb; cases hba; cases hhh; cases hcc; cases hvc; cases hyc
  exact ⟨⟨da, dc, am, cm, al, cl, ad, cd, vm, em, vl, el, vd, ed, ya, yc⟩, ⟨kd, (px, py), k1, k2, k3, ho, bb, ba, hh, c, V, bs⟩, rfl, ⟨⟨hdr, hdb, hR, hwf, hfr, hcn, hcv⟩, hVR, hVw, hyr, hyb, hpb, ⟨hb1, hb2⟩, ⟨ha1, ha2⟩, by simp only; omega, by simp only; omega, by simp only; omega⟩⟩
set_option maxRecDepth 100000 in
theorem open_msg {base : Nat} {v : Value} {d : DataW H} {p : List MemPlace} (hv : Value.okWide Tryz.prog w .any base 37 v) (h : DataW.Trod enc Tryz.prog w 0 (fun _ => true) true 37 v d p) (hs : Sz 37 d) :
    ∃ (A : MA) (m : MsgD), v = .agg (ML A m).toArray ∧ MsgIn w A m := by
  obtain ⟨cs, rfl, hsz⟩ := Go.WideShapes.okWide_struct Tryz.underlying37 hv
  obtain ⟨fuel, hf⟩ := h
  obtain ⟨A, m, hcs, r⟩ := open_msgL (x := (d, p)) hf hs
  refine ⟨A, m, ?_, r⟩
  simp only [Value.cells] at hcs
  rw [← Array.toArray_toList (xs := cs), hcs]
end
end Go.Proofs.YtppapeoainafbaaGreatDoor


/-
  DERIVED: THE SHELF's CONTRACTS AT THIS DUMP, IN PLAIN WORDS (tools/lay-plain.mjs out of 'YtppapeoainafbaaGreatDoorShelfTRaw.lean', which tools/lay-shelf.mjs wrote): THE SAME DECLARATIONS UNDER THE SAME NAMES: 'import', 'namespace', 'open', 'def', 'theorem' AND NOTHING ELSE: no command of the shelf's: FOR A HAND-IN. Each laying: the table of numbers ('.._ren') and one theorem, a field a fact of the dump's own or the kernel's comparison; each contract: ONE APPLICATION.
-/
namespace Go.Proofs
open Go.Shelf
def Tryz.cut_ren : Go.Shelf.Ren := ⟨fun | 145 => 97 | 220 => 127 | 219 => 142 | 217 => 153 | 225 => 154 | 224 => 155 | 267 => 156 | 266 => 159 | 314 => 160 | n => n, fun | 9 => 9 | 4 => 4 | 59 => 134 | 3 => 3 | 5 => 5 | 46 => 62 | 146 => 199 | 51 => 23 | n => n, fun | 1 => 3 | n => n⟩
theorem Tryz.cut : Go.Proofs.Lays.n145 Tryz.prog Tryz.cut_ren := {
  mixed := by kernel_rfl
  f145 := Tryz.func97.trans (congrArg some (by kernel_rfl))
  f217 := Tryz.func153.trans (congrArg some (by kernel_rfl))
  f219 := Tryz.func142.trans (congrArg some (by kernel_rfl))
  f220 := Tryz.func127.trans (congrArg some (by kernel_rfl))
  f224 := Tryz.func155.trans (congrArg some (by kernel_rfl))
  f225 := Tryz.func154.trans (congrArg some (by kernel_rfl))
  f266 := Tryz.func159.trans (congrArg some (by kernel_rfl))
  f267 := Tryz.func156.trans (congrArg some (by kernel_rfl))
  f314 := Tryz.func160.trans (congrArg some (by kernel_rfl))
  t3 := Tryz.underlying3
  a3 := Tryz.isAgg3
  z3 := Tryz.sizeOf3
  v3 := Tryz.zeroValue3
  t4 := Tryz.underlying4
  a4 := Tryz.isAgg4
  z4 := Tryz.sizeOf4
  v4 := Tryz.zeroValue4
  t5 := Tryz.underlying5
  a5 := Tryz.isAgg5
  z5 := Tryz.sizeOf5
  v5 := Tryz.zeroValue5
  t9 := Tryz.underlying9
  a9 := Tryz.isAgg9
  z9 := Tryz.sizeOf9
  v9 := Tryz.zeroValue9
  t46 := Tryz.underlying62
  a46 := Tryz.isAgg62
  z46 := Tryz.sizeOf62
  v46 := Tryz.zeroValue62
  t51 := Tryz.underlying23
  a51 := Tryz.isAgg23
  z51 := Tryz.sizeOf23
  v51 := Tryz.zeroValue23
  t59 := Tryz.underlying134
  a59 := Tryz.isAgg134
  z59 := Tryz.sizeOf134
  v59 := Tryz.zeroValue134
  t146 := Tryz.underlying199
  a146 := Tryz.isAgg199
  z146 := Tryz.sizeOf199
  v146 := Tryz.zeroValue199
  g1 := by kernel_rfl }
def Tryz.small_ren : Go.Shelf.Ren := ⟨fun | 283 => 130 | n => n, fun | 3 => 3 | 9 => 9 | 4 => 4 | n => n, fun | n => n⟩
theorem Tryz.small : Go.Proofs.Lays.n283 Tryz.prog Tryz.small_ren := {
  mixed := by kernel_rfl
  f283 := Tryz.func130.trans (congrArg some (by kernel_rfl))
  t3 := Tryz.underlying3
  a3 := Tryz.isAgg3
  z3 := Tryz.sizeOf3
  v3 := Tryz.zeroValue3
  t4 := Tryz.underlying4
  a4 := Tryz.isAgg4
  z4 := Tryz.sizeOf4
  v4 := Tryz.zeroValue4
  t9 := Tryz.underlying9
  a9 := Tryz.isAgg9
  z9 := Tryz.sizeOf9
  v9 := Tryz.zeroValue9 }
def Tryz.ndig_ren : Go.Shelf.Ren := ⟨fun | 284 => 131 | 129 => 148 | 317 => 147 | 318 => 149 | n => n, fun | 53 => 26 | 3 => 3 | 212 => 187 | 0 => 0 | 4 => 4 | 46 => 62 | 5 => 5 | 9 => 9 | n => n, fun | 17 => 2 | n => n⟩
theorem Tryz.ndig : Go.Proofs.LaysM.n284 Tryz.prog Tryz.ndig_ren := {
  mixed := by kernel_rfl
  f129 := Tryz.func148.trans (congrArg some (by kernel_rfl))
  f284 := Tryz.func131.trans (congrArg some (by kernel_rfl))
  f317 := Tryz.func147.trans (congrArg some (by kernel_rfl))
  f318 := Tryz.func149.trans (congrArg some (by kernel_rfl))
  t0 := Tryz.underlying0
  a0 := Tryz.isAgg0
  z0 := Tryz.sizeOf0
  v0 := Tryz.zeroValue0
  t3 := Tryz.underlying3
  a3 := Tryz.isAgg3
  z3 := Tryz.sizeOf3
  v3 := Tryz.zeroValue3
  t4 := Tryz.underlying4
  a4 := Tryz.isAgg4
  z4 := Tryz.sizeOf4
  v4 := Tryz.zeroValue4
  t5 := Tryz.underlying5
  a5 := Tryz.isAgg5
  z5 := Tryz.sizeOf5
  v5 := Tryz.zeroValue5
  t9 := Tryz.underlying9
  a9 := Tryz.isAgg9
  z9 := Tryz.sizeOf9
  v9 := Tryz.zeroValue9
  t46 := Tryz.underlying62
  a46 := Tryz.isAgg62
  z46 := Tryz.sizeOf62
  v46 := Tryz.zeroValue62
  t53 := Tryz.underlying26
  a53 := Tryz.isAgg26
  z53 := Tryz.sizeOf26
  v53 := Tryz.zeroValue26
  t212 := Tryz.underlying187
  a212 := Tryz.isAgg187
  z212 := Tryz.sizeOf187
  v212 := Tryz.zeroValue187
  g17 := by kernel_rfl
  i0 := by kernel_rfl
  i3 := by kernel_rfl
  i4 := by kernel_rfl
  i5 := by kernel_rfl
  i9 := by kernel_rfl
  i46 := by kernel_rfl
  i53 := by kernel_rfl
  i212 := by kernel_rfl
  m17 := by kernel_rfl }
def Tryz.fmtb_ren : Go.Shelf.Ren := ⟨fun | 285 => 132 | n => n, fun | 37 => 29 | 53 => 26 | 3 => 3 | 4 => 4 | 51 => 23 | 9 => 9 | 5 => 5 | 0 => 0 | n => n, fun | n => n⟩
theorem Tryz.fmtb : Go.Proofs.Lays.n285 Tryz.prog Tryz.fmtb_ren := {
  mixed := by kernel_rfl
  f285 := Tryz.func132.trans (congrArg some (by kernel_rfl))
  t0 := Tryz.underlying0
  a0 := Tryz.isAgg0
  z0 := Tryz.sizeOf0
  v0 := Tryz.zeroValue0
  t3 := Tryz.underlying3
  a3 := Tryz.isAgg3
  z3 := Tryz.sizeOf3
  v3 := Tryz.zeroValue3
  t4 := Tryz.underlying4
  a4 := Tryz.isAgg4
  z4 := Tryz.sizeOf4
  v4 := Tryz.zeroValue4
  t5 := Tryz.underlying5
  a5 := Tryz.isAgg5
  z5 := Tryz.sizeOf5
  v5 := Tryz.zeroValue5
  t9 := Tryz.underlying9
  a9 := Tryz.isAgg9
  z9 := Tryz.sizeOf9
  v9 := Tryz.zeroValue9
  t37 := Tryz.underlying29
  a37 := Tryz.isAgg29
  z37 := Tryz.sizeOf29
  v37 := Tryz.zeroValue29
  t51 := Tryz.underlying23
  a51 := Tryz.isAgg23
  z51 := Tryz.sizeOf23
  v51 := Tryz.zeroValue23
  t53 := Tryz.underlying26
  a53 := Tryz.isAgg26
  z53 := Tryz.sizeOf26
  v53 := Tryz.zeroValue26 }
end Go.Proofs

namespace Go.Proofs.YtppapeoainafbaaGreatDoor
open Go.RowKit
/-! ### texts of processes, in plain words -/
abbrev Str := List UInt8
def dgOk (c : UInt8) : Prop := 48 ≤ c.toNat ∧ c.toNat ≤ 57
def valFrom (n : Nat) (s : Str) : Nat := s.foldl (fun n c => n * 10 + (c.toNat - 48)) n
theorem dgChar {d : Nat} (h : d < 10) : (UInt8.ofNat (48 + d)).toNat = 48 + d := by
  simp [UInt8.toNat_ofNat']; omega
theorem dec_ok (u : Nat) : ∀ c ∈ Lib.decDigits u, dgOk c := by
  induction u using Nat.strongRecOn with
  | _ u ih =>
    intro c hc
    rw [Lib.decDigits] at hc
    by_cases h : u < 10
    · rw [dif_pos h] at hc
      have := List.mem_singleton.1 hc
      subst this
      unfold dgOk; rw [dgChar h]; omega
    · rw [dif_neg h] at hc
      rcases List.mem_append.1 hc with hc | hc
      · exact ih (u / 10) (by omega) c hc
      · have := List.mem_singleton.1 hc
        subst this
        unfold dgOk; rw [dgChar (by omega)]; omega
theorem dec_val (u : Nat) : valFrom 0 (Lib.decDigits u) = u := by
  induction u using Nat.strongRecOn with
  | _ u ih =>
    rw [Lib.decDigits]
    by_cases h : u < 10
    · rw [dif_pos h]
      show 0 * 10 + ((UInt8.ofNat (48 + u)).toNat - 48) = u
      rw [dgChar h]; omega
    · rw [dif_neg h]
      unfold valFrom at ih ⊢
      rw [List.foldl_append, ih (u / 10) (by omega)]
      show u / 10 * 10 + ((UInt8.ofNat (48 + u % 10)).toNat - 48) = u
      rw [dgChar (by omega)]; omega
theorem dec_len (u k : Nat) (h : u < 10 ^ (k + 1)) : (Lib.decDigits u).length ≤ k + 1 := by
  induction k generalizing u with
  | zero => rw [Lib.decDigits, dif_pos (by simpa using h)]; simp
  | succ k ih =>
    rw [Lib.decDigits]
    split
    · simp
    · rw [List.length_append]
      have := ih (u / 10) (by rw [Nat.div_lt_iff_lt_mul (by omega)]; rw [Nat.pow_succ] at h; exact h)
      simp; omega
/-! the reference's number -/
/-! cutting at a byte -/
/-! processes -/
def printP (p : Pid) : Str := Lib.decDigits p.1.toNat ++ 46 :: Lib.decDigits p.2.toNat
theorem no_dot (u : Nat) : (46 : UInt8) ∉ Lib.decDigits u := fun h => by
  have := dec_ok u _ h
  unfold dgOk at this
  simp at this
end Go.Proofs.YtppapeoainafbaaGreatDoor

namespace Go.Proofs.YtppapeoainafbaaGreatDoor
open Go.RowKit
/-! ### strconv.FormatUint and the reference's Digits -/
def TabOk (w : World) : Prop := Lib.TabIs Tryz.prog w "internal/strconv.uint64pow10" .u64 Lib.pow10Tab
theorem TabOk.ext {w w' : World} (h : TabOk w) (hb : Below w.heap.size w w') : TabOk w' := by
  have h0 := h
  unfold TabOk Lib.TabIs World.var? at h ⊢
  cases hg : Tryz.prog.globalNamed "internal/strconv.uint64pow10" with
  | none => simp [hg] at h
  | some g =>
    simp only [hg, Option.bind_some] at h ⊢
    cases hk : w.heap[g]? with
    | none => simp [hk] at h
    | some o =>
      have hlt : g < w.heap.size := (Array.getElem?_eq_some_iff.1 hk).1
      rw [hb.block g hlt]
      exact h
theorem smallI_any (i : Nat) (h : i < 100) (w : World) : Calls Tryz.prog 130 #[.int .i64 i] w fun e w' => e = .returned (.string ⟨(Lib.decDigits i).toArray⟩) ∧ w' = w := Any.internal_strconv_small Tryz.small i h w
theorem ndig_any (u : Nat) (h1 : 1 ≤ u) (h2 : u < 18446744073709551616) (w : World) (ht : TabOk w) : Calls Tryz.prog 131 #[.int .u64 u] w fun e w' => e = .returned (.int .i64 (Lib.nDigits u)) ∧ w' = w := Any.internal_strconv_numDigits Tryz.ndig u h1 h2 w ht
theorem fmtb_any (blk off cap u : Nat) (d : Array UInt8) (w : World) (hH : Go.Sort.Holds (fun (b : UInt8) => Value.int .u8 (b.toNat : Int)) w blk off d) (hu : u < 10 ^ d.size) (hu64 : u < 18446744073709551616) (hsz : d.size < 4611686018427387904) :
    Calls Tryz.prog 132 #[.slice (some ⟨blk, off, none⟩) d.size cap, .int .u64 u] w fun e w' =>
      e = .returned (.tuple #[]) ∧ ∃ (n v' : Nat) (dk : Array UInt8), w' = (Go.Sort.putRow (fun (b : UInt8) => Value.int .u8 (b.toNat : Int)) w blk off dk).drewN n ∧ Lib.FmtInv d.size u 0 v' dk := Any.internal_strconv_formatBase10 Tryz.fmtb blk off cap u d w hH hu hu64 hsz
set_option maxHeartbeats 3200000 in
set_option maxRecDepth 100000 in
theorem fmtI_any (u : Nat) (hu64 : u < 18446744073709551616) (w : World) (ht : TabOk w) :
    Calls Tryz.prog 102 #[.int .u64 u, .int .i64 10] w fun e w' => e = .returned (.string ⟨(Lib.decDigits u).toArray⟩) ∧ Below w.heap.size w w' := by
  by_cases hs : u < 100
  · have C1 := Lib.hid (smallI_any u hs w)
    have i1 : (u : Int) < 100 := by omega
    have i2 : decide ((u : Int) < 100) = true := decide_eq_true i1
    have i3 : IntKind.i64.wrap (u : Int) = u := by rw [IntKind.wrap_i64] <;> omega
    go_enter Tryz.func102, Tryz.ntmps102
    go_wp2_with fail
    (with_reducible refine C1.out.mono ?_)
    rintro e w3 ⟨rfl, rfl⟩
    go_wp2
    go_ret
    exact ⟨rfl, Below.refl _ _⟩
  · have hu1 : 1 ≤ u := by omega
    have i1 : ¬ (u : Int) < 100 := by omega
    have i2 : decide ((u : Int) < 100) = false := decide_eq_false i1
    have hnd20 : Lib.nDigits u ≤ 20 := by have := Lib.numDigits_eq u hu1 hu64; split at this <;> omega
    have hal : Tryz.prog.arrayLen 166 = 24 := by kernel_rfl
    have hsl : ∀ W, (Instr.sliceAt 166 (.pointer (some ⟨w.heap.size, 0, none⟩)) none (some (.int .i64 (Lib.nDigits u : Int))) none).run Tryz.prog W = .ok (.slice (some ⟨w.heap.size, 0, none⟩) (Lib.nDigits u) 24) W := fun W => by
      rw [run_sliceAt_array_h W 166 ⟨w.heap.size, 0, none⟩ (by kernel_rfl) .i64 (Lib.nDigits u : Int) (by omega) (by rw [hal]; omega)]
      rw [hal]
      go_simp
    have hH0 := Lib.holds_zero0 w 166 (Lib.nDigits u) (by omega)
    have hfmt := fmtb_any w.heap.size 0 24 u (Array.replicate (Lib.nDigits u) 0) (w.alloc (.cells Lib.zeros24 166)) hH0 (by rw [Array.size_replicate]; exact Lib.lt_pow_nDigits u) hu64 (by rw [Array.size_replicate]; omega)
    rw [Array.size_replicate] at hfmt
    have HH0 := Lib.hid hH0
    have HF := Lib.hid hfmt
    have C1 := Lib.hid (ndig_any u hu1 hu64 (w.alloc (.cells Lib.zeros24 166)) (ht.ext ((Below.refl _ _).alloc (Nat.le_refl _) _)))
    clear hH0 hal hfmt
    go_enter Tryz.func102, Tryz.ntmps102
    go_wp2_with fail
    (refine C1.out.mono ?_)
    rintro e w3 ⟨rfl, rfl⟩
    go_wp2_with fail
    (refine HF.out.mono ?_)
    rintro e w3 ⟨rfl, k, v', dk, rfl, hF⟩
    have hcv : (convert 29 9 (.slice (some ⟨w.heap.size, 0, none⟩) (Lib.nDigits u) 24)).run Tryz.prog ((Go.Sort.putRow (fun (b : UInt8) => Value.int .u8 (b.toNat : Int)) (w.alloc (.cells Lib.zeros24 166)) w.heap.size 0 dk).drewN k) = .ok (.string ⟨(Lib.decDigits u).toArray⟩) ((Go.Sort.putRow (fun (b : UInt8) => Value.int .u8 (b.toNat : Int)) (w.alloc (.cells Lib.zeros24 166)) w.heap.size 0 dk).drewN k) := by
      have h := run_convert_bytes_back (P := Tryz.prog) ((Go.Sort.putRow (fun (b : UInt8) => Value.int .u8 (b.toNat : Int)) (w.alloc (.cells Lib.zeros24 166)) w.heap.size 0 dk).drewN k) 29 9 5 ⟨w.heap.size, 0, none⟩ 24 (Lib.decDigits u) Tryz.underlying29 Tryz.underlying5 Tryz.underlying9 (fun j hj => by
        rw [Lib.row_is_numeral hF j hj, Lib.add_plain, World.cell?_drewN]
        exact Go.Sort.cell?_putRow (fun (b : UInt8) => Value.int .u8 (b.toNat : Int)) _ w.heap.size 0 _ dk HH0.out (by rw [hF.size, Array.size_replicate]) j (by rw [hF.size]; rw [Lib.decDigits_length] at hj; exact hj))
      rw [Lib.decDigits_length] at h
      exact h
    go_wp2
    go_ret
    obtain ⟨os, eo⟩ := Lib.fin_at w (.cells Lib.zeros24 166) dk k 0
    exact ⟨rfl, by rw [eo]; exact Lib.below_grow w.heap.size w (Nat.le_refl _) k os⟩
theorem fmt_any (u : Nat) (hu64 : u < 18446744073709551616) (w : World) (ht : TabOk w) :
    Calls Tryz.prog 56 #[.int .u64 u, .int .i64 10] w fun e w' => e = .returned (.string ⟨(Lib.decDigits u).toArray⟩) ∧ Below w.heap.size w w' := by
  have C1 := Lib.hid (fmtI_any u hu64 w ht)
  go_enter Tryz.func56, Tryz.ntmps56
  go_wp2_with fail
  (refine C1.out.mono ?_)
  rintro e w3 ⟨rfl, hb⟩
  have HB := Lib.hid hb
  clear hb
  go_wp2
  go_ret
  exact ⟨rfl, HB.out⟩
end Go.Proofs.YtppapeoainafbaaGreatDoor

namespace Go.Proofs.YtppapeoainafbaaGreatDoor
open Go.RowKit
/-! ### Digits of the reference, Print of both -/
theorem run_dig (n : Nat) (h : n < 10) (W : World) : (Instr.slice 9 (.string ⟨#[48, 49, 50, 51, 52, 53, 54, 55, 56, 57]⟩) (some (.int .u64 (n : Int))) (some (.int .u64 ((n : Int) + 1))) none).run Tryz.prog W = .ok (.string ⟨(Lib.decDigits n).toArray⟩) W := by
  have hz : (⟨#[48, 49, 50, 51, 52, 53, 54, 55, 56, 57]⟩ : ByteArray).size = 10 := rfl
  rw [run_slice_string W 9 _ .u64 .u64 _ _ Tryz.underlying9 (by omega) (by omega) (by rw [hz]; omega), show ((n : Int)).toNat = n by omega, show ((n : Int) + 1).toNat = n + 1 by omega]
  congr 2
  rw [Lib.decDigits_one h]
  have : n = 0 ∨ n = 1 ∨ n = 2 ∨ n = 3 ∨ n = 4 ∨ n = 5 ∨ n = 6 ∨ n = 7 ∨ n = 8 ∨ n = 9 := by omega
  rcases this with rfl | rfl | rfl | rfl | rfl | rfl | rfl | rfl | rfl | rfl <;> first | rfl | decide +kernel
theorem cell_extY {w : World} {a : Addr} {v : Value} (h : w.cell? a = some v) : ∀ U : ExtW w, U.W.cell? a = some v := fun U => (U.h.cell (World.block_lt_of_cell? w _ h)).trans h
theorem run_cat (a b : Str) (ha : a.length ≤ 8000000) (hb : b.length ≤ 8000000) (W : World) : (Op.stringOp .add ⟨a.toArray⟩ ⟨b.toArray⟩).run Tryz.prog W = .ok (.string ⟨(a ++ b).toArray⟩) W :=
  run_string_add_lists W a b (by omega) (by omega)
set_option maxHeartbeats 1600000 in
theorem digits_any (n : Nat) : n < 18446744073709551616 → ∀ w : World, Calls Tryz.prog 63 #[.int .u64 n] w fun e w' => e = .returned (.string ⟨(Lib.decDigits n).toArray⟩) ∧ Below w.heap.size w w' := by
  induction n using Nat.strongRecOn with
  | _ n ih =>
    intro hn w
    by_cases h : n < 10
    · have U := run_dig n h
      have i1 : (n : Int) < 10 := by omega
      have i2 : decide ((n : Int) < 10) = true := decide_eq_true i1
      have i3 : IntKind.u64.wrap ((n : Int) + 1) = (n : Int) + 1 := by rw [IntKind.wrap_u64]; omega
      clear ih
      go_enter Tryz.func63, Tryz.ntmps63
      go_wp2
      go_ret
      exact ⟨rfl, Below.refl _ _⟩
    · have i1 : ¬ (n : Int) < 10 := by omega
      have i2 : decide ((n : Int) < 10) = false := decide_eq_false i1
      have U := run_dig (n % 10) (Nat.mod_lt _ (by omega))
      have e1 : ((n / 10 : Nat) : Int) = (n : Int) / 10 := by omega
      have hl1 := dec_len (n / 10) 19 (by omega)
      have hl2 := dec_len (n % 10) 19 (by omega)
      have hadd := run_cat (Lib.decDigits (n / 10)) (Lib.decDigits (n % 10)) (by omega) (by omega)
      clear hl1 hl2
      have e2 : ((n % 10 : Nat) : Int) = (n : Int) % 10 := by omega
      rw [e2] at U
      have CX : ∀ V : ExtW w, Calls Tryz.prog 63 #[.int .u64 ((n / 10 : Nat) : Int)] V.W fun e w' => e = .returned (.string ⟨(Lib.decDigits (n / 10)).toArray⟩) ∧ ∃ V' : ExtW w, w' = V'.W := fun V => by
        refine (ih (n / 10) (by omega) (by omega) V.W).mono ?_
        rintro e w' ⟨rfl, hb⟩
        exact ⟨rfl, ⟨_, V.h.trans (hb.mono V.h.size)⟩, rfl⟩
      rw [e1] at CX
      have CX := hid CX
      clear ih e1 e2
      go_enter Tryz.func63, Tryz.ntmps63
      go_wp2
      refine wp_region_ext (w := w) (Below.refl _ _) (by kernel_rfl) (by kernel_rfl) ?_
      repeat (go_big_quiet_step (with_reducible exact CX.out _))
      refine wpQuiet_nil ?_
      rintro w9 ⟨⟨_, hb9⟩, rfl⟩
      have HB9 := hid hb9
      have e : Lib.decDigits n = Lib.decDigits (n / 10) ++ Lib.decDigits (n % 10) := by
        rw [Lib.decDigits, dif_neg h, Lib.decDigits_one (Nat.mod_lt _ (by omega))]
      have HE := hid e
      clear hb9 CX U hadd
      go_wp2
      go_ret
      refine ⟨?_, HB9.out⟩
      rw [HE.out]; rfl
theorem printP_len {x y : Nat} (hx : x < 65536) (hy : y < 4294967296) : (Lib.decDigits x).length ≤ 20 ∧ (Lib.decDigits y).length ≤ 20 := ⟨dec_len x 19 (by omega), dec_len y 19 (by omega)⟩
set_option maxHeartbeats 1600000 in
theorem print_any {x y : Nat} (hx : x < 65536) (hy : y < 4294967296) (w : World) (ht : TabOk w) :
    Calls Tryz.prog 27 #[.agg #[.int .u16 x, .int .u32 y]] w fun e w' => e = .returned (.string ⟨(printP ((x : Int), (y : Int))).toArray⟩) ∧ Below w.heap.size w w' := by
  obtain ⟨wr, hwr⟩ : ∃ wr, w.alloc (.cells #[.int .u16 x, .int .u32 y] 25) = wr := ⟨_, rfl⟩
  have hB : Below w.heap.size w wr := by rw [← hwr]; exact (Below.refl _ _).alloc (Nat.le_refl _) _
  have k0 : wr.cell? ⟨w.heap.size, 0, none⟩ = some (.int .u16 x) := by rw [← hwr]; simp
  have k1 : wr.cell? ⟨w.heap.size, 1, none⟩ = some (.int .u32 y) := by rw [← hwr]; simp
  have f0 := cell_extY k0
  have f1 := cell_extY k1
  have CX : ∀ n : Nat, n < 18446744073709551616 → ∀ V : ExtW wr, Calls Tryz.prog 56 #[.int .u64 (n : Int), .int .i64 10] V.W fun e w' => e = .returned (.string ⟨(Lib.decDigits n).toArray⟩) ∧ ∃ V' : ExtW wr, w' = V'.W := fun n hn V => by
    refine (fmt_any n hn V.W ((ht.ext hB).ext V.h)).mono ?_
    rintro e w' ⟨rfl, hb⟩
    exact ⟨rfl, ⟨_, V.h.trans (hb.mono V.h.size)⟩, rfl⟩
  have C0 := hid (CX x (by omega))
  have C1 := hid (CX y (by omega))
  have i0 : IntKind.u64.wrap (x : Int) = x := by rw [IntKind.wrap_u64]; omega
  have i1 : IntKind.u64.wrap (y : Int) = y := by rw [IntKind.wrap_u64]; omega
  obtain ⟨l0, l1⟩ := printP_len hx hy
  have a0 := run_cat (Lib.decDigits x) [46] (by omega) (by simp)
  have a1 := run_cat (Lib.decDigits x ++ [46]) (Lib.decDigits y) (by simp; omega) (by omega)
  have HB := hid hB
  clear l0 l1 hB CX k0 k1
  go_enter Tryz.func27, Tryz.ntmps27
  go_wp2
  clear hwr
  refine wp_region_ext (w := wr) (Below.refl _ _) (by kernel_rfl) (by kernel_rfl) ?_
  repeat (go_big_quiet_step (first | with_reducible exact C0.out _ | with_reducible exact C1.out _))
  refine wpQuiet_nil ?_
  rintro w9 ⟨⟨_, hb9⟩, rfl⟩
  have HB9 := hid (HB.out.trans (hb9.mono HB.out.size))
  clear hb9 C0 C1 a0 a1 f0 f1
  go_wp2
  go_ret
  exact ⟨rfl, HB9.out⟩
set_option maxHeartbeats 1600000 in
theorem refPrint_any {x y : Nat} (hx : x < 65536) (hy : y < 4294967296) (w : World)  :
    Calls Tryz.prog 35 #[.agg #[.int .u16 x, .int .u32 y]] w fun e w' => e = .returned (.string ⟨(printP ((x : Int), (y : Int))).toArray⟩) ∧ Below w.heap.size w w' := by
  obtain ⟨wr, hwr⟩ : ∃ wr, w.alloc (.cells #[.int .u16 x, .int .u32 y] 25) = wr := ⟨_, rfl⟩
  have hB : Below w.heap.size w wr := by rw [← hwr]; exact (Below.refl _ _).alloc (Nat.le_refl _) _
  have k0 : wr.cell? ⟨w.heap.size, 0, none⟩ = some (.int .u16 x) := by rw [← hwr]; simp
  have k1 : wr.cell? ⟨w.heap.size, 1, none⟩ = some (.int .u32 y) := by rw [← hwr]; simp
  have f0 := cell_extY k0
  have f1 := cell_extY k1
  have CX : ∀ n : Nat, n < 18446744073709551616 → ∀ V : ExtW wr, Calls Tryz.prog 63 #[.int .u64 (n : Int)] V.W fun e w' => e = .returned (.string ⟨(Lib.decDigits n).toArray⟩) ∧ ∃ V' : ExtW wr, w' = V'.W := fun n hn V => by
    refine (digits_any n hn V.W).mono ?_
    rintro e w' ⟨rfl, hb⟩
    exact ⟨rfl, ⟨_, V.h.trans (hb.mono V.h.size)⟩, rfl⟩
  have C0 := hid (CX x (by omega))
  have C1 := hid (CX y (by omega))
  have i0 : IntKind.u64.wrap (x : Int) = x := by rw [IntKind.wrap_u64]; omega
  have i1 : IntKind.u64.wrap (y : Int) = y := by rw [IntKind.wrap_u64]; omega
  obtain ⟨l0, l1⟩ := printP_len hx hy
  have a0 := run_cat (Lib.decDigits x) [46] (by omega) (by simp)
  have a1 := run_cat (Lib.decDigits x ++ [46]) (Lib.decDigits y) (by simp; omega) (by omega)
  have HB := hid hB
  clear l0 l1 hB CX k0 k1
  go_enter Tryz.func35, Tryz.ntmps35
  go_wp2
  clear hwr
  refine wp_region_ext (w := wr) (Below.refl _ _) (by kernel_rfl) (by kernel_rfl) ?_
  repeat (go_big_quiet_step (first | with_reducible exact C0.out _ | with_reducible exact C1.out _))
  refine wpQuiet_nil ?_
  rintro w9 ⟨⟨_, hb9⟩, rfl⟩
  have HB9 := hid (HB.out.trans (hb9.mono HB.out.size))
  clear hb9 C0 C1 a0 a1 f0 f1
  go_wp2
  go_ret
  exact ⟨rfl, HB9.out⟩
end Go.Proofs.YtppapeoainafbaaGreatDoor

namespace Go.Proofs.YtppapeoainafbaaGreatDoor
open Go.RowKit

set_option maxRecDepth 100000 in
set_option maxHeartbeats 1600000 in
theorem refLeaf_any (V : View) (am al ad : Option Addr) (cm cl cd : Nat) (x y : Int) (w : World) (hV : ViewR w am al ad V) :
   Calls Tryz.prog 64 #[.agg #[.int .u64 V.id, .slice am V.ms.length cm, .slice al V.ls.length cl, .slice ad V.ds.length cd], .agg #[.int .u16 x, .int .u32 y]] w fun e w' => e = .returned (.int .i64 (leafIx V.ls (x, y))) ∧ Below w.heap.size w w' := by
  have hB2 : Below w.heap.size w ((w.alloc (.cells #[.int .u64 V.id, .slice am V.ms.length cm, .slice al V.ls.length cl, .slice ad V.ds.length cd] 33)).alloc (.cells #[.int .u16 x, .int .u32 y] 25)) := ((Below.refl _ _).alloc (Nat.le_refl _) _).alloc (by simp) _
  have hV2 := hV.ext hB2
  have hz : w.heap.size ≤ ((w.alloc (.cells #[.int .u64 V.id, .slice am V.ms.length cm, .slice al V.ls.length cl, .slice ad V.ds.length cd] 33)).alloc (.cells #[.int .u16 x, .int .u32 y] 25)).heap.size := by simp; omega
  have k0 : ((w.alloc (.cells #[.int .u64 V.id, .slice am V.ms.length cm, .slice al V.ls.length cl, .slice ad V.ds.length cd] 33)).alloc (.cells #[.int .u16 x, .int .u32 y] 25)).cell? ⟨w.heap.size + 1, 0, none⟩ = some (.int .u16 x) := by simp
  have k1 : ((w.alloc (.cells #[.int .u64 V.id, .slice am V.ms.length cm, .slice al V.ls.length cl, .slice ad V.ds.length cd] 33)).alloc (.cells #[.int .u16 x, .int .u32 y] 25)).cell? ⟨w.heap.size + 1, 1, none⟩ = some (.int .u32 y) := by simp
  have k2 : ((w.alloc (.cells #[.int .u64 V.id, .slice am V.ms.length cm, .slice al V.ls.length cl, .slice ad V.ds.length cd] 33)).alloc (.cells #[.int .u16 x, .int .u32 y] 25)).cell? ⟨w.heap.size, 2, none⟩ = some (.slice al V.ls.length cl) := by simp
  go_enter Tryz.func64, Tryz.ntmps64
  go_wp2
  revert hB2 hV2 hz k0 k1 k2
  generalize (w.alloc (.cells #[.int .u64 V.id, .slice am V.ms.length cm, .slice al V.ls.length cl, .slice ad V.ds.length cd] 33)).alloc (.cells #[.int .u16 x, .int .u32 y] 25) = w2
  intro hB2 hV2 hz k0 k1 k2
  have hll := hV.ll
  go_loopw [4, 5] (fun r i wr => r = .int .i64 0 ∧ ∃ k : Nat, k ≤ V.ls.length ∧ i = .int .i64 k ∧ Hid (leafIx V.ls (x, y) = leafFrom (x, y) (V.ls.drop k) k) ∧ Below w2.heap.size w2 wr) (fun _ i _ => V.ls.length - (intOf i).toNat)
  case atStart => exact ⟨rfl, 0, Nat.zero_le _, rfl, rfl, Below.refl _ _⟩
  case round =>
    obtain ⟨rfl, k, hk, rfl, ha, hb⟩ := hrel
    have f0 := cell_to k0 hb
    have f1 := cell_to k1 hb
    have f2 := cell_to k2 hb
    by_cases hlt : k < V.ls.length
    · obtain ⟨b, off, ai, ci, l, rfl, hx, d1, d2⟩ := hV2.ls.at hb rfl hlt
      have hln : l.length ≤ 70368744177664 := hV.le l (by rw [hx]; exact List.getElem_mem _)
      obtain ⟨A, hA⟩ : ∃ A, atIx l (x, y) = A := ⟨_, rfl⟩
      have hmem := atIx_nonneg (p := (x, y)) (xs := l)
      rw [hA] at hmem
      have hdr := leafFrom_drop hlt (x, y)
      rw [← hx] at hdr
      have HA := hid hA
      have HD := hid hdr
      have g0 := cell_extw f0
      have g1 := cell_extw f1
      have g2 := cell_extw f2
      have g3 := cell_extw d1
      clear hA hx hdr
      by_cases h0 : 0 ≤ A
      · have h0' : decide (0 ≤ A) = true := by simpa using h0
        have HM : Hid ((x, y) ∈ l) := by rw [h0'] at hmem; exact hid (of_decide_eq_true hmem.symm)
        clear hmem
        go_wp2
        clear f0 f1 f2 d1
        refine wp_region_ext (w := wr) (Below.refl _ _) (by kernel_rfl) (by kernel_rfl) ?_
        repeat (go_big_quiet_step (exact at_ext d2 hln HA))
        refine wpQuiet_nil ?_
        rintro w9 ⟨⟨_, hb9⟩, rfl⟩
        go_wp2
        go_ret
        exact ⟨ret_int (by rw [ha.out, HD.out, if_pos HM.out]), hB2.trans ((hb.trans (hb9.mono hb.size)).mono hz)⟩
      · have h0' : decide (0 ≤ A) = false := by simpa using h0
        have HM : Hid (¬ (x, y) ∈ l) := by rw [h0'] at hmem; exact hid (of_decide_eq_false hmem.symm)
        clear hmem
        go_wp2
        clear f0 f1 f2 d1
        refine wp_region_ext (w := wr) (Below.refl _ _) (by kernel_rfl) (by kernel_rfl) ?_
        repeat (go_big_quiet_step (exact at_ext d2 hln HA))
        refine wpQuiet_nil ?_
        rintro w9 ⟨⟨_, hb9⟩, rfl⟩
        go_wp2
        go_roundw
        case rel => exact ⟨rfl, k + 1, by omega, by go_num, (ha.out.trans (by rw [HD.out, if_neg HM.out]) : _), hb.trans (hb9.mono hb.size)⟩
        case measure => simp [intOf]; omega
    · go_wp2
      go_ret
      exact ⟨ret_int (by rw [ha.out, leafFrom_end (by omega)]), hB2.trans (hb.mono hz)⟩
end Go.Proofs.YtppapeoainafbaaGreatDoor

namespace Go.Proofs.YtppapeoainafbaaGreatDoor
open Go.RowKit
/-! ### texts of views, in plain words -/
def wordP (V : View) (p : Pid) : Str := [32] ++ printP p ++ [47] ++ Lib.decDigits (leafIx V.ls p).toNat ++ (if p ∈ V.ds then [42] else [])
def wordsP (V : View) : List Pid → Str
  | [] => []
  | p :: r => wordP V p ++ wordsP V r
def viewP (V : View) : Str := Lib.decDigits V.id.toNat ++ wordsP V V.ms
theorem wordsP_drop (V : View) {xs : List Pid} {k : Nat} (h : k < xs.length) {p : Pid} (hp : p = xs[k]) : wordsP V (xs.drop k) = wordP V p ++ wordsP V (xs.drop (k + 1)) := by
  rw [List.drop_eq_getElem_cons h, ← hp]; rfl
theorem leafFrom_mem {p : Pid} : ∀ {ls : List (List Pid)} {j : Nat}, p ∈ ls.flatten → ∃ k : Nat, leafFrom p ls j = (k : Int) ∧ k < j + ls.length
  | [], j, h => by simp at h
  | l :: r, j, h => by
    unfold leafFrom
    by_cases hp : p ∈ l
    · rw [if_pos hp]; exact ⟨j, rfl, by simp⟩
    · rw [if_neg hp]
      obtain ⟨k, h1, h2⟩ := leafFrom_mem (ls := r) (j := j + 1) (by simpa [hp] using h)
      exact ⟨k, h1, by simp; omega⟩
theorem check_leaf {V : View} (h : checkB V = true) : V.ms.length ≤ 24 ∧ (0 ≤ V.id ∧ V.id ≤ 4611686018427387904) ∧ ∀ p ∈ V.ms, ∃ k : Nat, k < 100 ∧ leafIx V.ls p = (k : Int) := by
  unfold checkB at h
  simp only [Bool.and_eq_true, decide_eq_true_eq, chkFrom_iff, chkEnd, ris_same, List.nil_append, Nat.zero_add] at h
  obtain ⟨a, b, c, d, e, f, g, h, i⟩ := h
  have hl := lens_flatten V.ls
  unfold membersB at c
  rw [memFrom_iff] at c
  have hls := lens_ge (fun l hl => (d l hl).1)
  have hc := c.1.2
  have hnd := nodup_of_ids c.2.2.1
  have hfm : ∀ x ∈ V.ls.flatten, x ∈ V.ms := fun x hx => by
    obtain ⟨l, hl1, hl2⟩ := List.mem_flatten.1 hx
    exact risR_mem (d l hl1).2 x hl2
  refine ⟨by omega, ⟨by omega, b⟩, fun p hp => ?_⟩
  have hcount : V.ls.flatten.count p = 1 := by
    refine (count_iff hnd hfm).2 ⟨?_, ?_⟩ p hp
    · omega
    · exact unionL_nodup.1 (by omega)
  have hmem : p ∈ V.ls.flatten := List.count_pos_iff.1 (by omega)
  obtain ⟨k, h1, h2⟩ := leafFrom_mem (j := 0) hmem
  exact ⟨k, by omega, h1⟩
end Go.Proofs.YtppapeoainafbaaGreatDoor

namespace Go.Proofs.YtppapeoainafbaaGreatDoor
open Go.RowKit
/-! ### texts of bytes: Hex of both -/
def hexD (i : Nat) : UInt8 := (([48, 49, 50, 51, 52, 53, 54, 55, 56, 57, 97, 98, 99, 100, 101, 102] : List UInt8).getD i 0)
def hexP : List Nat → Str
  | [] => []
  | b :: r => hexD (b / 16) :: hexD (b % 16) :: hexP r
theorem hexD_inj : ∀ i, i < 16 → ∀ j, j < 16 → hexD i = hexD j → i = j := by decide +kernel
theorem hexP_len : ∀ bs : List Nat, (hexP bs).length = 2 * bs.length
  | [] => rfl
  | b :: r => by have := hexP_len r; simp [hexP]; omega
theorem hexP_inj : ∀ xs ys : List Nat, (∀ b ∈ xs, b < 256) → (∀ b ∈ ys, b < 256) → hexP xs = hexP ys → xs = ys
  | [], [], _, _, _ => rfl
  | [], _ :: _, _, _, h => by cases h
  | _ :: _, [], _, _, h => by cases h
  | x :: r, y :: q, hx, hy, h => by
    have h0 : x < 256 := hx x (List.mem_cons_self ..)
    have h1 : y < 256 := hy y (List.mem_cons_self ..)
    simp only [hexP, List.cons.injEq] at h
    have e1 := hexD_inj (x / 16) (by omega) (y / 16) (by omega) h.1
    have e2 := hexD_inj (x % 16) (by omega) (y % 16) (by omega) h.2.1
    have e : x = y := by omega
    rw [e, hexP_inj r q (fun b hb => hx b (List.mem_cons_of_mem _ hb)) (fun b hb => hy b (List.mem_cons_of_mem _ hb)) h.2.2]
theorem hexP_drop {bs : List Nat} {k x : Nat} (h : k < bs.length) (hx : x = bs[k]) : hexP (bs.drop k) = [hexD (x / 16)] ++ ([hexD (x % 16)] ++ hexP (bs.drop (k + 1))) := by
  rw [List.drop_eq_getElem_cons h, ← hx]; rfl
theorem run_hexD (n : Nat) (h : n < 16) (W : World) : (Instr.slice 9 (.string ⟨#[48, 49, 50, 51, 52, 53, 54, 55, 56, 57, 97, 98, 99, 100, 101, 102]⟩) (some (.int .u8 (n : Int))) (some (.int .u8 ((n : Int) + 1))) none).run Tryz.prog W = .ok (.string ⟨[hexD n].toArray⟩) W := by
  have hz : (⟨#[48, 49, 50, 51, 52, 53, 54, 55, 56, 57, 97, 98, 99, 100, 101, 102]⟩ : ByteArray).size = 16 := rfl
  rw [run_slice_string W 9 _ .u8 .u8 _ _ Tryz.underlying9 (by omega) (by omega) (by rw [hz]; omega), show ((n : Int)).toNat = n by omega, show ((n : Int) + 1).toNat = n + 1 by omega]
  congr 2
  have : n = 0 ∨ n = 1 ∨ n = 2 ∨ n = 3 ∨ n = 4 ∨ n = 5 ∨ n = 6 ∨ n = 7 ∨ n = 8 ∨ n = 9 ∨ n = 10 ∨ n = 11 ∨ n = 12 ∨ n = 13 ∨ n = 14 ∨ n = 15 := by omega
  rcases this with rfl | rfl | rfl | rfl | rfl | rfl | rfl | rfl | rfl | rfl | rfl | rfl | rfl | rfl | rfl | rfl <;> first | rfl | decide +kernel
set_option maxHeartbeats 3200000 in
theorem refHex_any {a : Option Addr} {c n : Nat} {bs : List Nat} {w : World} (hn : Hid (bs.length = n)) (hnl : n ≤ 1000000) (hb : ∀ b ∈ bs, b < 256) (hx : ByteRow w a bs) :
    Calls Tryz.prog 39 #[.slice a n c] w fun e w' => e = .returned (.string ⟨(hexP bs).toArray⟩) ∧ Below w.heap.size w w' := by
  have HX := hid hx
  have HB := hid hb
  clear hx hb
  go_enter Tryz.func39, Tryz.ntmps39
  go_wp2_with fail
  go_loopw [3, 4] (fun vo iv wr => ∃ (out : Str) (k : Nat), vo = .string ⟨out.toArray⟩ ∧ iv = .int .i64 k ∧ k ≤ n ∧ out.length ≤ 2 * k ∧ Hid (out ++ hexP (bs.drop k) = hexP bs) ∧ Hid (Below w.heap.size w wr)) (fun _ iv _ => n - (intOf iv).toNat)
  case atStart => exact ⟨[], 0, rfl, rfl, Nat.zero_le _, by simp, hid rfl, hid (Below.refl _ _)⟩
  case round =>
    obtain ⟨out, k, rfl, rfl, hk, hol, hf, hbw⟩ := hrel
    by_cases hlt : k < n
    · have hk1 : k < bs.length := by rw [hn.out]; exact hlt
      obtain ⟨b, o, x, rfl, hxk, q0⟩ := HX.out.at hbw.out rfl hk1
      have hx256 : x < 256 := by rw [hxk]; exact HB.out _ (List.getElem_mem hk1)
      have HD := hid (hexP_drop hk1 hxk)
      have f0 := cell_extY q0
      have U1 := run_hexD (x / 16) (by omega)
      have U2 := run_hexD (x % 16) (by omega)
      have e1 : ((x / 16 : Nat) : Int) = (x : Int) / 16 := by omega
      have e2 : ((x % 16 : Nat) : Int) = (x : Int) % 16 := by omega
      rw [e1] at U1
      rw [e2] at U2
      have a1 := run_cat out [hexD (x / 16)] (by omega) (by simp)
      have a2 := run_cat (out ++ [hexD (x / 16)]) [hexD (x % 16)] (by simp; omega) (by simp)
      have hol2 : (out ++ [hexD (x / 16)] ++ [hexD (x % 16)]).length ≤ 2 * (k + 1) := by simp; omega
      have HO := hid hol2
      clear hxk e1 e2 hol hol2 q0
      go_wp2_with fail
      refine wp_region_ext (w := wr) (Below.refl _ _) (by kernel_rfl) (by kernel_rfl) ?_
      repeat (go_big_quiet_step (fail))
      refine wpQuiet_nil ?_
      rintro w9 ⟨⟨_, hb9⟩, rfl⟩
      have HB9 := hid (hbw.out.trans (hb9.mono hbw.out.size))
      clear hb9 f0 U1 U2 a1 a2
      go_wp2_with fail
      go_roundw
      case rel => exact ⟨out ++ [hexD (x / 16)] ++ [hexD (x % 16)], k + 1, by simp, by go_num, by omega, HO.out, hid (by rw [← hf.out, HD.out, List.append_assoc, List.append_assoc]), HB9⟩
      case measure => simp [intOf]; omega
    · have hke : bs.drop k = [] := List.drop_eq_nil_of_le (by rw [hn.out]; omega)
      have hres : out = hexP bs := by rw [← hf.out, hke]; simp [hexP]
      subst hres
      go_wp2_with fail
      go_ret
      exact ⟨rfl, hbw.out⟩
end Go.Proofs.YtppapeoainafbaaGreatDoor

namespace Go.Proofs.YtppapeoainafbaaGreatDoor
open Go.RowKit
/-! ### a text tells the view -/
def endsC (c : UInt8) (r : Str) : Prop := r = [] ∨ ∃ t, r = c :: t
theorem cutc {c : UInt8} : ∀ {a b r q : Str}, c ∉ a → c ∉ b → endsC c r → endsC c q → a ++ r = b ++ q → a = b ∧ r = q
  | [], [], _, _, _, _, _, _, h => ⟨rfl, by simpa using h⟩
  | [], y :: b, r, q, _, hb, hr, _, h => by
    rcases hr with rfl | ⟨t, rfl⟩
    · simp at h
    · simp only [List.nil_append, List.cons_append, List.cons.injEq] at h
      exact absurd (by rw [h.1]; exact List.mem_cons_self ..) hb
  | x :: a, [], r, q, ha, _, _, hq, h => by
    rcases hq with rfl | ⟨t, rfl⟩
    · simp at h
    · simp only [List.nil_append, List.cons_append, List.cons.injEq] at h
      exact absurd (by rw [← h.1]; exact List.mem_cons_self ..) ha
  | x :: a, y :: b, r, q, ha, hb, hr, hq, h => by
    simp only [List.cons_append, List.cons.injEq] at h
    obtain ⟨e1, e2⟩ := cutc (fun hc => ha (List.mem_cons_of_mem _ hc)) (fun hc => hb (List.mem_cons_of_mem _ hc)) hr hq h.2
    exact ⟨by rw [h.1, e1], e2⟩
theorem dec_inj {u v : Nat} (h : Lib.decDigits u = Lib.decDigits v) : u = v := by
  rw [← dec_val u, ← dec_val v, h]
theorem dec_no {c : UInt8} (hc : c.toNat < 48) (u : Nat) : c ∉ Lib.decDigits u := fun h => by
  have := dec_ok u _ h
  unfold dgOk at this
  omega
theorem printP_no {c : UInt8} (hc : c.toNat < 48) (h46 : c ≠ 46) (p : Pid) : c ∉ printP p := by
  unfold printP
  intro h
  rcases List.mem_append.1 h with h | h
  · exact dec_no hc _ h
  · rcases List.mem_cons.1 h with h | h
    · exact h46 h
    · exact dec_no hc _ h
theorem printP_inj {p q : Pid} (hp : 0 ≤ p.1 ∧ 0 ≤ p.2) (hq : 0 ≤ q.1 ∧ 0 ≤ q.2) (h : printP p = printP q) : p = q := by
  unfold printP at h
  obtain ⟨e1, e2⟩ := cutc (no_dot _) (no_dot _) (.inr ⟨_, rfl⟩) (.inr ⟨_, rfl⟩) h
  have d1 := dec_inj e1
  have d2 := dec_inj (List.cons.inj e2).2
  exact Prod.ext (by omega) (by omega)
def starP (b : Prop) [Decidable b] : Str := if b then [42] else []
theorem star_end (b : Prop) [Decidable b] : endsC 42 (starP b) := by
  unfold starP
  split
  · exact .inr ⟨[], rfl⟩
  · exact .inl rfl
def bodyP (V : View) (p : Pid) : Str := printP p ++ 47 :: (Lib.decDigits (leafIx V.ls p).toNat ++ starP (p ∈ V.ds))
theorem word_body (V : View) (p : Pid) : wordP V p = 32 :: bodyP V p := by
  unfold wordP bodyP starP; simp
theorem body_no (V : View) (p : Pid) : (32 : UInt8) ∉ bodyP V p := by
  unfold bodyP
  intro h
  rcases List.mem_append.1 h with h | h
  · exact printP_no (by decide) (by decide) _ h
  · rcases List.mem_cons.1 h with h | h
    · exact absurd h (by decide)
    · rcases List.mem_append.1 h with h | h
      · exact dec_no (by decide) _ h
      · unfold starP at h
        split at h
        · simp at h
        · simp at h
theorem words_end (V : View) : ∀ l : List Pid, endsC 32 (wordsP V l)
  | [] => .inl rfl
  | p :: r => .inr ⟨_, by unfold wordsP; rw [word_body]; rfl⟩
theorem body_inj {A B : View} {p q : Pid} (hp : 0 ≤ p.1 ∧ 0 ≤ p.2) (hq : 0 ≤ q.1 ∧ 0 ≤ q.2) (h : bodyP A p = bodyP B q) : p = q ∧ (leafIx A.ls p).toNat = (leafIx B.ls q).toNat ∧ (p ∈ A.ds ↔ q ∈ B.ds) := by
  unfold bodyP at h
  obtain ⟨e1, e2⟩ := cutc (printP_no (by decide) (by decide) _) (printP_no (by decide) (by decide) _) (.inr ⟨_, rfl⟩) (.inr ⟨_, rfl⟩) h
  obtain ⟨e3, e4⟩ := cutc (dec_no (by decide) _) (dec_no (by decide) _) (star_end _) (star_end _) (List.cons.inj e2).2
  refine ⟨printP_inj hp hq e1, dec_inj e3, ?_⟩
  unfold starP at e4
  by_cases h1 : p ∈ A.ds <;> by_cases h2 : q ∈ B.ds <;> simp [h1, h2] at e4 ⊢
theorem words_inj {A B : View} : ∀ {l m : List Pid}, WfPids l → WfPids m → wordsP A l = wordsP B m → l = m ∧ ∀ p ∈ l, (leafIx A.ls p).toNat = (leafIx B.ls p).toNat ∧ (p ∈ A.ds ↔ p ∈ B.ds)
  | [], [], _, _, _ => ⟨rfl, fun _ h => by cases h⟩
  | [], q :: m, _, _, h => by unfold wordsP at h; rw [word_body] at h; cases h
  | p :: l, [], _, _, h => by unfold wordsP at h; rw [word_body] at h; cases h
  | p :: l, q :: m, hl, hm, h => by
    unfold wordsP at h
    rw [word_body, word_body, List.cons_append, List.cons_append] at h
    obtain ⟨e1, e2⟩ := cutc (body_no A p) (body_no B q) (words_end A l) (words_end B m) (List.cons.inj h).2
    have hp := hl p (List.mem_cons_self ..)
    have hq := hm q (List.mem_cons_self ..)
    obtain ⟨rfl, e3, e4⟩ := body_inj ⟨hp.1, hp.2.2.1⟩ ⟨hq.1, hq.2.2.1⟩ e1
    obtain ⟨rfl, e5⟩ := words_inj (fun x hx => hl x (List.mem_cons_of_mem _ hx)) (fun x hx => hm x (List.mem_cons_of_mem _ hx)) e2
    refine ⟨rfl, fun x hx => ?_⟩
    rcases List.mem_cons.1 hx with rfl | hx
    · exact ⟨e3, e4⟩
    · exact e5 x hx
theorem pw_unique {f : Pid → Int} : ∀ {xs ys : List Pid}, xs.Pairwise (fun p q => f p < f q) → ys.Pairwise (fun p q => f p < f q) → (∀ p, p ∈ xs ↔ p ∈ ys) → xs = ys
  | [], [], _, _, _ => rfl
  | [], y :: ys, _, _, h => absurd ((h y).2 (List.mem_cons_self ..)) (by simp)
  | x :: xs, [], _, _, h => absurd ((h x).1 (List.mem_cons_self ..)) (by simp)
  | x :: xs, y :: ys, hx, hy, h => by
    obtain ⟨hx1, hx2⟩ := List.pairwise_cons.1 hx
    obtain ⟨hy1, hy2⟩ := List.pairwise_cons.1 hy
    have e : x = y := by
      rcases List.mem_cons.1 ((h x).1 (List.mem_cons_self ..)) with e | m1
      · exact e
      · rcases List.mem_cons.1 ((h y).2 (List.mem_cons_self ..)) with e | m2
        · exact e.symm
        · have := hy1 x m1
          have := hx1 y m2
          omega
    subst e
    have ht : ∀ p, p ∈ xs ↔ p ∈ ys := fun p => by
      constructor
      · intro hp
        rcases List.mem_cons.1 ((h p).1 (List.mem_cons_of_mem _ hp)) with e | m
        · subst e; have := hx1 p hp; omega
        · exact m
      · intro hp
        rcases List.mem_cons.1 ((h p).2 (List.mem_cons_of_mem _ hp)) with e | m
        · subst e; have := hy1 p hp; omega
        · exact m
    rw [pw_unique hx2 hy2 ht]
theorem risR_pw {ms : List Pid} : ∀ {xs : List Pid} {pr : Option Pid}, risRFrom ms pr xs = true → xs.Pairwise (fun p q => atIx ms p < atIx ms q)
  | [], _, _ => List.Pairwise.nil
  | p :: r, pr, h => by
    unfold risRFrom at h
    split at h
    · cases h
    · split at h
      · cases h
      · exact List.pairwise_cons.2 ⟨risR_gt h, risR_pw h⟩
end Go.Proofs.YtppapeoainafbaaGreatDoor

namespace Go.Proofs.YtppapeoainafbaaGreatDoor
open Go.RowKit
theorem leafFrom_low {p : Pid} : ∀ {ls : List (List Pid)} {j : Nat}, p ∈ ls.flatten → (j : Int) ≤ leafFrom p ls j
  | [], j, h => by simp at h
  | l :: r, j, h => by
    unfold leafFrom
    by_cases hp : p ∈ l
    · rw [if_pos hp]; exact Int.le_refl _
    · rw [if_neg hp]
      have := leafFrom_low (ls := r) (j := j + 1) (by simpa [hp] using h)
      omega
theorem leaves_eq {f : Pid → Int} : ∀ {ls ms : List (List Pid)} {j : Nat}, ls.flatten.Nodup → ms.flatten.Nodup → (∀ l ∈ ls, l ≠ [] ∧ l.Pairwise (fun p q => f p < f q)) → (∀ l ∈ ms, l ≠ [] ∧ l.Pairwise (fun p q => f p < f q)) →
    (∀ p, p ∈ ls.flatten ↔ p ∈ ms.flatten) → (∀ p ∈ ls.flatten, leafFrom p ls j = leafFrom p ms j) → ls = ms
  | [], [], _, _, _, _, _, _, _ => rfl
  | [], m :: ms, _, _, _, _, h2, h, _ => by
    obtain ⟨x, r, e⟩ := List.exists_cons_of_ne_nil (h2 m (List.mem_cons_self ..)).1
    have := (h x).2 (by rw [List.flatten_cons, e]; simp)
    simp at this
  | l :: ls, [], _, _, _, h1, _, h, _ => by
    obtain ⟨x, r, e⟩ := List.exists_cons_of_ne_nil (h1 l (List.mem_cons_self ..)).1
    have := (h x).1 (by rw [List.flatten_cons, e]; simp)
    simp at this
  | l :: ls, m :: ms, j, n1, n2, h1, h2, h, hl => by
    rw [List.flatten_cons] at n1 n2
    obtain ⟨a1, a2, a3⟩ := List.nodup_append.1 n1
    obtain ⟨b1, b2, b3⟩ := List.nodup_append.1 n2
    have key : ∀ (l : List Pid) (ls : List (List Pid)) (p : Pid), p ∈ (l :: ls).flatten → (p ∈ l ↔ leafFrom p (l :: ls) j = (j : Int)) := fun l ls p hp => by
      unfold leafFrom
      by_cases hpl : p ∈ l
      · rw [if_pos hpl]; simp [hpl]
      · rw [if_neg hpl]
        have := leafFrom_low (ls := ls) (j := j + 1) (by simpa [hpl] using hp)
        constructor
        · intro h; exact absurd h hpl
        · intro h; omega
    have e : l = m := by
      refine pw_unique (h1 l (List.mem_cons_self ..)).2 (h2 m (List.mem_cons_self ..)).2 fun p => ?_
      constructor
      · intro hp
        have hf : p ∈ (l :: ls).flatten := by rw [List.flatten_cons]; exact List.mem_append_left _ hp
        have := (key l ls p hf).1 hp
        rw [hl p hf] at this
        exact (key m ms p ((h p).1 hf)).2 this
      · intro hp
        have hf : p ∈ (m :: ms).flatten := by rw [List.flatten_cons]; exact List.mem_append_left _ hp
        have := (key m ms p hf).1 hp
        rw [← hl p ((h p).2 hf)] at this
        exact (key l ls p ((h p).2 hf)).2 this
    subst e
    have hne : ∀ {p : Pid} {xs : List (List Pid)}, (∀ x ∈ l, ∀ y ∈ xs.flatten, x ≠ y) → p ∈ xs.flatten → p ∉ l := fun hd hp hpl => hd _ hpl _ hp rfl
    have h' : ∀ p, p ∈ ls.flatten ↔ p ∈ ms.flatten := fun p => by
      have := h p
      rw [List.flatten_cons, List.flatten_cons, List.mem_append, List.mem_append] at this
      constructor
      · intro hp
        rcases this.1 (.inr hp) with q | q
        · exact absurd q (hne a3 hp)
        · exact q
      · intro hp
        rcases this.2 (.inr hp) with q | q
        · exact absurd q (hne b3 hp)
        · exact q
    rw [leaves_eq (j := j + 1) a2 b2 (fun x hx => h1 x (List.mem_cons_of_mem _ hx)) (fun x hx => h2 x (List.mem_cons_of_mem _ hx)) h' fun p hp => ?_]
    have hpl := hne a3 hp
    have := hl p (by rw [List.flatten_cons]; exact List.mem_append_right _ hp)
    unfold leafFrom at this
    rw [if_neg hpl, if_neg hpl] at this
    exact this
/-- what a checked view is -/
theorem check_partsZ {V : View} (h : checkB V = true) : 0 ≤ V.id ∧ V.ls.flatten.Nodup ∧ (∀ l ∈ V.ls, l ≠ [] ∧ l.Pairwise (fun p q => atIx V.ms p < atIx V.ms q)) ∧ (∀ p, p ∈ V.ls.flatten ↔ p ∈ V.ms) ∧ V.ds.Pairwise (fun p q => atIx V.ms p < atIx V.ms q) ∧ ∀ p ∈ V.ds, p ∈ V.ms := by
  unfold checkB at h
  simp only [Bool.and_eq_true, decide_eq_true_eq, chkFrom_iff, chkEnd, ris_same, List.nil_append, Nat.zero_add] at h
  obtain ⟨a, b, c, d, e, f, g, h, i⟩ := h
  have hl := lens_flatten V.ls
  unfold membersB at c
  rw [memFrom_iff] at c
  have hnd := nodup_of_ids c.2.2.1
  have hfm : ∀ x ∈ V.ls.flatten, x ∈ V.ms := fun x hx => by
    obtain ⟨l, hl1, hl2⟩ := List.mem_flatten.1 hx
    exact risR_mem (d l hl1).2 x hl2
  have hfn : V.ls.flatten.Nodup := unionL_nodup.1 (by omega)
  have hc := (count_iff hnd hfm).2 ⟨by omega, hfn⟩
  exact ⟨by omega, hfn, fun l hl => ⟨(d l hl).1, risR_pw (d l hl).2⟩, fun p => ⟨hfm p, fun hp => List.count_pos_iff.1 (by rw [hc p hp]; omega)⟩, risR_pw i, risR_mem i⟩
theorem viewP_inj {A B : View} (hA : checkB A = true) (hB : checkB B = true) (wA : WfPids A.ms) (wB : WfPids B.ms) (h : viewP A = viewP B) : A = B := by
  obtain ⟨a0, a1, a2, a3, a4, a5⟩ := check_partsZ hA
  obtain ⟨b0, b1, b2, b3, b4, b5⟩ := check_partsZ hB
  unfold viewP at h
  obtain ⟨e1, e2⟩ := cutc (dec_no (by decide) _) (dec_no (by decide) _) (words_end A A.ms) (words_end B B.ms) h
  have d1 := dec_inj e1
  obtain ⟨e3, e4⟩ := words_inj wA wB e2
  have e5 : A.ds = B.ds := by
    rw [← e3] at b4
    refine pw_unique a4 b4 fun p => ⟨fun hp => ?_, fun hp => ?_⟩
    · exact (e4 p (a5 p hp)).2.1 hp
    · exact (e4 p (by rw [e3]; exact b5 p hp)).2.2 hp
  have e6 : A.ls = B.ls := by
    rw [← e3] at b2
    refine leaves_eq (j := 0) a1 b1 a2 b2 (fun p => by rw [a3, b3, e3]) fun p hp => ?_
    have hp' := (a3 p).1 hp
    have k1 := leafFrom_low (j := 0) hp
    have k2 := leafFrom_low (j := 0) (show p ∈ B.ls.flatten by rw [b3, ← e3]; exact hp')
    have := (e4 p hp').1
    unfold leafIx at this
    omega
  obtain ⟨i1, m1, l1, s1⟩ := A
  obtain ⟨i2, m2, l2, s2⟩ := B
  simp only at *
  subst e3 e5 e6
  have : i1 = i2 := by omega
  rw [this]
end Go.Proofs.YtppapeoainafbaaGreatDoor

namespace Go.Proofs.YtppapeoainafbaaGreatDoor
open Go.RowKit
/-! ### texts of commands, in plain words -/
def sendP (c : CmdD) : Str := [115, 101, 110, 100, 32] ++ printP c.fr ++ [32] ++ Lib.decDigits c.num ++ [32] ++ Lib.decDigits c.vw ++ [32, 120] ++ hexP c.data
def textP (c : CmdD) : Str :=
  if cmdChk c ≠ 0 then [63] else if c.kind = 2 then sendP c else if c.kind = 3 then [118, 105, 101, 119, 32] ++ viewP c.v else [110, 111, 112]
theorem send_inj {a b : CmdD} (fa : okP a.fr) (fb : okP b.fr) (da : ∀ x ∈ a.data, x < 256) (db : ∀ x ∈ b.data, x < 256) (h : sendP a = sendP b) : a.fr = b.fr ∧ a.num = b.num ∧ a.vw = b.vw ∧ a.data = b.data := by
  have e : ∀ c : CmdD, sendP c = [115, 101, 110, 100, 32] ++ (printP c.fr ++ 32 :: (Lib.decDigits c.num ++ 32 :: (Lib.decDigits c.vw ++ 32 :: 120 :: hexP c.data))) := fun c => by unfold sendP; simp
  rw [e, e] at h
  have h := List.append_cancel_left h
  obtain ⟨e1, h⟩ := cutc (printP_no (by decide) (by decide) _) (printP_no (by decide) (by decide) _) (.inr ⟨_, rfl⟩) (.inr ⟨_, rfl⟩) h
  obtain ⟨e2, h⟩ := cutc (dec_no (by decide) _) (dec_no (by decide) _) (.inr ⟨_, rfl⟩) (.inr ⟨_, rfl⟩) (List.cons.inj h).2
  obtain ⟨e3, h⟩ := cutc (dec_no (by decide) _) (dec_no (by decide) _) (.inr ⟨_, rfl⟩) (.inr ⟨_, rfl⟩) (List.cons.inj h).2
  have h4 := (List.cons.inj (List.cons.inj h).2).2
  unfold okP at fa fb
  exact ⟨printP_inj (by omega) (by omega) e1, dec_inj e2, dec_inj e3, hexP_inj _ _ da db h4⟩
theorem chk_1 {c : CmdD} (h : cmdChk c = 0) (hk : c.kind = 1) : c = ⟨1, (0, 0), 0, 0, [], zeroV⟩ := by
  unfold cmdChk at h
  rw [if_pos hk] at h
  split at h
  · next hc =>
    obtain ⟨h1, h2, h3, h4, h5⟩ := hc
    obtain ⟨k, f, n, v, d, w⟩ := c
    simp only at *
    subst hk h1 h2 h3 h4 h5; rfl
  · cases h
theorem chk_2 {c : CmdD} (h : cmdChk c = 0) (hk : c.kind = 2) : c.v = zeroV := by
  unfold cmdChk at h
  rw [if_neg (by omega), if_pos hk] at h
  split at h
  · next hc => exact hc.2.2.2
  · cases h
theorem chk_3 {c : CmdD} (h : cmdChk c = 0) (hk : c.kind = 3) : c.fr = (0, 0) ∧ c.num = 0 ∧ c.vw = 0 ∧ c.data = [] ∧ refCheckB c.v = true := by
  unfold cmdChk at h
  rw [if_neg (by omega), if_neg (by omega), if_pos hk] at h
  split at h
  · next hc => exact hc
  · cases h
theorem chk_kind {c : CmdD} (h : cmdChk c = 0) : c.kind = 1 ∨ c.kind = 2 ∨ c.kind = 3 := by
  unfold cmdChk at h
  by_cases h1 : c.kind = 1
  · exact .inl h1
  · by_cases h2 : c.kind = 2
    · exact .inr (.inl h2)
    · by_cases h3 : c.kind = 3
      · exact .inr (.inr h3)
      · rw [if_neg h1, if_neg h2, if_neg h3] at h; cases h
theorem text_2 {c : CmdD} (h : cmdChk c = 0) (hk : c.kind = 2) : textP c = sendP c := by
  unfold textP; rw [if_neg (by omega), if_pos hk]
theorem text_3 {c : CmdD} (h : cmdChk c = 0) (hk : c.kind = 3) : textP c = [118, 105, 101, 119, 32] ++ viewP c.v := by
  unfold textP; rw [if_neg (by omega), if_neg (by omega), if_pos hk]
theorem text_1 {c : CmdD} (h : cmdChk c = 0) (hk : c.kind = 1) : textP c = [110, 111, 112] := by
  unfold textP; rw [if_neg (by omega), if_neg (by omega), if_neg (by omega)]
theorem text_no {c : CmdD} (h : cmdChk c ≠ 0) : textP c = [63] := by
  unfold textP; rw [if_pos h]
theorem text_inj {a b : CmdD} (fa : okP a.fr) (fb : okP b.fr) (da : ∀ x ∈ a.data, x < 256) (db : ∀ x ∈ b.data, x < 256) (wa : WfPids a.v.ms) (wb : WfPids b.v.ms) (h : textP a = textP b) (hq : textP a ≠ [63]) : a = b := by
  have ha : cmdChk a = 0 := by
    by_cases h0 : cmdChk a = 0
    · exact h0
    · exact absurd (text_no h0) hq
  have hb : cmdChk b = 0 := by
    by_cases h0 : cmdChk b = 0
    · exact h0
    · exact absurd (h.trans (text_no h0)) hq
  rcases chk_kind ha with ka | ka | ka <;> rcases chk_kind hb with kb | kb | kb
  · rw [chk_1 ha ka, chk_1 hb kb]
  · rw [text_1 ha ka, text_2 hb kb] at h; unfold sendP at h; simp at h
  · rw [text_1 ha ka, text_3 hb kb] at h; simp at h
  · rw [text_2 ha ka, text_1 hb kb] at h; unfold sendP at h; simp at h
  · rw [text_2 ha ka, text_2 hb kb] at h
    obtain ⟨e1, e2, e3, e4⟩ := send_inj fa fb da db h
    have v1 := chk_2 ha ka
    have v2 := chk_2 hb kb
    obtain ⟨k, f, n, v, d, w⟩ := a
    obtain ⟨k', f', n', v', d', w'⟩ := b
    simp only at *
    subst ka kb e1 e2 e3 e4 v1 v2; rfl
  · rw [text_2 ha ka, text_3 hb kb] at h; unfold sendP at h; simp at h
  · rw [text_3 ha ka, text_1 hb kb] at h; simp at h
  · rw [text_3 ha ka, text_2 hb kb] at h; unfold sendP at h; simp at h
  · rw [text_3 ha ka, text_3 hb kb] at h
    obtain ⟨x1, x2, x3, x4, x5⟩ := chk_3 ha ka
    obtain ⟨y1, y2, y3, y4, y5⟩ := chk_3 hb kb
    have e := viewP_inj (by rw [check_eq _ wa]; exact x5) (by rw [check_eq _ wb]; exact y5) wa wb (List.append_cancel_left h)
    obtain ⟨k, f, n, v, d, w⟩ := a
    obtain ⟨k', f', n', v', d', w'⟩ := b
    simp only at *
    subst ka kb x1 x2 x3 x4 y1 y2 y3 y4 e; rfl
end Go.Proofs.YtppapeoainafbaaGreatDoor

namespace Go.Proofs.YtppapeoainafbaaGreatDoor
open Go.RowKit
/-! ### texts of messages, in plain words -/
def wordK (k : Int) : Str :=
  if k = 1 then [115, 117, 98, 109, 105, 116] else if k = 2 then [99, 104, 111, 115, 101, 110] else if k = 3 then [110, 101, 101, 100] else if k = 4 then [112, 114, 101, 112, 97, 114, 101]
  else if k = 5 then [112, 114, 111, 109, 105, 115, 101] else if k = 6 then [97, 99, 99, 101, 112, 116] else if k = 7 then [97, 99, 99, 101, 112, 116, 101, 100] else if k = 8 then [110, 97, 99, 107]
  else if k = 9 then [102, 108, 117, 115, 104] else if k = 10 then [102, 108, 117, 115, 104, 101, 100] else if k = 11 then [106, 111, 105, 110] else if k = 12 then [119, 101, 108, 99, 111, 109, 101]
  else if k = 13 then [108, 101, 97, 118, 101] else [101, 120, 112, 101, 108]
def numT (c : UInt8) (n : Nat) : Str := [32, c] ++ Lib.decDigits n
def balT (c : UInt8) (b : Bal) : Str := numT c b.1 ++ [58] ++ printP b.2
def gd (g : Bool) (s : Str) : Str := if g then s else []
def whoT (p : Pid) : Str := [32] ++ printP p
def brkT (s : Str) : Str := [32, 91] ++ s ++ [93]
def hexT (y : List Nat) : Str := [32, 120] ++ hexP y
def msgT (m : MsgD) : Str :=
  if msgChk m = false then [63] else
  wordK m.kind ++ gd (hb m.kind 0) (whoT m.who) ++ gd (hb m.kind 1) (numT 118 m.vw) ++ gd (hb m.kind 2) (numT 115 m.sl) ++ gd (hb m.kind 3) (balT 98 m.b) ++ gd (hb m.kind 4) (numT 110 m.num) ++ gd (hb m.kind 5) (numT 104 m.hops.toNat)
    ++ gd m.has (balT 97 m.a) ++ gd (m.has || hb m.kind 7) (brkT (textP m.c)) ++ gd (hb m.kind 8) (brkT (viewP m.v)) ++ gd (hb m.kind 9) (hexT m.y)
def susT : List Pid → Str
  | [] => []
  | p :: r => ([32, 33] ++ printP p) ++ susT r
def beatT (x : BeatD) : Str :=
  if beatChk x = false then [63] else
  [98, 101, 97, 116] ++ numT 118 x.v ++ numT 97 x.ap ++ numT 108 x.be ++ numT 115 x.st ++ susT x.sus
theorem susT_drop {xs : List Pid} {k : Nat} (h : k < xs.length) {p : Pid} (hp : p = xs[k]) : susT (xs.drop k) = ([32, 33] ++ printP p) ++ susT (xs.drop (k + 1)) := by
  rw [List.drop_eq_getElem_cons h, ← hp]; rfl
/-! ### a text tells the message -/
theorem ends_gd {g : Bool} {s r : Str} (hs : ∃ t, s = 32 :: t) (hr : endsC 32 r) : endsC 32 (gd g s ++ r) := by
  obtain ⟨t, rfl⟩ := hs
  cases g
  · simpa [gd] using hr
  · exact .inr ⟨t ++ r, by simp [gd]⟩
theorem gd_num {g : Bool} {c : UInt8} {n k : Nat} {r q : Str} (hr : endsC 32 r) (hq : endsC 32 q) (h : gd g (numT c n) ++ r = gd g (numT c k) ++ q) : (g = true → n = k) ∧ r = q := by
  cases g
  · exact ⟨fun h => (by cases h), by simpa [gd] using h⟩
  · simp only [gd, if_true, numT, List.append_assoc] at h
    obtain ⟨e1, e2⟩ := cutc (dec_no (by decide) _) (dec_no (by decide) _) hr hq (List.append_cancel_left h)
    exact ⟨fun _ => dec_inj e1, e2⟩
theorem gd_who {g : Bool} {n k : Pid} (hn : okP n) (hk : okP k) {r q : Str} (hr : endsC 32 r) (hq : endsC 32 q) (h : gd g (whoT n) ++ r = gd g (whoT k) ++ q) : (g = true → n = k) ∧ r = q := by
  cases g
  · exact ⟨fun h => (by cases h), by simpa [gd] using h⟩
  · simp only [gd, if_true, whoT, List.append_assoc] at h
    obtain ⟨e1, e2⟩ := cutc (printP_no (by decide) (by decide) _) (printP_no (by decide) (by decide) _) hr hq (List.append_cancel_left h)
    unfold okP at hn hk
    exact ⟨fun _ => printP_inj (by omega) (by omega) e1, e2⟩
theorem dec_no58 (u : Nat) : (58 : UInt8) ∉ Lib.decDigits u := fun h => by
  have := dec_ok u _ h
  unfold dgOk at this
  have e : (58 : UInt8).toNat = 58 := rfl
  omega
theorem bal_one {c : UInt8} {n k : Bal} (hn : okP n.2) (hk : okP k.2) {r q : Str} (hr : endsC 32 r) (hq : endsC 32 q) (h : balT c n ++ r = balT c k ++ q) : n = k ∧ r = q := by
  simp only [balT, numT, List.append_assoc] at h
  have h := List.append_cancel_left h
  obtain ⟨e1, h⟩ := cutc (c := 58) (dec_no58 _) (dec_no58 _) (.inr ⟨_, rfl⟩) (.inr ⟨_, rfl⟩) h
  obtain ⟨e2, e3⟩ := cutc (printP_no (by decide) (by decide) _) (printP_no (by decide) (by decide) _) hr hq (List.cons.inj h).2
  unfold okP at hn hk
  exact ⟨Prod.ext (dec_inj e1) (printP_inj (by omega) (by omega) e2), e3⟩
theorem gd_bal {g : Bool} {c : UInt8} {n k : Bal} (hn : okP n.2) (hk : okP k.2) {r q : Str} (hr : endsC 32 r) (hq : endsC 32 q) (h : gd g (balT c n) ++ r = gd g (balT c k) ++ q) : (g = true → n = k) ∧ r = q := by
  cases g
  · exact ⟨fun h => (by cases h), by simpa [gd] using h⟩
  · obtain ⟨e1, e2⟩ := bal_one hn hk hr hq h
    exact ⟨fun _ => e1, e2⟩
theorem brk_one {s t r q : Str} (hs : 93 ∉ s) (ht : 93 ∉ t) (h : brkT s ++ r = brkT t ++ q) : s = t ∧ r = q := by
  simp only [brkT, List.append_assoc] at h
  obtain ⟨e1, e2⟩ := cutc (c := 93) hs ht (.inr ⟨_, rfl⟩) (.inr ⟨_, rfl⟩) (List.append_cancel_left h)
  exact ⟨e1, (List.cons.inj e2).2⟩
theorem gd_brk {g : Bool} {s t r q : Str} (hs : 93 ∉ s) (ht : 93 ∉ t) (h : gd g (brkT s) ++ r = gd g (brkT t) ++ q) : (g = true → s = t) ∧ r = q := by
  cases g
  · exact ⟨fun h => (by cases h), by simpa [gd] using h⟩
  · obtain ⟨e1, e2⟩ := brk_one hs ht h
    exact ⟨fun _ => e1, e2⟩
theorem dec_no93 (u : Nat) : (93 : UInt8) ∉ Lib.decDigits u := fun h => by
  have := dec_ok u _ h
  unfold dgOk at this
  have e : (93 : UInt8).toNat = 93 := rfl
  omega
theorem printP_no93 (p : Pid) : (93 : UInt8) ∉ printP p := by
  unfold printP
  intro h
  rcases List.mem_append.1 h with h | h
  · exact dec_no93 _ h
  · rcases List.mem_cons.1 h with h | h
    · exact absurd h (by decide)
    · exact dec_no93 _ h
theorem hexD_no93 : ∀ i, i < 16 → hexD i ≠ 93 := by decide +kernel
theorem hexP_no93 : ∀ {bs : List Nat}, (∀ b ∈ bs, b < 256) → (93 : UInt8) ∉ hexP bs
  | [], _, h => by cases h
  | b :: r, hb, h => by
    have h0 : b < 256 := hb b (List.mem_cons_self ..)
    unfold hexP at h
    rcases List.mem_cons.1 h with e | h
    · exact hexD_no93 (b / 16) (by omega) e.symm
    · rcases List.mem_cons.1 h with e | h
      · exact hexD_no93 (b % 16) (by omega) e.symm
      · exact hexP_no93 (fun x hx => hb x (List.mem_cons_of_mem _ hx)) h
theorem wordP_no93 (V : View) (p : Pid) : (93 : UInt8) ∉ wordP V p := by
  unfold wordP
  intro h
  have d1 := printP_no93 p
  have d2 := dec_no93 (leafIx V.ls p).toNat
  by_cases hp : p ∈ V.ds
  · simp [hp, d1, d2] at h
  · simp [hp, d1, d2] at h
theorem wordsP_no93 (V : View) : ∀ l : List Pid, (93 : UInt8) ∉ wordsP V l
  | [] => by simp [wordsP]
  | p :: r => fun h => by
    rcases List.mem_append.1 h with h | h
    · exact wordP_no93 V p h
    · exact wordsP_no93 V r h
theorem viewP_no93 (V : View) : (93 : UInt8) ∉ viewP V := fun h => by
  rcases List.mem_append.1 h with h | h
  · exact dec_no93 _ h
  · exact wordsP_no93 V _ h
theorem textP_no93 {c : CmdD} (hd : ∀ b ∈ c.data, b < 256) : (93 : UInt8) ∉ textP c := by
  have d1 := printP_no93 c.fr
  have d2 := dec_no93 c.num
  have d3 := dec_no93 c.vw
  have d4 := hexP_no93 hd
  have d5 := viewP_no93 c.v
  unfold textP sendP
  split
  · decide
  · split
    · intro h
      simp [d1, d2, d3, d4] at h
    · split
      · intro h
        simp [d5] at h
      · decide
theorem word_inj {a b : Int} (ha : 1 ≤ a ∧ a ≤ 14) (hb : 1 ≤ b ∧ b ≤ 14) (h : wordK a = wordK b) : a = b := by
  have key : ∀ i : Fin 14, ∀ j : Fin 14, wordK ((i.val : Int) + 1) = wordK ((j.val : Int) + 1) → i = j := by decide +kernel
  have e1 : (((⟨(a - 1).toNat, by omega⟩ : Fin 14).val : Nat) : Int) + 1 = a := by show (((a - 1).toNat : Nat) : Int) + 1 = a; omega
  have e2 : (((⟨(b - 1).toNat, by omega⟩ : Fin 14).val : Nat) : Int) + 1 = b := by show (((b - 1).toNat : Nat) : Int) + 1 = b; omega
  have := key ⟨(a - 1).toNat, by omega⟩ ⟨(b - 1).toNat, by omega⟩ (by rw [e1, e2]; exact h)
  have := congrArg Fin.val this
  simp only at this
  omega
theorem word_no (k : Int) : (32 : UInt8) ∉ wordK k := by
  unfold wordK
  by_cases h1 : k = 1
  · rw [if_pos h1]; decide
  rw [if_neg h1]
  by_cases h2 : k = 2
  · rw [if_pos h2]; decide
  rw [if_neg h2]
  by_cases h3 : k = 3
  · rw [if_pos h3]; decide
  rw [if_neg h3]
  by_cases h4 : k = 4
  · rw [if_pos h4]; decide
  rw [if_neg h4]
  by_cases h5 : k = 5
  · rw [if_pos h5]; decide
  rw [if_neg h5]
  by_cases h6 : k = 6
  · rw [if_pos h6]; decide
  rw [if_neg h6]
  by_cases h7 : k = 7
  · rw [if_pos h7]; decide
  rw [if_neg h7]
  by_cases h8 : k = 8
  · rw [if_pos h8]; decide
  rw [if_neg h8]
  by_cases h9 : k = 9
  · rw [if_pos h9]; decide
  rw [if_neg h9]
  by_cases h10 : k = 10
  · rw [if_pos h10]; decide
  rw [if_neg h10]
  by_cases h11 : k = 11
  · rw [if_pos h11]; decide
  rw [if_neg h11]
  by_cases h12 : k = 12
  · rw [if_pos h12]; decide
  rw [if_neg h12]
  by_cases h13 : k = 13
  · rw [if_pos h13]; decide
  rw [if_neg h13]
  decide
theorem MsgOk.kd {m : MsgD} (h : MsgOk m) : 1 ≤ m.kind ∧ m.kind ≤ 14 := by
  rcases kinds m.kind with e | e | e | e | e | e | e | e | e | e | e | e | e | e | ⟨-, e, -⟩
  all_goals first
    | omega
    | exact absurd e h.f
theorem hb_5 {k : Int} (h : hb k 6 = true) : k = 5 := by
  have hc := hb_ltrs k (i := 6) (by decide)
  rw [h] at hc
  rcases kinds k with rfl | rfl | rfl | rfl | rfl | rfl | rfl | rfl | rfl | rfl | rfl | rfl | rfl | rfl | ⟨-, -, e⟩
  all_goals first
    | rfl
    | (exact absurd hc.symm (by decide))
    | (rw [e] at hc; exact absurd hc.symm (by decide))
theorem st_num (c : UInt8) (n : Nat) : ∃ t, numT c n = 32 :: t := ⟨_, rfl⟩
theorem st_who (p : Pid) : ∃ t, whoT p = 32 :: t := ⟨_, rfl⟩
theorem st_bal (c : UInt8) (b : Bal) : ∃ t, balT c b = 32 :: t := ⟨_, rfl⟩
theorem st_brk (s : Str) : ∃ t, brkT s = 32 :: t := ⟨_, rfl⟩
theorem st_hex (y : List Nat) : ∃ t, hexT y = 32 :: t := ⟨_, rfl⟩
theorem msgT_no {m : MsgD} (h : msgChk m = false) : msgT m = [63] := by unfold msgT; rw [if_pos h]
theorem msgT_yes {m : MsgD} (h : msgChk m = true) : msgT m = wordK m.kind ++ (gd (hb m.kind 0) (whoT m.who) ++ (gd (hb m.kind 1) (numT 118 m.vw) ++ (gd (hb m.kind 2) (numT 115 m.sl) ++ (gd (hb m.kind 3) (balT 98 m.b) ++ (gd (hb m.kind 4) (numT 110 m.num) ++ (gd (hb m.kind 5) (numT 104 m.hops.toNat)
    ++ (gd m.has (balT 97 m.a) ++ (gd (m.has || hb m.kind 7) (brkT (textP m.c)) ++ (gd (hb m.kind 8) (brkT (viewP m.v)) ++ (gd (hb m.kind 9) (hexT m.y) ++ [])))))))))) := by
  unfold msgT; rw [if_neg (by rw [h]; decide)]; simp only [List.append_assoc, List.append_nil]
theorem text_self {c : CmdD} (h : cmdChk c = 0) : textP c ≠ [63] := by
  rcases chk_kind h with hk | hk | hk
  · rw [text_1 h hk]; decide
  · rw [text_2 h hk]; unfold sendP; simp
  · rw [text_3 h hk]; simp
theorem msgT_inj {a b : MsgD} (wa : MsgWf a) (wb : MsgWf b) (ya : ∀ x ∈ a.y, x < 256) (yb : ∀ x ∈ b.y, x < 256) (da : ∀ x ∈ a.c.data, x < 256) (db : ∀ x ∈ b.c.data, x < 256)
    (ca : okP a.c.fr ∧ WfPids a.c.v.ms) (cb : okP b.c.fr ∧ WfPids b.c.v.ms) (va : WfPids a.v.ms) (vb : WfPids b.v.ms) (h : msgT a = msgT b) (hq : msgT a ≠ [63]) : a = b := by
  have ha : msgChk a = true := by
    cases h0 : msgChk a
    · exact absurd (msgT_no h0) hq
    · rfl
  have hb' : msgChk b = true := by
    cases h0 : msgChk b
    · exact absurd (h.trans (msgT_no h0)) hq
    · rfl
  have oa := msgChk_ok ha
  have ob := msgChk_ok hb'
  have ka := oa.kd
  have kb := ob.kd
  rw [msgT_yes ha, msgT_yes hb'] at h
  have E10 : ∀ m : MsgD, endsC 32 (gd (hb m.kind 9) (hexT m.y) ++ []) := fun m => ends_gd (st_hex _) (.inl rfl)
  have E9 : ∀ m : MsgD, endsC 32 (gd (hb m.kind 8) (brkT (viewP m.v)) ++ (gd (hb m.kind 9) (hexT m.y) ++ [])) := fun m => ends_gd (st_brk _) (E10 m)
  have E8 := fun m : MsgD => ends_gd (g := m.has || hb m.kind 7) (st_brk (textP m.c)) (E9 m)
  have E7 := fun m : MsgD => ends_gd (g := m.has) (st_bal 97 m.a) (E8 m)
  have E6 := fun m : MsgD => ends_gd (g := hb m.kind 5) (st_num 104 m.hops.toNat) (E7 m)
  have E5 := fun m : MsgD => ends_gd (g := hb m.kind 4) (st_num 110 m.num) (E6 m)
  have E4 := fun m : MsgD => ends_gd (g := hb m.kind 3) (st_bal 98 m.b) (E5 m)
  have E3 := fun m : MsgD => ends_gd (g := hb m.kind 2) (st_num 115 m.sl) (E4 m)
  have E2 := fun m : MsgD => ends_gd (g := hb m.kind 1) (st_num 118 m.vw) (E3 m)
  have E1 := fun m : MsgD => ends_gd (g := hb m.kind 0) (st_who m.who) (E2 m)
  obtain ⟨e0, h⟩ := cutc (word_no _) (word_no _) (E1 a) (E1 b) h
  have ek := word_inj ka kb e0
  rw [← ek] at h
  have E2b := E2 b; have E3b := E3 b; have E4b := E4 b; have E5b := E5 b; have E6b := E6 b; have E7b := E7 b; have E8b := E8 b; have E9b := E9 b; have E10b := E10 b
  rw [← ek] at E2b E3b E4b E5b E6b E7b E8b E9b E10b
  obtain ⟨f0, h⟩ := gd_who wa.who wb.who (E2 a) E2b h
  obtain ⟨f1, h⟩ := gd_num (E3 a) E3b h
  obtain ⟨f2, h⟩ := gd_num (E4 a) E4b h
  obtain ⟨f3, h⟩ := gd_bal wa.b.2 wb.b.2 (E5 a) E5b h
  obtain ⟨f4, h⟩ := gd_num (E6 a) E6b h
  obtain ⟨f5, h⟩ := gd_num (E7 a) E7b h
  obtain ⟨i1, i2, i3, i4, i5, i6, i7, i8, i9, i10, i11⟩ := oa.inj
  obtain ⟨j1, j2, j3, j4, j5, j6, j7, j8, j9, j10, j11⟩ := ob.inj
  rw [← ek] at j1 j2 j3 j4 j5 j6 j7 j8 j9 j10 j11
  have k5 : ∀ {m : MsgD}, m.has = (if hb m.kind 6 then m.has else false) → m.has = true → hb m.kind 6 = true := fun {m} e h => by
    cases hh : hb m.kind 6
    · rw [hh, h] at e; simp at e
    · rfl
  have no5 : hb 5 7 = false ∧ hb 5 8 = false ∧ hb 5 9 = false := by decide
  have eh : a.has = b.has := by
    cases h1 : a.has <;> cases h2 : b.has
    · rfl
    · have := hb_5 (k5 (by rw [← ek]; exact j7) h2)
      rw [← ek] at this
      rw [h1, h2, this, no5.1, no5.2.1, no5.2.2] at h
      simp [gd, balT, numT] at h
    · have := hb_5 (k5 i7 h1)
      rw [h1, h2, this, no5.1, no5.2.1, no5.2.2] at h
      simp [gd, balT, numT] at h
    · rfl
  rw [← eh] at h j8 j9 E8b
  obtain ⟨f6, h⟩ := gd_bal wa.a.2 wb.a.2 (E8 a) E8b h
  obtain ⟨f7, h⟩ := gd_brk (textP_no93 da) (textP_no93 db) h
  obtain ⟨f8, h⟩ := gd_brk (viewP_no93 _) (viewP_no93 _) h
  have f9 : hb a.kind 9 = true → a.y = b.y := fun g => by
    rw [g] at h
    simp only [gd, if_true, hexT, List.append_nil] at h
    exact hexP_inj _ _ ya yb (List.append_cancel_left h)
  have pick : ∀ {α : Type} {g : Bool} {x y z : α}, x = (if g then x else z) → y = (if g then y else z) → (g = true → x = y) → x = y := fun {α} {g} {x y z} h1 h2 h3 => by
    cases g
    · simp at h1 h2; rw [h1, h2]
    · exact h3 rfl
  have g0 := pick i1 j1 f0
  have g1 := pick i2 j2 f1
  have g2 := pick i3 j3 f2
  have g3 := pick i4 j4 f3
  have g4 := pick i5 j5 f4
  have g5 := pick i6 j6 fun g => by have := f5 g; have x := oa.hops; have y := ob.hops; omega
  have g6 := pick i8 j8 fun g => f6 (by simp only [Bool.and_eq_true] at g; exact g.2)
  have g7 := pick i9 j9 fun g => by
    have g' : (a.has || hb a.kind 7) = true := by
      simp only [Bool.or_eq_true, Bool.and_eq_true] at g ⊢
      rcases g with g | g
      · exact .inl g.2
      · exact .inr g
    have hc : cmdChk a.c = 0 := by
      simp only [Bool.or_eq_true] at g'
      rcases g' with g' | g'
      · exact (oa.a g').2
      · exact oa.c g'
    exact text_inj ca.1 cb.1 da db ca.2 cb.2 (f7 g') (text_self hc)
  have g8 := pick i10 j10 fun g => by
    exact viewP_inj (by rw [check_eq _ va]; exact oa.v g) (by rw [check_eq _ vb]; exact ob.v (by rw [← ek]; exact g)) va vb (f8 g)
  have g9 := pick i11 j11 f9
  obtain ⟨a1, a2, a3, a4, a5, a6, a7, a8, a9, a10, a11, a12⟩ := a
  obtain ⟨b1, b2, b3, b4, b5, b6, b7, b8, b9, b10, b11, b12⟩ := b
  simp only at *
  subst ek g0 g1 g2 g3 g4 g5 g6 g7 g8 g9 eh; rfl
end Go.Proofs.YtppapeoainafbaaGreatDoor

/-
  DERIVED: THE SHELF's CONTRACTS AT THIS DUMP, IN PLAIN WORDS (tools/lay-plain.mjs out of 'YtppapeoainafbaaGreatDoorShelfBRaw.lean', which tools/lay-shelf.mjs wrote): THE SAME DECLARATIONS UNDER THE SAME NAMES: 'import', 'namespace', 'open', 'def', 'theorem' AND NOTHING ELSE: no command of the shelf's: FOR A HAND-IN. Each laying: the table of numbers ('.._ren') and one theorem, a field a fact of the dump's own or the kernel's comparison; each contract: ONE APPLICATION.
-/
namespace Go.Proofs
open Go.Shelf
def Tryz.bst_ren : Go.Shelf.Ren := ⟨fun | 169 => 60 | n => n, fun | 70 => 93 | 9 => 9 | 0 => 0 | 72 => 95 | 37 => 29 | 127 => 140 | 3 => 3 | 5 => 5 | n => n, fun | n => n⟩
theorem Tryz.bst : Go.Proofs.Lays.n169 Tryz.prog Tryz.bst_ren := {
  mixed := by kernel_rfl
  f169 := Tryz.func60.trans (congrArg some (by kernel_rfl))
  t0 := Tryz.underlying0
  a0 := Tryz.isAgg0
  z0 := Tryz.sizeOf0
  v0 := Tryz.zeroValue0
  t3 := Tryz.underlying3
  a3 := Tryz.isAgg3
  z3 := Tryz.sizeOf3
  v3 := Tryz.zeroValue3
  t9 := Tryz.underlying9
  a9 := Tryz.isAgg9
  z9 := Tryz.sizeOf9
  v9 := Tryz.zeroValue9
  t37 := Tryz.underlying29
  a37 := Tryz.isAgg29
  z37 := Tryz.sizeOf29
  v37 := Tryz.zeroValue29
  t70 := Tryz.underlying93
  a70 := Tryz.isAgg93
  z70 := Tryz.sizeOf93
  v70 := Tryz.zeroValue93
  t72 := Tryz.underlying95
  a72 := Tryz.isAgg95
  z72 := Tryz.sizeOf95
  v72 := Tryz.zeroValue95
  t127 := Tryz.underlying140
  a127 := Tryz.isAgg140
  z127 := Tryz.sizeOf140
  v127 := Tryz.zeroValue140 }
def Tryz.itoa_ren : Go.Shelf.Ren := ⟨fun | 171 => 57 | 243 => 103 | 246 => 134 | 283 => 130 | 284 => 131 | 285 => 132 | 286 => 133 | 129 => 148 | 317 => 147 | 318 => 149 | 319 => 150 | 320 => 151 | 337 => 157 | 338 => 158 | n => n, fun | 3 => 3 | 9 => 9 | 2 => 2 | 4 => 4 | 171 => 166 | 0 => 0 | 53 => 26 | 37 => 29 | 5 => 5 | 173 => 169 | 212 => 187 | 51 => 23 | 20 => 20 | 213 => 188 | 46 => 62 | 232 => 201 | 233 => 202 | n => n, fun | 17 => 2 | 18 => 6 | 19 => 7 | n => n⟩
theorem Tryz.itoa : Go.Proofs.Lays.n171 Tryz.prog Tryz.itoa_ren := {
  mixed := by kernel_rfl
  f129 := Tryz.func148.trans (congrArg some (by kernel_rfl))
  f171 := Tryz.func57.trans (congrArg some (by kernel_rfl))
  f243 := Tryz.func103.trans (congrArg some (by kernel_rfl))
  f246 := Tryz.func134.trans (congrArg some (by kernel_rfl))
  f283 := Tryz.func130.trans (congrArg some (by kernel_rfl))
  f284 := Tryz.func131.trans (congrArg some (by kernel_rfl))
  f285 := Tryz.func132.trans (congrArg some (by kernel_rfl))
  f286 := Tryz.func133.trans (congrArg some (by kernel_rfl))
  f317 := Tryz.func147.trans (congrArg some (by kernel_rfl))
  f318 := Tryz.func149.trans (congrArg some (by kernel_rfl))
  f319 := Tryz.func150.trans (congrArg some (by kernel_rfl))
  f320 := Tryz.func151.trans (congrArg some (by kernel_rfl))
  f337 := Tryz.func157.trans (congrArg some (by kernel_rfl))
  f338 := Tryz.func158.trans (congrArg some (by kernel_rfl))
  t0 := Tryz.underlying0
  a0 := Tryz.isAgg0
  z0 := Tryz.sizeOf0
  v0 := Tryz.zeroValue0
  t2 := Tryz.underlying2
  a2 := Tryz.isAgg2
  z2 := Tryz.sizeOf2
  v2 := Tryz.zeroValue2
  t3 := Tryz.underlying3
  a3 := Tryz.isAgg3
  z3 := Tryz.sizeOf3
  v3 := Tryz.zeroValue3
  t4 := Tryz.underlying4
  a4 := Tryz.isAgg4
  z4 := Tryz.sizeOf4
  v4 := Tryz.zeroValue4
  t5 := Tryz.underlying5
  a5 := Tryz.isAgg5
  z5 := Tryz.sizeOf5
  v5 := Tryz.zeroValue5
  t9 := Tryz.underlying9
  a9 := Tryz.isAgg9
  z9 := Tryz.sizeOf9
  v9 := Tryz.zeroValue9
  t20 := Tryz.underlying20
  a20 := Tryz.isAgg20
  z20 := Tryz.sizeOf20
  v20 := Tryz.zeroValue20
  t37 := Tryz.underlying29
  a37 := Tryz.isAgg29
  z37 := Tryz.sizeOf29
  v37 := Tryz.zeroValue29
  t46 := Tryz.underlying62
  a46 := Tryz.isAgg62
  z46 := Tryz.sizeOf62
  v46 := Tryz.zeroValue62
  t51 := Tryz.underlying23
  a51 := Tryz.isAgg23
  z51 := Tryz.sizeOf23
  v51 := Tryz.zeroValue23
  t53 := Tryz.underlying26
  a53 := Tryz.isAgg26
  z53 := Tryz.sizeOf26
  v53 := Tryz.zeroValue26
  t171 := Tryz.underlying166
  a171 := Tryz.isAgg166
  z171 := Tryz.sizeOf166
  v171 := Tryz.zeroValue166
  t173 := Tryz.underlying169
  a173 := Tryz.isAgg169
  z173 := Tryz.sizeOf169
  v173 := Tryz.zeroValue169
  t212 := Tryz.underlying187
  a212 := Tryz.isAgg187
  z212 := Tryz.sizeOf187
  v212 := Tryz.zeroValue187
  t213 := Tryz.underlying188
  a213 := Tryz.isAgg188
  z213 := Tryz.sizeOf188
  t232 := Tryz.underlying201
  a232 := Tryz.isAgg201
  z232 := Tryz.sizeOf201
  v232 := Tryz.zeroValue201
  t233 := Tryz.underlying202
  a233 := Tryz.isAgg202
  z233 := Tryz.sizeOf202
  v233 := Tryz.zeroValue202
  g17 := by kernel_rfl
  g18 := by kernel_rfl
  g19 := by kernel_rfl }
end Go.Proofs

namespace Go.Proofs.YtppapeoainafbaaGreatDoor
open Go.RowKit
/-! ### strings.Builder -/
/-- the builder at block b holds the text s; its own rows lie from B on -/
abbrev BldU (B b : Nat) (s : Str) (w : World) : Prop := Lib.BuilderAt 95 5 B b (.pointer (some ⟨b, 0, none⟩)) (Lib.byteCells s) w
abbrev Bld (B b : Nat) (s : Str) (w : World) : Prop := Lib.IsBuilder 95 5 B b (Lib.byteCells s) w
theorem bldSize : (Tryz.prog.info? 95).map (·.size) = some 2 := by kernel_rfl
theorem bldLies : liesAt Tryz.prog Tryz.prog.depth 95 (2 / Tryz.prog.cellsOf 95) 0 95 1 = true := by kernel_rfl
theorem bldNe : (95 : Nat) ≠ 5 := by decide
set_option maxHeartbeats 1600000 in
set_option maxRecDepth 100000 in
theorem bcheck_used (b : Nat) (w : World) (h0 : w.cell? ⟨b, 0, none⟩ = some (.pointer (some ⟨b, 0, none⟩))) :
    Calls Tryz.prog 101 #[.pointer (some ⟨b, 0, none⟩)] w fun e w' => e = .returned (.tuple #[]) ∧ w' = w := by
  obtain ⟨j, hj, _⟩ := Option.map_eq_some_iff.1 bldSize
  go_enter Tryz.func101, Tryz.ntmps101
  go_wp2
  rw [Lib.run_neq_ptr_same w _ Tryz.underlying93 hj]
  go_wp2
  go_end0
  exact ⟨rfl, rfl⟩
set_option maxHeartbeats 1600000 in
set_option maxRecDepth 100000 in
theorem bcheck_fresh (b : Nat) (w : World) (h0 : w.cell? ⟨b, 0, none⟩ = some (.pointer none)) (hsh : w.shape? b = some (95, 2)) (hfz : w.frozen? ⟨b, 0, none⟩ = false) :
    Calls Tryz.prog 101 #[.pointer (some ⟨b, 0, none⟩)] w fun e w' => e = .returned (.tuple #[]) ∧ w' = w.setCell ⟨b, 0, none⟩ (.pointer (some ⟨b, 0, none⟩)) := by
  obtain ⟨j, hj, hjs⟩ := Option.map_eq_some_iff.1 bldSize
  go_enter Tryz.func101, Tryz.ntmps101
  go_wp2
  rw [Lib.run_to_unsafe w ⟨b, 0, none⟩ Tryz.underlying93 Tryz.underlying164 hj (by rw [hjs]; decide) hsh (Nat.zero_lt_succ 1)]
  simp only [Result.andThen]
  rw [Oper.upon_value]
  go_wp2
  rw [run_callFunc_extern Tryz.func129 (by kernel_rfl) (by kernel_rfl) (by kernel_rfl) (e := Extern.AbiNoEscape.same) (by kernel_rfl)]
  rw [Lib.run_noEscape]
  simp only [Result.andThen]
  rw [Oper.upon_value]
  go_wp2
  rw [Lib.run_from_unsafe w ⟨b, 0, none⟩ Tryz.underlying164 Tryz.underlying93 hj hsh bldLies]
  simp only [Result.andThen]
  rw [Oper.upon_value]
  go_wp2
  go_end0
  exact ⟨rfl, rfl⟩
theorem bcheck_any (B b : Nat) (s : Str) (w : World) (h : Bld B b s w) :
    Calls Tryz.prog 101 #[.pointer (some ⟨b, 0, none⟩)] w fun e w' => e = .returned (.tuple #[]) ∧ BldU B b s w' ∧ Below B w w' ∧ Lib.OthersKept 5 (some b) w w' := by
  rcases h with h | h
  · refine (bcheck_fresh b w h.cell0 h.shape h.frozen0).mono ?_
    rintro e w' ⟨rfl, rfl⟩
    exact ⟨rfl, h.used _, (Below.refl B w).setCell (p := ⟨b, 0, none⟩) h.1 _, (Lib.OthersKept.refl _ _ w).setCell ⟨b, 0, none⟩ rfl _⟩
  · refine (bcheck_used b w h.cell0).mono ?_
    rintro e w' ⟨rfl, rfl⟩
    exact ⟨rfl, h, Below.refl B _, Lib.OthersKept.refl _ _ _⟩
set_option maxHeartbeats 2000000 in
set_option maxRecDepth 100000 in
theorem bws_any (B b : Nat) (s t : Str) (w : World) (h : Bld B b s w) (hlen : s.length + t.length ≤ 100000000) (hBw : B ≤ w.heap.size) :
    Calls Tryz.prog 55 #[.pointer (some ⟨b, 0, none⟩), .string ⟨t.toArray⟩] w fun e w' => e = .returned (.tuple #[.int .i64 t.length, .nilIface]) ∧ BldU B b (s ++ t) w' ∧ Below B w w' ∧ Lib.OthersKept 5 (some b) w w' := by
  obtain ⟨i0, hi, hz0, hz1, hz2⟩ := info_parts infoB
  have hz : (⟨t.toArray⟩ : ByteArray).size = t.length := by show t.toArray.size = _; simp
  have CC := bcheck_any B b s w h
  go_enter Tryz.func55, Tryz.ntmps55
  go_wp2_with (go_at_call 101; refine CC.mono ?_)
  rintro e w1 ⟨rfl, h1, hb1, hk1⟩
  obtain ⟨hB, v, hbk, hown, hne⟩ := h1
  rw [Lib.byteCells_length] at hown
  have c0 : w1.cell? ⟨b, 0, none⟩ = some (.pointer (some ⟨b, 0, none⟩)) := by rw [Lib.cell_of_heap hbk]; rfl
  have c1 : w1.cell? ⟨b, 1, none⟩ = some v := by rw [Lib.cell_of_heap hbk]; rfl
  go_wp2_with (at_builtin; refine Lib.wpList_append_own_string _ rfl _ _ 29 9 rfl B 5 i0 Tryz.underlying29 Tryz.underlying9 hi hz0 hz1 hz2 _ _ _ rfl hown ⟨t.toArray⟩ rfl ?c3 ?c4 ?c5 ?_)
  case c3 => unfold maxLen; rw [hz]; omega
  case c4 => rw [hz]; omega
  case c5 => have := hb1.size; omega
  intro v' w2 hown' hgrow _
  have hlt : b < w1.heap.size := by
    rcases Nat.lt_or_ge b w1.heap.size with h' | h'
    · exact h'
    · simp [Array.getElem?_eq_none h'] at hbk
  have hb2 : w2.heap[b]? = some (.cells #[.pointer (some ⟨b, 0, none⟩), v] 95 (0, 0)) := by
    rw [hgrow.block b hlt (fun e => hne e.symm)]
    exact hbk
  have d0 : w2.cell? ⟨b, 0, none⟩ = some (.pointer (some ⟨b, 0, none⟩)) := by rw [Lib.cell_of_heap hb2]; rfl
  have d1 : w2.cell? ⟨b, 1, none⟩ = some v := by rw [Lib.cell_of_heap hb2]; rfl
  have f1 : w2.frozen? ⟨b, 1, none⟩ = false := Lib.frozen_of_heap hb2 1
  obtain ⟨ao, n', cap, rfl⟩ : ∃ ao n' cap, v' = .slice ao n' cap := by
    rcases hown'.2 with ⟨hv, _⟩ | ⟨g, cap, cur, hv, _⟩
    · exact ⟨_, _, _, hv⟩
    · exact ⟨_, _, _, hv⟩
  go_wp2
  refine bodyPost_ret (v := .tuple #[.int .i64 t.length, .nilIface]) (by simp [results, Tryz.results55, go_sem]) rfl ⟨rfl, ?_, ?_, ?_⟩
  · refine Lib.BuilderAt.put (T := 95) (e := 5) hB hb2 (bs' := Lib.byteCells (s ++ t)) ?_ bldNe
    rw [Lib.byteCells_length, List.length_append, Lib.byteCells_append, ← Lib.strCells_toArray t, ← hz]
    exact hown'
  · exact (hb1.grown hgrow (by have := hb1.size; omega) (fun k hk => (hown.lt k hk).1)).setCell (p := ⟨b, 1, none⟩) hB _
  · exact (hk1.grown hgrow (Lib.ownsRowF_kind (World.ownsRowF_of hown))).setCell ⟨b, 1, none⟩ rfl _
set_option maxHeartbeats 2000000 in
set_option maxRecDepth 100000 in
theorem bwb_any (B b : Nat) (s : Str) (c : UInt8) (w : World) (h : Bld B b s w) (hlen : s.length + 1 ≤ 100000000) (hBw : B ≤ w.heap.size) :
    Calls Tryz.prog 59 #[.pointer (some ⟨b, 0, none⟩), .int .u8 (c.toNat : Int)] w fun e w' => e = .returned .nilIface ∧ BldU B b (s ++ [c]) w' ∧ Below B w w' ∧ Lib.OthersKept 5 (some b) w w' := by
  obtain ⟨i0, hi, hz0, hz1, hz2⟩ := info_parts infoB
  have CC := bcheck_any B b s w h
  go_enter Tryz.func59, Tryz.ntmps59
  go_wp2_with (go_at_call 101; refine CC.mono ?_)
  rintro e w1 ⟨rfl, h1, hb1, hk1⟩
  obtain ⟨hB, v, hbk, hown, hne⟩ := h1
  rw [Lib.byteCells_length] at hown
  have c0 : w1.cell? ⟨b, 0, none⟩ = some (.pointer (some ⟨b, 0, none⟩)) := by rw [Lib.cell_of_heap hbk]; rfl
  have c1 : w1.cell? ⟨b, 1, none⟩ = some v := by rw [Lib.cell_of_heap hbk]; rfl
  go_wp2_with (at_builtin; refine wpList_append_own _ rfl _ _ 29 rfl B 5 i0 (.int .u8 0) 1 1 Tryz.underlying29 hi hz0 hz1 hz2 rfl (by decide) _ _ _ rfl (hown.alloc _) ⟨w1.heap.size, 0, none⟩ 1 1 [.int .u8 (c.toNat : Int)] rfl rfl ?c1 ?c2 ?c3 ?c4 ?c5 ?_)
  case c1 =>
    intro j u hj
    match j, hj with
    | 0, hj => simp at hj; subst hj; simp [Addr.add]
  case c2 => intro u hu; simp at hu; subst hu; rfl
  case c3 => unfold maxLen; omega
  case c4 => omega
  case c5 => have := hb1.size; simp; omega
  intro v' w2 hown' hgrow _
  have hlt : b < w1.heap.size := by
    rcases Nat.lt_or_ge b w1.heap.size with h' | h'
    · exact h'
    · simp [Array.getElem?_eq_none h'] at hbk
  have hb2 : w2.heap[b]? = some (.cells #[.pointer (some ⟨b, 0, none⟩), v] 95 (0, 0)) := by
    rw [hgrow.block b (by simp; omega) (fun e => hne e.symm), Lib.alloc_old w1 _ b hlt]
    exact hbk
  have d0 : w2.cell? ⟨b, 0, none⟩ = some (.pointer (some ⟨b, 0, none⟩)) := by rw [Lib.cell_of_heap hb2]; rfl
  have d1 : w2.cell? ⟨b, 1, none⟩ = some v := by rw [Lib.cell_of_heap hb2]; rfl
  have f1 : w2.frozen? ⟨b, 1, none⟩ = false := Lib.frozen_of_heap hb2 1
  obtain ⟨g, cap, rfl⟩ : ∃ g cap, v' = .slice (some ⟨g, 0, none⟩) (s.length + 1) cap := by
    rcases hown'.2 with ⟨_, h0⟩ | ⟨g, cap, cur, hv, _⟩
    · omega
    · exact ⟨g, cap, hv⟩
  go_wp2
  refine bodyPost_ret (v := .nilIface) (by simp [results, Tryz.results59, go_sem]) rfl ⟨rfl, ?_, ?_, ?_⟩
  · refine Lib.BuilderAt.put (T := 95) (e := 5) hB hb2 (bs' := Lib.byteCells (s ++ [c])) ?_ bldNe
    rw [Lib.byteCells_length, List.length_append, Lib.byteCells_append]
    exact hown'
  · exact ((hb1.alloc (by have := hb1.size; omega) _).grown hgrow (by have := hb1.size; simp; omega) (fun k hk => (hown.lt k hk).1)).setCell (p := ⟨b, 1, none⟩) hB _
  · exact ((hk1.alloc _).grown hgrow (Lib.ownsRowF_kind (World.ownsRowF_of (hown.alloc _)))).setCell ⟨b, 1, none⟩ rfl _
theorem bst_extra : Builder.Extra Tryz.prog Tryz.bst_ren where
  sizeBuilder := by kernel_rfl
  liesBuilder := by kernel_rfl
  t5 := Tryz.underlying5
  a5 := Tryz.isAgg5
  z5 := Tryz.sizeOf5
  v5 := Tryz.zeroValue5
  infoByte := by kernel_rfl
  cellsByte := by kernel_rfl
  sizeByte := by kernel_rfl
  neB5 := by decide
theorem bst_any (B b : Nat) (s : Str) (w : World) (h : Bld B b s w) (hBw : B ≤ w.heap.size) :
    Calls Tryz.prog 60 #[.pointer (some ⟨b, 0, none⟩)] w fun e w' => e = .returned (.string ⟨s.toArray⟩) ∧ Below B w w' :=
  Any.Builder_String_any Tryz.bst bst_extra B b s w h hBw
end Go.Proofs.YtppapeoainafbaaGreatDoor

namespace Go.Proofs.YtppapeoainafbaaGreatDoor
open Go.RowKit
/-! ### view.Print -/
theorem itoa_any (i : Nat) (h : i < 100) (w : World) : Calls Tryz.prog 57 #[.int .i64 i] w fun e w' => e = .returned (.string ⟨(Lib.decDigits i).toArray⟩) ∧ w' = w := Any.strconv_Itoa_small Tryz.itoa i h w
theorem wordP_len {V : View} {x y : Nat} (hx : x < 65536) (hy : y < 4294967296) {k : Nat} (hk : k < 100) (hl : leafIx V.ls ((x : Int), (y : Int)) = (k : Int)) : (wordP V ((x : Int), (y : Int))).length ≤ 100 := by
  obtain ⟨l0, l1⟩ := printP_len hx hy
  have l2 := dec_len k 2 (by omega)
  unfold wordP printP
  rw [hl]
  simp only [Int.toNat_natCast, List.length_append, List.length_cons, List.length_nil]
  split <;> simp <;> omega
theorem BldU.ext {B b : Nat} {s : Str} {w w' : World} (h : BldU B b s w) (hb : Below w.heap.size w w') : BldU B b s w' := by
  obtain ⟨hB, v, hbk, hown, hne⟩ := h
  refine ⟨hB, v, (hb.block b (Array.getElem?_eq_some_iff.1 hbk).1).trans hbk, ⟨hown.1, ?_⟩, hne⟩
  rcases hown.2 with hn | ⟨g, cap, cur, rfl, hbb, hgg, rest⟩
  · exact .inl hn
  · exact .inr ⟨g, cap, cur, rfl, hbb, (hb.block g (Array.getElem?_eq_some_iff.1 hgg).1).trans hgg, rest⟩
theorem BldF.ext {B b : Nat} {p : Value} {bs : List Value} {w w' : World} (h : Lib.BuilderAt 95 5 B b p bs w) (hb : Below w.heap.size w w') : Lib.BuilderAt 95 5 B b p bs w' := by
  obtain ⟨hB, v, hbk, hown, hne⟩ := h
  refine ⟨hB, v, (hb.block b (Array.getElem?_eq_some_iff.1 hbk).1).trans hbk, ⟨hown.1, ?_⟩, hne⟩
  rcases hown.2 with hn | ⟨g, cap, cur, rfl, hbb, hgg, rest⟩
  · exact .inl hn
  · exact .inr ⟨g, cap, cur, rfl, hbb, (hb.block g (Array.getElem?_eq_some_iff.1 hgg).1).trans hgg, rest⟩
theorem Bld.extB {B b : Nat} {s : Str} {w w' : World} (h : Bld B b s w) (hb : Below w.heap.size w w') : Bld B b s w' :=
  h.elim (fun h => .inl (BldF.ext h hb)) (fun h => .inr (BldF.ext h hb))
theorem okept {b g : Nat} {cs : Array Value} {w w' : World} {t : TypeId} {fr : Nat × Nat} (h : Lib.OthersKept 5 (some b) w w') (hg : w.heap[g]? = some (.cells cs t fr)) (hb : g ≠ b) (ht : t ≠ 5) : w'.heap[g]? = some (.cells cs t fr) :=
  h g _ hg (by intro e; exact hb (Option.some.inj e)) (by intro c fz e; cases e; exact ht rfl)
end Go.Proofs.YtppapeoainafbaaGreatDoor

namespace Go.Proofs.YtppapeoainafbaaGreatDoor
open Go.RowKit
/-! ### the reference's Print of a view -/
set_option maxRecDepth 100000 in
set_option maxHeartbeats 4000000 in
theorem refViewPrint_any {V : View} {i : Nat} {am al ad : Option Addr} {cm cl cd : Nat} {w : World} (hi : V.id = (i : Int)) (hV : ViewR w am al ad V) (hw : WfPids V.ms) (hc : Hid (checkB V = true)) :
    Calls Tryz.prog 19 #[.agg #[.int .u64 i, .slice am V.ms.length cm, .slice al V.ls.length cl, .slice ad V.ds.length cd]] w fun e w' => e = .returned (.string ⟨(viewP V).toArray⟩) ∧ Below w.heap.size w w' := by
  obtain ⟨hml, hid0, hlf⟩ := check_leaf hc.out
  obtain ⟨w2, hw2⟩ : ∃ w2, w.alloc (.cells #[.int .u64 i, .slice am V.ms.length cm, .slice al V.ls.length cl, .slice ad V.ds.length cd] 33) = w2 := ⟨_, rfl⟩
  have hb2 : Below w.heap.size w w2 := by rw [← hw2]; exact (Below.refl _ _).alloc (Nat.le_refl _) _
  have v0 : w2.cell? ⟨w.heap.size, 0, none⟩ = some (.int .u64 i) := by rw [← hw2]; simp
  have v1 : w2.cell? ⟨w.heap.size, 1, none⟩ = some (.slice am V.ms.length cm) := by rw [← hw2]; simp
  have v2 : w2.cell? ⟨w.heap.size, 2, none⟩ = some (.slice al V.ls.length cl) := by rw [← hw2]; simp
  have v3 : w2.cell? ⟨w.heap.size, 3, none⟩ = some (.slice ad V.ds.length cd) := by rw [← hw2]; simp
  have HB2 := hid hb2
  have HV2 := hid (hV.ext hb2)
  have HW := hid hw
  have HLF := hid hlf
  have HI := hid hi
  have HF2 : Hid (∀ W, Below w2.heap.size w2 W → W.cell? ⟨w.heap.size, 0, none⟩ = some (.int .u64 i) ∧ W.cell? ⟨w.heap.size, 1, none⟩ = some (.slice am V.ms.length cm) ∧ W.cell? ⟨w.heap.size, 2, none⟩ = some (.slice al V.ls.length cl) ∧ W.cell? ⟨w.heap.size, 3, none⟩ = some (.slice ad V.ds.length cd)) := hid fun W h => ⟨cell_toB v0 h, cell_toB v1 h, cell_toB v2 h, cell_toB v3 h⟩
  have C1 := hid (digits_any i (by have := hid0.2; omega) w2)
  have hdl := dec_len i 19 (by have := hid0.2; omega)
  have HDL := hid hdl
  clear hb2 hV hw hlf hc v1 v2 v3 hdl
  go_enter Tryz.func19, Tryz.ntmps19
  go_wp2_with fail
  (refine C1.out.mono ?_)
  rintro e w5 ⟨rfl, hb5⟩
  have HB5 := hid hb5
  clear hb5 C1 hw2 v0
  go_wp2_with fail
  go_loopw [3, 4, 5] (fun vo iv u wr => ∃ (k : Nat) (out : Str), vo = .string ⟨out.toArray⟩ ∧ iv = .int .i64 k ∧ k ≤ V.ms.length ∧ out.length ≤ 20 + 100 * k ∧ Hid (out ++ wordsP V (V.ms.drop k) = viewP V) ∧ Hid (Below w2.heap.size w2 wr)) (fun _ iv _ _ => V.ms.length - (intOf iv).toNat)
  case atStart => exact ⟨0, Lib.decDigits i, rfl, rfl, Nat.zero_le _, by have := HDL.out; omega, hid (by unfold viewP; rw [HI.out]; rfl), HB5⟩
  case round =>
    obtain ⟨k, out, rfl, rfl, hk, hol, hf, hbw⟩ := hrel
    clear HB5 HDL
    obtain ⟨v0, v1, v2, v3⟩ := HF2.out _ hbw.out
    by_cases hlt : k < V.ms.length
    · obtain ⟨b, o, x, y, rfl, hxy, q0, q1⟩ := HV2.out.ms.at hbw.out rfl hlt
      have hmem : (x, y) ∈ V.ms := by rw [hxy]; exact List.getElem_mem hlt
      obtain ⟨g1, g2, g3, g4⟩ := HW.out (x, y) hmem
      obtain ⟨kk, hkk, hlx⟩ := HLF.out (x, y) hmem
      simp only at g1 g2 g3 g4
      obtain ⟨x, rfl⟩ := Int.eq_ofNat_of_zero_le g1
      obtain ⟨y, rfl⟩ := Int.eq_ofNat_of_zero_le g3
      have hx : x < 65536 := by omega
      have hy : y < 4294967296 := by omega
      have HD := hid (wordsP_drop V hlt hxy)
      have HWL := hid (wordP_len hx hy hkk hlx)
      obtain ⟨PP, hPP⟩ : ∃ PP, printP ((x : Int), (y : Int)) = PP := ⟨_, rfl⟩
      obtain ⟨DK, hDK⟩ : ∃ DK, Lib.decDigits kk = DK := ⟨_, rfl⟩
      have hpl : PP.length ≤ 50 := by
        obtain ⟨l0, l1⟩ := printP_len hx hy
        rw [← hPP]; unfold printP; simp only [Int.toNat_natCast, List.length_append, List.length_cons]; omega
      have hdl : DK.length ≤ 3 := by rw [← hDK]; exact dec_len kk 2 (by omega)
      have hwd : out ++ wordP V ((x : Int), (y : Int)) = out ++ [32] ++ PP ++ [47] ++ DK ++ (if ((x : Int), (y : Int)) ∈ V.ds then [42] else []) := by
        unfold wordP; rw [hPP, hlx, Int.toNat_natCast, hDK]; simp
      have a1 := run_cat out [32] (by omega) (by simp)
      have a2 := run_cat (out ++ [32]) PP (by simp; omega) (by omega)
      have a3 := run_cat (out ++ [32] ++ PP) [47] (by simp; omega) (by simp)
      have a4 := run_cat (out ++ [32] ++ PP ++ [47]) DK (by simp; omega) (by omega)
      have hl3 : (out ++ [32] ++ PP ++ [47] ++ DK).length ≤ 8000000 := by simp; omega
      obtain ⟨T0, hT0⟩ : ∃ T0, out ++ [32] = T0 := ⟨_, rfl⟩
      rw [hT0] at a1 a2 a3 a4 hwd hl3
      obtain ⟨T1, hT1⟩ : ∃ T1, T0 ++ PP = T1 := ⟨_, rfl⟩
      rw [hT1] at a2 a3 a4 hwd hl3
      obtain ⟨T2, hT2⟩ : ∃ T2, T1 ++ [47] = T2 := ⟨_, rfl⟩
      rw [hT2] at a3 a4 hwd hl3
      obtain ⟨T3, hT3⟩ : ∃ T3, T2 ++ DK = T3 := ⟨_, rfl⟩
      rw [hT3] at a4 hwd hl3
      have a5 := run_cat T3 [42] (by omega) (by simp)
      have HWD := hid hwd
      obtain ⟨w6, hw6⟩ : ∃ w6, wr.alloc (.cells #[.int .u16 x, .int .u32 y] 25) = w6 := ⟨_, rfl⟩
      have hb6 : Below wr.heap.size wr w6 := by rw [← hw6]; exact (Below.refl _ _).alloc (Nat.le_refl _) _
      have p0 : w6.cell? ⟨wr.heap.size, 0, none⟩ = some (.int .u16 x) := by rw [← hw6]; simp
      have p1 : w6.cell? ⟨wr.heap.size, 1, none⟩ = some (.int .u32 y) := by rw [← hw6]; simp
      have HB6 := hid (hbw.out.trans (hb6.mono hbw.out.size))
      obtain ⟨u0, u1, u2, u3⟩ := HF2.out _ HB6.out
      have HV6 := hid (HV2.out.ext HB6.out)
      have f0 := cell_extY p0
      have f1 := cell_extY p1
      have f2 := cell_extY u0
      have f3 := cell_extY u1
      have f4 := cell_extY u2
      have f5 := cell_extY u3
      have CP : Hid (∀ U : ExtW w6, Calls Tryz.prog 35 #[.agg #[.int .u16 x, .int .u32 y]] U.W fun e w' => e = .returned (.string ⟨PP.toArray⟩) ∧ ∃ U' : ExtW w6, w' = U'.W) := hid fun U => quiet_of (refPrint_any hx hy U.W) (by rw [hPP])
      have CL : Hid (∀ U : ExtW w6, Calls Tryz.prog 64 #[.agg #[.int .u64 i, .slice (some ⟨b, o, none⟩) V.ms.length cm, .slice al V.ls.length cl, .slice ad V.ds.length cd], .agg #[.int .u16 x, .int .u32 y]] U.W fun e w' => e = .returned (.int .i64 kk) ∧ ∃ U' : ExtW w6, w' = U'.W) := hid fun U => by
        have := refLeaf_any V (some ⟨b, o, none⟩) al ad cm cl cd x y U.W (HV6.out.ext U.h)
        rw [HI.out] at this
        exact quiet_of this (by rw [hlx])
      have CI : Hid (∀ U : ExtW w6, Calls Tryz.prog 63 #[.int .u64 kk] U.W fun e w' => e = .returned (.string ⟨DK.toArray⟩) ∧ ∃ U' : ExtW w6, w' = U'.W) := hid fun U => quiet_of (digits_any kk (by omega) U.W) (by rw [hDK])
      have i1 : IntKind.u64.wrap (kk : Int) = kk := by rw [IntKind.wrap_u64]; omega
      have HOL : Hid (out.length ≤ 20 + 100 * k) := hid hol
      have HFP : Hid (∀ W, Below w6.heap.size w6 W → W.cell? ⟨wr.heap.size, 0, none⟩ = some (.int .u16 x) ∧ W.cell? ⟨wr.heap.size, 1, none⟩ = some (.int .u32 y)) := hid fun W h => ⟨cell_toB p0 h, cell_toB p1 h⟩
      have HA5 := hid a5
      clear hol hwd hpl hdl hT0 hT1 hT2 hT3 hDK hPP hlx g1 g2 g3 g4 hmem hxy hb6 p0 p1 u0 u1 u2 u3 hl3 a5
      go_wp2_with fail
      clear q0 q1 hw6 v0 v1 v2 v3
      refine wp_region_ext (w := w6) (Below.refl _ _) (by kernel_rfl) (by kernel_rfl) ?_
      repeat (go_big_quiet_step (first | with_reducible exact CP.out _ | with_reducible exact CL.out _ | with_reducible exact CI.out _))
      refine wpQuiet_nil ?_
      rintro w9 ⟨⟨_, hb9⟩, rfl⟩
      have HB9 := hid (HB6.out.trans (hb9.mono HB6.out.size))
      obtain ⟨p0, p1⟩ := HFP.out _ hb9
      obtain ⟨v0, v1, v2, v3⟩ := HF2.out _ HB9.out
      clear hb9 f0 f1 f2 f3 f4 f5 a1 a2 a3 a4 CP CL CI
      have C5 := at_any ad cd V.ds x y w9 (by have := HV2.out.ld; omega) (HV2.out.ext HB9.out).ds
      by_cases hd : ((x : Int), (y : Int)) ∈ V.ds
      · have hge : 0 ≤ atIx V.ds ((x : Int), (y : Int)) := by
          have := atIx_nonneg (p := ((x : Int), (y : Int))) (xs := V.ds)
          rw [decide_eq_true hd] at this
          exact of_decide_eq_true this
        obtain ⟨ax, hax⟩ : ∃ ax, atIx V.ds ((x : Int), (y : Int)) = ax := ⟨_, rfl⟩
        rw [hax] at C5 hge
        have C5 := hid C5
        have HWD2 : Hid (out ++ wordP V ((x : Int), (y : Int)) = T3 ++ [42]) := hid (by rw [HWD.out, if_pos hd])
        have HLL : Hid ((T3 ++ [42]).length ≤ 20 + 100 * (k + 1)) := hid (by
          have h1 := HWL.out
          have h2 := HOL.out
          have h3 := congrArg List.length HWD2.out
          rw [List.length_append] at h3
          omega)
        have i2 : decide (ax ≥ 0) = true := decide_eq_true hge
        clear hd HWD hax
        go_wp2_with fail
        (refine C5.out.mono ?_)
        rintro e wE ⟨rfl, hbE⟩
        have HBE := hid (HB9.out.trans (hbE.mono HB9.out.size))
        have a5 := HA5.out
        clear hbE C5 p0 p1 v0 v1 v2 v3
        go_wp2_with fail
        go_roundw
        case rel => exact ⟨k + 1, T3 ++ [42], by simp, by go_num, by omega, HLL.out, hid (by rw [← hf.out, HD.out, ← List.append_assoc, HWD2.out]), HBE⟩
        case measure => simp [intOf]; omega
      · have hge : ¬ 0 ≤ atIx V.ds ((x : Int), (y : Int)) := by
          have := atIx_nonneg (p := ((x : Int), (y : Int))) (xs := V.ds)
          rw [decide_eq_false hd] at this
          exact of_decide_eq_false this
        obtain ⟨ax, hax⟩ : ∃ ax, atIx V.ds ((x : Int), (y : Int)) = ax := ⟨_, rfl⟩
        rw [hax] at C5 hge
        have C5 := hid C5
        have HWD2 : Hid (out ++ wordP V ((x : Int), (y : Int)) = T3) := hid (by rw [HWD.out, if_neg hd, List.append_nil])
        have HLL : Hid (T3.length ≤ 20 + 100 * (k + 1)) := hid (by
          have h1 := HWL.out
          have h2 := HOL.out
          have h3 := congrArg List.length HWD2.out
          rw [List.length_append] at h3
          omega)
        have i2 : decide (ax ≥ 0) = false := decide_eq_false hge
        clear hd HWD hax
        go_wp2_with fail
        (refine C5.out.mono ?_)
        rintro e wE ⟨rfl, hbE⟩
        have HBE := hid (HB9.out.trans (hbE.mono HB9.out.size))
        clear hbE C5 p0 p1 v0 v1 v2 v3
        go_wp2_with fail
        go_roundw
        case rel => exact ⟨k + 1, T3, rfl, by go_num, by omega, HLL.out, hid (by rw [← hf.out, HD.out, ← List.append_assoc, HWD2.out]), HBE⟩
        case measure => simp [intOf]; omega
    · have hke : V.ms.drop k = [] := List.drop_eq_nil_of_le (by omega)
      have hres : out = viewP V := by rw [← hf.out, hke]; simp [wordsP]
      subst hres
      have HB9 := hid (HB2.out.trans (hbw.out.mono HB2.out.size))
      clear hke hol
      go_wp2_with fail
      go_ret
      exact ⟨rfl, HB9.out⟩
end Go.Proofs.YtppapeoainafbaaGreatDoor

