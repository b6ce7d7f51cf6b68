/- Parts of the proof: X67 X71 XM. -/
import Derived.Test.YtbpfhclcjedkcaaX70
namespace Go.Proofs.Ytbpfhclcjedkcaa
open Go.RowKit
/-! ### messages: awake -/
def exM1 : MsgD := { zeroM with kind := 3, sl := 5 }
def exM2 : MsgD := { zeroM with kind := 14, vw := 1 }
theorem zeroE {m : MsgD} (hc : m.c = zeroC) (hv : m.v = zeroV) (hy : m.y = []) (hb : m.b = zeroBal) (ha : m.a = zeroBal) (hw : m.who = (0, 0)) (w : World) : MsgE w zeroA m := by
  have ok0 : okP (0, 0) := by unfold okP; decide
  refine ⟨⟨?_, ?_, ?_, ?_, ?_⟩, ⟨?_, ?_, ?_, ?_, ?_, ?_, ?_, ?_⟩, ?_, ?_, ?_, ?_, ?_⟩
  · rw [hc]; exact ⟨.inl rfl, Nat.zero_le _, (fun b hb => by simp [zeroC] at hb), viewR_zero w⟩
  · rw [hv]; exact viewR_zero w
  · rw [hy]; exact .inl rfl
  · rw [hy]; intro b hb; simp at hb
  · rw [hy]; exact Nat.zero_le _
  · rw [hc]; decide
  · rw [hv]; decide
  · rw [hc]; intro p hp; cases hp
  · rw [hv]; intro p hp; cases hp
  · rw [hc]; exact ok0
  · rw [hw]; exact ok0
  · rw [hb]; exact ok0
  · rw [ha]; exact ok0
  · rw [hc]; exact ⟨.inl rfl, (fun b hb => by simp [zeroC] at hb), viewR_zero w, ⟨by decide, (fun p hp => by cases hp), (fun l hl => by cases hl), (fun p hp => by cases hp)⟩, ok0, by decide, by decide⟩
  · rw [hc]; decide
  · rw [hv]; decide
  · rw [hb]; decide
  · rw [ha]; decide
theorem exFm1 : msgChk exM1 = true ∧ msgF exM1 = [3, 5] := by
  refine ⟨by decide, ?_⟩
  show short 3 ++ ([2].flatMap (letF exM1)) = _
  have : letF exM1 2 = short 5 := rfl
  rw [List.flatMap_cons, List.flatMap_nil, this, short_lt (by decide), short_lt (by decide)]; rfl
theorem exF2M : msgChk exM2 = true ∧ msgF exM2 = [14, 1] := by
  refine ⟨by decide, ?_⟩
  show short 14 ++ ([1].flatMap (letF exM2)) = _
  have : letF exM2 1 = short 1 := rfl
  rw [List.flatMap_cons, List.flatMap_nil, this, short_lt (by decide), short_lt (by decide)]; rfl
theorem encX {m : MsgD} {F : List Nat} {n : Nat} (h : msgChk m = true ∧ msgF m = F) (hn : F.length = n) {w : World} (hE : MsgE w zeroA m) : Calls Try.prog 27 #[.agg (ML zeroA m).toArray] w fun e w' => ∃ a c, e = .returned (.tuple #[.slice a n c, .int .i64 0]) ∧ ByteRow w' a F ∧ Below w.heap.size w w' := by
  refine (msgEncode_any hE).mono ?_
  rintro e w' ⟨v, rfl, hown, hb⟩
  rw [h.1, if_pos rfl, h.2] at hown
  obtain ⟨a, c, rfl, hr, -⟩ := hown.row
  rw [hn, h.1]
  exact ⟨a, c, rfl, hr, hb⟩
theorem enc1 (w : World) : Calls Try.prog 27 #[.agg #[.int .i64 3, .int .u16 0, .int .u32 0, .int .u64 0, .int .u64 5, .int .u64 0, .int .i64 0, .int .u32 0, .int .u16 0, .int .u32 0, .int .u32 0, .int .u16 0, .int .u32 0, .bool false, .int .i64 0, .int .u16 0, .int .u32 0, .int .u64 0, .int .u64 0, .slice none 0 0, .int .u64 0, .slice none 0 0, .slice none 0 0, .slice none 0 0, .int .u64 0, .slice none 0 0, .slice none 0 0, .slice none 0 0, .slice none 0 0]] w fun e w' => ∃ a c, e = .returned (.tuple #[.slice a 2 c, .int .i64 0]) ∧ ByteRow w' a [3, 5] ∧ Below w.heap.size w w' := encX (m := exM1) exFm1 rfl (zeroE rfl rfl rfl rfl rfl rfl w)
theorem enc2 (w : World) : Calls Try.prog 27 #[.agg #[.int .i64 14, .int .u16 0, .int .u32 0, .int .u64 1, .int .u64 0, .int .u64 0, .int .i64 0, .int .u32 0, .int .u16 0, .int .u32 0, .int .u32 0, .int .u16 0, .int .u32 0, .bool false, .int .i64 0, .int .u16 0, .int .u32 0, .int .u64 0, .int .u64 0, .slice none 0 0, .int .u64 0, .slice none 0 0, .slice none 0 0, .slice none 0 0, .int .u64 0, .slice none 0 0, .slice none 0 0, .slice none 0 0, .slice none 0 0]] w fun e w' => ∃ a c, e = .returned (.tuple #[.slice a 2 c, .int .i64 0]) ∧ ByteRow w' a [14, 1] ∧ Below w.heap.size w w' := encX (m := exM2) exF2M rfl (zeroE rfl rfl rfl rfl rfl rfl w)
theorem ByteRow.two (w : World) (x y : Nat) : ByteRow (w.alloc (.cells #[.int .u8 x, .int .u8 y] 5)) (some ⟨w.heap.size, 0, none⟩) [x, y] :=
  .inr ⟨w.heap.size, 0, rfl, by simp, fun i hi => by
    simp only [List.length_cons, List.length_nil] at hi
    match i, hi with
    | 0, _ => simp
    | 1, _ => simp⟩
theorem same2 {a b : Option Addr} {ca cb : Nat} {x y : Nat} {w : World} (hx : ByteRow w a [x, y]) (hy : ByteRow w b [x, y]) : Calls Try.prog 30 #[.slice a 2 ca, .slice b 2 cb] w fun e w' => e = .returned (.bool true) ∧ Below w.heap.size w w' :=
  (sameB_is (bm := true) (n := 2) (m := 2) (hid (by simp)) (hid rfl) (hid rfl) (by omega) (by omega) hx hy).mono fun _ _ ⟨h1, h2⟩ => ⟨h1, h2⟩
set_option maxRecDepth 100000 in
set_option maxHeartbeats 3200000 in
theorem awakeM_any (w : World) : Calls Try.prog 26 #[] w fun e w' => e = .returned (.bool true) ∧ Below w.heap.size w w' := by
  have E1 := hid (enc1 w)
  go_enter Try.func26, Try.ntmps26
  go_wp2_with fail
  refine E1.out.mono ?_
  rintro e w1 ⟨a1, c1, rfl, hr1, hb1⟩
  have E2 := hid (enc2 w1)
  have HR1 := hid hr1
  have HB1 := hid hb1
  clear hr1 hb1 E1
  go_wp2_with fail
  refine E2.out.mono ?_
  rintro e w2 ⟨a2, c2, rfl, hr2, hb2⟩
  have hq2 : Below w2.heap.size w2 (w2.alloc (.cells #[.int .u8 3, .int .u8 5] 5)) := (Below.refl _ _).alloc (Nat.le_refl _) _
  have S1 := hid (same2 (ca := c1) (cb := 2) ((HR1.out.ext hb2).ext hq2) (ByteRow.two w2 3 5))
  have HR2 := hid (hr2.ext hq2)
  have HB2 := hid (HB1.out.trans ((hb2.trans (hq2.mono hb2.size)).mono HB1.out.size))
  clear hr2 hb2 hq2 E2 HR1 HB1
  go_wp2_with fail
  (with_reducible refine S1.out.mono ?_)
  rintro e w3 ⟨rfl, hb3⟩
  have hq3 : Below w3.heap.size w3 (w3.alloc (.cells #[.int .u8 14, .int .u8 1] 5)) := (Below.refl _ _).alloc (Nat.le_refl _) _
  have S2 := hid (same2 (ca := c2) (cb := 2) ((HR2.out.ext hb3).ext hq3) (ByteRow.two w3 14 1))
  have HB3 := hid (HB2.out.trans ((hb3.trans (hq3.mono hb3.size)).mono HB2.out.size))
  clear hb3 hq3 S1 HR2 HB2
  go_wp2_with fail
  (with_reducible refine S2.out.mono ?_)
  rintro e w4 ⟨rfl, hb4⟩
  have HB4 := hid (HB3.out.trans (hb4.mono HB3.out.size))
  clear hb4 S2
  go_wp2
  go_ret
  exact ⟨rfl, HB4.out⟩
end Go.Proofs.Ytbpfhclcjedkcaa


namespace Go.Proofs.Ytbpfhclcjedkcaa
open Go.RowKit
/-! ### MsgEncodes' law -/
/-- a message as the row brings it -/
structure MsgIn (w : World) (A : MA) (m : MsgD) : Prop where
  c : CmdIn w A.da A.am A.al A.ad m.c
  v : ViewR w A.vm A.vl A.vd m.v
  vwf : WfView m.v
  yr : ByteRow w A.ya m.y
  yb : ∀ b ∈ m.y, b < 256
  who : okP m.who
  b : m.b.1 < 4294967296 ∧ okP m.b.2
  a : m.a.1 < 4294967296 ∧ okP m.a.2
  vw : m.vw < 18446744073709551616
  sl : m.sl < 18446744073709551616
  num : m.num < 18446744073709551616
theorem MsgIn.ext {w w' : World} {A : MA} {m : MsgD} (h : MsgIn w A m) (hb : Below w.heap.size w w') : MsgIn w' A m := ⟨h.c.ext hb, h.v.ext hb, h.vwf, h.yr.ext hb, h.yb, h.who, h.b, h.a, h.vw, h.sl, h.num⟩
theorem MsgIn.e {w : World} {A : MA} {m : MsgD} (h : MsgIn w A m) (hg : greatM m = false) : MsgE w A m := by
  obtain ⟨hy, hc, hv⟩ := greatM_no hg
  have g1 := greatC_no hc
  have g2 := great_noC hv
  exact ⟨⟨h.c.r hc, h.v, h.yr, h.yb, by omega⟩, ⟨by omega, by omega, h.c.wf.ms, h.vwf.ms, h.c.fr, h.who, h.b.2, h.a.2⟩, h.c, g1.1, h.vwf.id, h.b.1, h.a.1⟩
set_option maxRecDepth 100000 in
set_option maxHeartbeats 3200000 in
theorem msgGreat_any {A : MA} {m : MsgD} {w : World} {r : Bool} (hr : Hid (greatM m = r)) (hA : MsgIn w A m) :
    Calls Try.prog 25 #[.agg (ML A m).toArray] w fun e w' => e = .returned (.bool r) ∧ Below w.heap.size w w' := by
  obtain ⟨W1, hW1⟩ : ∃ W1, w.alloc (.cells (ML A m).toArray 46) = W1 := ⟨_, rfl⟩
  have hB1 : Below w.heap.size w W1 := by rw [← hW1]; exact (Below.refl _ _).alloc (Nat.le_refl _) _
  have xA : MsgBox W1 w.heap.size A m := by rw [← hW1]; exact MsgBox.made A m w _ _
  have HX : Hid (∀ W, Below W1.heap.size W1 W → MsgBox W w.heap.size A m) := hid fun W h => xA.ext h xA.lt
  have HA := hid (hA.ext hB1)
  have HB1 := hid hB1
  have a28 : W1.cell? ⟨w.heap.size, 28, none⟩ = some (.slice A.ya m.y.length A.yc) := xA.cell rfl
  obtain ⟨gc, hgc⟩ : ∃ g, greatC m.c = g := ⟨_, rfl⟩
  obtain ⟨gv, hgv⟩ : ∃ g, greatB m.v = g := ⟨_, rfl⟩
  obtain ⟨vi, hvi⟩ : ∃ vi : Nat, m.v.id = (vi : Int) := ⟨m.v.id.toNat, by have := hA.vwf.id; omega⟩
  have GC : Hid (Calls Try.prog 89 #[.agg (cmdV A m.c)] W1 fun e w' => e = .returned (.bool gc) ∧ Below W1.heap.size W1 w') := hid (cmdGreat_is (da := A.da) (dc := A.dc) (cm := A.cm) (cl := A.cl) (cd := A.cd) (hid hgc) (hA.ext hB1).c.v)
  have GV : Hid (∀ W, Below W1.heap.size W1 W → Calls Try.prog 18 #[.agg #[.int .u64 vi, .slice A.vm m.v.ms.length A.em, .slice A.vl m.v.ls.length A.el, .slice A.vd m.v.ds.length A.ed]] W fun e w' => e = .returned (.bool gv) ∧ Below W1.heap.size W1 w') := hid fun W h => relB h (great_i hvi (hid hgv) (HA.out.v.ext h))
  have HVI := hid hvi
  have HR : Hid ((decide (400 < m.y.length) || (gc || gv)) = r) := hid (by rw [← hr.out, ← hgc, ← hgv]; rfl)
  clear hA hB1 hgc hgv hvi
  by_cases hy : 400 < m.y.length
  · have t1 : decide (400 < m.y.length) = true := decide_eq_true hy
    have t2 : decide ((m.y.length : Int) > 400) = true := decide_eq_true (by omega)
    have t3 : decide ((400 : Int) < (m.y.length : Int)) = true := decide_eq_true (by omega)
    have HT : Hid (r = true) := hid (by rw [← HR.out, t1]; rfl)
    clear hy
    go_enter Try.func25, Try.ntmps25
    go_wp2
    go_ret
    exact ⟨by rw [HT.out]; rfl, HB1.out⟩
  have t1 : decide (400 < m.y.length) = false := decide_eq_false hy
  have t2 : decide ((m.y.length : Int) > 400) = false := decide_eq_false (by omega)
  have t3 : decide ((400 : Int) < (m.y.length : Int)) = false := decide_eq_false (by omega)
  have HT : Hid ((gc || gv) = r) := hid (by rw [← HR.out, t1]; rfl)
  clear hy
  have loads : ∀ W, Below W1.heap.size W1 W → W.cell? ⟨w.heap.size, 24, none⟩ = some (.int .u64 vi) ∧ W.cell? ⟨w.heap.size, 25, none⟩ = some (.slice A.vm m.v.ms.length A.em) ∧ W.cell? ⟨w.heap.size, 26, none⟩ = some (.slice A.vl m.v.ls.length A.el) ∧ W.cell? ⟨w.heap.size, 27, none⟩ = some (.slice A.vd m.v.ds.length A.ed) := fun W h => ⟨by rw [← HVI.out]; exact (HX.out W h).cell rfl, (HX.out W h).cell rfl, (HX.out W h).cell rfl, (HX.out W h).cell rfl⟩
  have HL := hid loads
  clear loads
  cases gc
  case true =>
    go_enter Try.func25, Try.ntmps25
    go_wp2_with (first
      | (refine wpList_loadMCw xA (by rfl) rfl rfl ?_)
      | (go_at_call 89; (with_reducible refine GC.out.mono ?_); rintro e w3 ⟨rfl, hb3⟩))
    go_ret
    exact ⟨by rw [← HT.out]; rfl, HB1.out.trans (hb3.mono HB1.out.size)⟩
  case false =>
    go_enter Try.func25, Try.ntmps25
    go_wp2_with (first
      | (refine wpList_loadMCw xA (by rfl) rfl rfl ?_)
      | (go_at_call 89; (with_reducible refine GC.out.mono ?_); rintro e w3 ⟨rfl, hb3⟩; obtain ⟨a24, a25, a26, a27⟩ := HL.out _ hb3)
      | (go_at_call 18; (with_reducible refine (GV.out _ hb3).mono ?_); rintro e w4 ⟨rfl, hb4⟩))
    go_ret
    exact ⟨by rw [← HT.out]; cases gv <;> rfl, HB1.out.trans (hb4.mono HB1.out.size)⟩
set_option maxRecDepth 100000 in
set_option maxHeartbeats 6400000 in
theorem msgEncodes_law {A : MA} {m : MsgD} {w : World} (hA : MsgIn w A m) :
    Calls Try.prog 4 #[.agg (ML A m).toArray] w fun e w' => e = .returned (.bool true) ∧ Below w.heap.size w w' := by
  obtain ⟨W1, hW1⟩ : ∃ W1, w.alloc (.cells (ML A m).toArray 46) = W1 := ⟨_, rfl⟩
  have hB1 : Below w.heap.size w W1 := by rw [← hW1]; exact (Below.refl _ _).alloc (Nat.le_refl _) _
  have xA : MsgBox W1 w.heap.size A m := by rw [← hW1]; exact MsgBox.made A m w _ _
  have HX : Hid (∀ W, Below W1.heap.size W1 W → MsgBox W w.heap.size A m) := hid fun W h => xA.ext h xA.lt
  have HA := hid (hA.ext hB1)
  have HB1 := hid hB1
  obtain ⟨g, hg⟩ : ∃ g, greatM m = g := ⟨_, rfl⟩
  have GR := hid (msgGreat_any (hid hg) (hA.ext hB1))
  have AW : Hid (∀ W, Below W1.heap.size W1 W → Calls Try.prog 26 #[] W fun e w' => e = .returned (.bool true) ∧ Below W1.heap.size W1 w') := hid fun W h => relB h (awakeM_any W)
  clear hA hB1
  cases g
  case true =>
    clear hg
    go_enter Try.func4, Try.ntmps4
    go_wp2_with (first
      | (refine wpList_loadM xA rfl rfl rfl ?_)
      | (go_at_call 25; (with_reducible refine GR.out.mono ?_); rintro e w3 ⟨rfl, hb3⟩)
      | (go_at_call 26; (with_reducible refine (AW.out _ hb3).mono ?_); rintro e w9 ⟨rfl, hb9⟩))
    go_ret
    exact ⟨rfl, HB1.out.trans (hb9.mono HB1.out.size)⟩
  have HE := hid (HA.out.e hg)
  clear hg
  have CR : Hid (∀ r, msgChk m = r → ∀ W, Below W1.heap.size W1 W → Calls Try.prog 28 #[.agg (ML A m).toArray] W fun e w' => e = .returned (.bool r) ∧ Below W1.heap.size W1 w') := hid fun r h W hW => relB hW (by rw [← h]; exact msgCheckR_any (HE.out.ext hW).r HE.out.s)
  have CK : Hid (∀ r, msgChk m = r → ∀ W, Below W1.heap.size W1 W → Calls Try.prog 29 #[.agg (ML A m).toArray] W fun e w' => e = .returned (.int .i64 (chkE r)) ∧ Below W1.heap.size W1 w') := hid fun r h W hW => relB hW (by rw [← h]; exact msgCheck_any (HE.out.ext hW).r HE.out.s)
  cases hc : msgChk m
  case false =>
    have EN : Hid (∀ W, Below W1.heap.size W1 W → Calls Try.prog 27 #[.agg (ML A m).toArray] W fun e w' => (∃ a c, e = .returned (.tuple #[.slice a 0 c, .int .i64 1])) ∧ Below W1.heap.size W1 w') := hid fun W hW => (msgEncode_any (HE.out.ext hW)).mono fun e w' ⟨v, h1, h2, h3⟩ => by
      rw [hc] at h1 h2
      simp only [Bool.false_eq_true, if_false] at h2
      obtain ⟨a, c, rfl, -, -⟩ := h2.row
      exact ⟨⟨a, c, h1⟩, hW.trans (h3.mono hW.size)⟩
    have HC := hid hc
    have e1 : chkE false = 1 := rfl
    clear hc
    go_enter Try.func4, Try.ntmps4
    go_wp2_with (first
      | (refine wpList_loadM xA rfl rfl rfl ?_)
      | (go_at_call 25; (with_reducible refine GR.out.mono ?_); rintro e w3 ⟨rfl, hb3⟩; have x3 := HX.out _ hb3)
      | (refine wpList_loadM x3 rfl rfl rfl ?_)
      | (go_at_call 27; (with_reducible refine (EN.out _ hb3).mono ?_); rintro e w4 ⟨⟨a4, c4, rfl⟩, hb4⟩; have x4 := HX.out _ hb4)
      | (refine wpList_loadM x4 rfl rfl rfl ?_)
      | (go_at_call 28; (with_reducible refine (CR.out _ HC.out _ hb4).mono ?_); rintro e w5 ⟨rfl, hb5⟩; have x5 := HX.out _ hb5)
      | (refine wpList_loadMw x5 (by rfl) rfl rfl ?_)
      | (go_at_call 29; (with_reducible refine (CK.out _ HC.out _ hb5).mono ?_); rintro e w6 ⟨rfl, hb6⟩; rw [e1])
      | (go_at_call 26; (with_reducible refine (AW.out _ hb6).mono ?_); rintro e w9 ⟨rfl, hb9⟩))
    go_ret
    exact ⟨rfl, HB1.out.trans (hb9.mono HB1.out.size)⟩
  case true =>
    obtain ⟨F, hF⟩ : ∃ F, msgF m = F := ⟨_, rfl⟩
    obtain ⟨N, hN⟩ : ∃ N, F.length = N := ⟨_, rfl⟩
    have hNl : N ≤ 890700 := by
      have hk := msgChk_ok hc
      have hkd : 1 ≤ m.kind ∧ m.kind ≤ 14 := by
        rcases kinds m.kind with e | e | e | e | e | e | e | e | e | e | e | e | e | e | ⟨-, e, -⟩
        all_goals first
          | omega
          | exact absurd e hk.f
      have := (encK_len HE.out hk hkd).2.2.2.2
      rw [encK_10, hF, hN] at this; exact this
    have EN : Hid (∀ W, Below W1.heap.size W1 W → Calls Try.prog 27 #[.agg (ML A m).toArray] W fun e w' => ∃ a c, e = .returned (.tuple #[.slice a N c, .int .i64 0]) ∧ ByteRow w' a F ∧ Below W1.heap.size W1 w') := hid fun W hW => (msgEncode_any (HE.out.ext hW)).mono fun e w' ⟨v, h1, h2, h3⟩ => by
      rw [hc] at h1 h2
      rw [if_pos rfl, hF] at h2
      obtain ⟨a, c, rfl, hr, -⟩ := h2.row
      rw [hN] at h1
      exact ⟨a, c, h1, hr, hW.trans (h3.mono hW.size)⟩
    have FR : Hid (∀ W, Below W1.heap.size W1 W → Calls Try.prog 31 #[.agg (ML A m).toArray] W fun e w' => ∃ a c, e = .returned (.slice a N c) ∧ ByteRow w' a F ∧ Below W.heap.size W w' ∧ Below W1.heap.size W1 w') := hid fun W hW => rowN hW (msgFormR_any (HE.out.ext hW) hc) hF hN
    have CRt : Hid (∀ W, Below W1.heap.size W1 W → Calls Try.prog 28 #[.agg (ML A m).toArray] W fun e w' => e = .returned (.bool true) ∧ Below W.heap.size W w' ∧ Below W1.heap.size W1 w') := hid fun W hW => (msgCheckR_any (HE.out.ext hW).r HE.out.s).mono fun e w' ⟨h1, h2⟩ => ⟨by rw [h1, hc], h2, hW.trans (h2.mono hW.size)⟩
    have HC := hid hc
    have HN := hid hN
    have e1 : chkE true = 0 := rfl
    clear hc hF hN
    go_enter Try.func4, Try.ntmps4
    go_wp2_with (first
      | (refine wpList_loadM xA rfl rfl rfl ?_)
      | (go_at_call 25; (with_reducible refine GR.out.mono ?_); rintro e w3 ⟨rfl, hb3⟩; have x3 := HX.out _ hb3)
      | (refine wpList_loadM x3 rfl rfl rfl ?_)
      | (go_at_call 27; (with_reducible refine (EN.out _ hb3).mono ?_); rintro e w4 ⟨a4, c4, rfl, hr4, hb4⟩; have x4 := HX.out _ hb4; have HR4 := hid hr4; clear hr4)
      | (refine wpList_loadM x4 rfl rfl rfl ?_)
      | (go_at_call 28; (with_reducible refine (CRt.out _ hb4).mono ?_); rintro e w5 ⟨rfl, hb45, hb5⟩; have x5 := HX.out _ hb5; have HR5 := hid (HR4.out.ext hb45); clear hb45)
      | (refine wpList_loadM x5 rfl rfl rfl ?_)
      | (go_at_call 31; (with_reducible refine (FR.out _ hb5).mono ?_); rintro e w6 ⟨a6, c6, rfl, hr6, hb56, hb6⟩; have SB := hid (sameB_is (ca := c4) (cb := c6) (hid (decide_eq_true (rfl : F = F))) HN HN (by omega) (by omega) (HR5.out.ext hb56) hr6); clear hr6 hb56)
      | (go_at_call 30; (with_reducible refine SB.out.mono ?_); rintro e w7 ⟨rfl, hb67⟩; have hb7 := hb6.trans (hb67.mono hb6.size); have x7 := HX.out _ hb7; clear hb67 SB)
      | (refine wpList_loadMw x7 (by rfl) rfl rfl ?_)
      | (go_at_call 29; (with_reducible refine (CK.out _ HC.out _ hb7).mono ?_); rintro e w8 ⟨rfl, hb8⟩; rw [e1])
      | (go_at_call 26; (with_reducible refine (AW.out _ hb8).mono ?_); rintro e w9 ⟨rfl, hb9⟩))
    go_ret
    exact ⟨rfl, HB1.out.trans (hb9.mono HB1.out.size)⟩
end Go.Proofs.Ytbpfhclcjedkcaa

namespace Go.Proofs.Ytbpfhclcjedkcaa
open Go.RowKit Go.Deep Go.Joins Go.ChangeShapes
/-! ### from the row's reading to messages -/
theorem cellsBal : Try.prog.cellsOf 41 = 3 := by kernel_rfl
theorem cellsBool : Try.prog.cellsOf 4 = 1 := by kernel_rfl
theorem cellsMsg : Try.prog.cellsOf 46 = 29 := by kernel_rfl
theorem list3 {α : Type} {cs : List α} (h : cs.length = 3) : ∃ c0 c1 c2, cs = [c0, c1, c2] := by
  match cs, h with
  | [c0, c1, c2], _ => exact ⟨c0, c1, c2, rfl⟩
theorem list29 {α : Type} {cs : List α} (h : cs.length = 29) : ∃ v0 v1 v2 v3 v4 v5 v6 v7 v8 v9 v10 v11 v12 v13 v14 v15 v16 v17 v18 v19 v20 v21 v22 v23 v24 v25 v26 v27 v28, cs = [v0, v1, v2, v3, v4, v5, v6, v7, v8, v9, v10, v11, v12, v13, v14, v15, v16, v17, v18, v19, v20, v21, v22, v23, v24, v25, v26, v27, v28] := by
  match cs, h with
  | [v0, v1, v2, v3, v4, v5, v6, v7, v8, v9, v10, v11, v12, v13, v14, v15, v16, v17, v18, v19, v20, v21, v22, v23, v24, v25, v26, v27, v28], _ => exact ⟨v0, v1, v2, v3, v4, v5, v6, v7, v8, v9, v10, v11, v12, v13, v14, v15, v16, v17, v18, v19, v20, v21, v22, v23, v24, v25, v26, v27, v28, rfl⟩
theorem trod_struct12 {H : Type} {enc : TypeId × Value → H} {P : Program} {w : World} {base : Nat} {spare : Nat → Bool} {held : Bool} {t : TypeId} {f0 f1 f2 f3 f4 f5 f6 f7 f8 f9 f10 f11 : Field} {fuel : Nat} {cs : List Value} {x : DataW H × List MemPlace} (ht : P.underlying t = some (.struct #[f0, f1, f2, f3, f4, f5, f6, f7, f8, f9, f10, f11])) (h : DataW.trod enc P w base spare held fuel t cs = some x) :
    ∃ y0 y1 y2 y3 y4 y5 y6 y7 y8 y9 y10 y11 n, x.1 = .agg [y0.1, y1.1, y2.1, y3.1, y4.1, y5.1, y6.1, y7.1, y8.1, y9.1, y10.1, y11.1] ∧ cs.length = P.cellsOf t ∧ DataW.trod enc P w base spare held n f0.type ((cs.drop f0.offset).take (P.cellsOf f0.type)) = some y0 ∧ DataW.trod enc P w base spare held n f1.type ((cs.drop f1.offset).take (P.cellsOf f1.type)) = some y1 ∧ DataW.trod enc P w base spare held n f2.type ((cs.drop f2.offset).take (P.cellsOf f2.type)) = some y2 ∧ DataW.trod enc P w base spare held n f3.type ((cs.drop f3.offset).take (P.cellsOf f3.type)) = some y3 ∧ DataW.trod enc P w base spare held n f4.type ((cs.drop f4.offset).take (P.cellsOf f4.type)) = some y4 ∧ DataW.trod enc P w base spare held n f5.type ((cs.drop f5.offset).take (P.cellsOf f5.type)) = some y5 ∧ DataW.trod enc P w base spare held n f6.type ((cs.drop f6.offset).take (P.cellsOf f6.type)) = some y6 ∧ DataW.trod enc P w base spare held n f7.type ((cs.drop f7.offset).take (P.cellsOf f7.type)) = some y7 ∧ DataW.trod enc P w base spare held n f8.type ((cs.drop f8.offset).take (P.cellsOf f8.type)) = some y8 ∧ DataW.trod enc P w base spare held n f9.type ((cs.drop f9.offset).take (P.cellsOf f9.type)) = some y9 ∧ DataW.trod enc P w base spare held n f10.type ((cs.drop f10.offset).take (P.cellsOf f10.type)) = some y10 ∧ DataW.trod enc P w base spare held n f11.type ((cs.drop f11.offset).take (P.cellsOf f11.type)) = some y11 := by
  obtain ⟨xs, n, _, rfl, hl, hlen, hf⟩ := DataW.trod_struct ht h
  match xs, hlen with
  | [y0, y1, y2, y3, y4, y5, y6, y7, y8, y9, y10, y11], _ => exact ⟨y0, y1, y2, y3, y4, y5, y6, y7, y8, y9, y10, y11, n, by simp, hl, by simpa using hf 0 f0 rfl, by simpa using hf 1 f1 rfl, by simpa using hf 2 f2 rfl, by simpa using hf 3 f3 rfl, by simpa using hf 4 f4 rfl, by simpa using hf 5 f5 rfl, by simpa using hf 6 f6 rfl, by simpa using hf 7 f7 rfl, by simpa using hf 8 f8 rfl, by simpa using hf 9 f9 rfl, by simpa using hf 10 f10 rfl, by simpa using hf 11 f11 rfl⟩
section
variable {H : Type} {enc : TypeId × Value → H} {w : World}
set_option maxRecDepth 100000 in
theorem open_bal {n : Nat} {cs : List Value} {x : DataW H × List MemPlace} (h : DataW.trod enc Try.prog w 0 (fun _ => true) true n 41 cs = some x) :
    ∃ b : Bal, cs = [.int .u32 b.1, .int .u16 b.2.1, .int .u32 b.2.2] ∧ b.1 < 4294967296 ∧ okP b.2 := by
  obtain ⟨y0, y1, m, _, hl, h0, h1⟩ := trod_struct2 Try.underlying41 h
  rw [cellsBal] at hl
  obtain ⟨c0, c1, c2, rfl⟩ := list3 hl
  have e0 : (([c0, c1, c2] : List Value).drop 0).take (Try.prog.cellsOf 24) = [c0] := by rw [cellsU32]; rfl
  have e1 : (([c0, c1, c2] : List Value).drop 1).take (Try.prog.cellsOf 26) = [c1, c2] := by rw [cellsPid]; rfl
  obtain ⟨i, hi, _, wi⟩ := DataW.trod_int Try.underlying24 (e0 ▸ h0)
  obtain ⟨x, y, hp, hb⟩ := open_pid (e1 ▸ h1)
  have b0 := bounds_u32 wi
  obtain ⟨k, rfl⟩ : ∃ k : Nat, i = (k : Int) := ⟨i.toNat, by omega⟩
  cases hi; cases hp
  exact ⟨(k, (x, y)), rfl, by simp only; omega, hb⟩
set_option maxRecDepth 100000 in
set_option maxHeartbeats 3200000 in
theorem open_msgL {n : Nat} {cs : List Value} {x : DataW H × List MemPlace} (h : DataW.trod enc Try.prog w 0 (fun _ => true) true n 46 cs = some x) (hs : Sz 46 x.1) :
    ∃ (A : MA) (m : MsgD), cs = ML A m ∧ MsgIn w A m := by
  obtain ⟨y0, y1, y2, y3, y4, y5, y6, y7, y8, y9, y10, y11, mm, hx, hl, h0, h1, h2, h3, h4, h5, h6, h7, h8, h9, h10, h11⟩ := trod_struct12 Try.underlying46 h
  rw [cellsMsg] at hl
  obtain ⟨v0, v1, v2, v3, v4, v5, v6, v7, v8, v9, v10, v11, v12, v13, v14, v15, v16, v17, v18, v19, v20, v21, v22, v23, v24, v25, v26, v27, v28, rfl⟩ := list29 hl
  have e0 : (([v0, v1, v2, v3, v4, v5, v6, v7, v8, v9, v10, v11, v12, v13, v14, v15, v16, v17, v18, v19, v20, v21, v22, v23, v24, v25, v26, v27, v28] : List Value).drop 0).take (Try.prog.cellsOf 3) = [v0] := by rw [cellsInt]; rfl
  have e1 : (([v0, v1, v2, v3, v4, v5, v6, v7, v8, v9, v10, v11, v12, v13, v14, v15, v16, v17, v18, v19, v20, v21, v22, v23, v24, v25, v26, v27, v28] : List Value).drop 1).take (Try.prog.cellsOf 26) = [v1, v2] := by rw [cellsPid]; rfl
  have e2 : (([v0, v1, v2, v3, v4, v5, v6, v7, v8, v9, v10, v11, v12, v13, v14, v15, v16, v17, v18, v19, v20, v21, v22, v23, v24, v25, v26, v27, v28] : List Value).drop 3).take (Try.prog.cellsOf 29) = [v3] := by rw [cellsU64]; rfl
  have e3 : (([v0, v1, v2, v3, v4, v5, v6, v7, v8, v9, v10, v11, v12, v13, v14, v15, v16, v17, v18, v19, v20, v21, v22, v23, v24, v25, v26, v27, v28] : List Value).drop 4).take (Try.prog.cellsOf 29) = [v4] := by rw [cellsU64]; rfl
  have e4 : (([v0, v1, v2, v3, v4, v5, v6, v7, v8, v9, v10, v11, v12, v13, v14, v15, v16, v17, v18, v19, v20, v21, v22, v23, v24, v25, v26, v27, v28] : List Value).drop 5).take (Try.prog.cellsOf 29) = [v5] := by rw [cellsU64]; rfl
  have e5 : (([v0, v1, v2, v3, v4, v5, v6, v7, v8, v9, v10, v11, v12, v13, v14, v15, v16, v17, v18, v19, v20, v21, v22, v23, v24, v25, v26, v27, v28] : List Value).drop 6).take (Try.prog.cellsOf 3) = [v6] := by rw [cellsInt]; rfl
  have e6 : (([v0, v1, v2, v3, v4, v5, v6, v7, v8, v9, v10, v11, v12, v13, v14, v15, v16, v17, v18, v19, v20, v21, v22, v23, v24, v25, v26, v27, v28] : List Value).drop 7).take (Try.prog.cellsOf 41) = [v7, v8, v9] := by rw [cellsBal]; rfl
  have e7 : (([v0, v1, v2, v3, v4, v5, v6, v7, v8, v9, v10, v11, v12, v13, v14, v15, v16, v17, v18, v19, v20, v21, v22, v23, v24, v25, v26, v27, v28] : List Value).drop 10).take (Try.prog.cellsOf 41) = [v10, v11, v12] := by rw [cellsBal]; rfl
  have e8 : (([v0, v1, v2, v3, v4, v5, v6, v7, v8, v9, v10, v11, v12, v13, v14, v15, v16, v17, v18, v19, v20, v21, v22, v23, v24, v25, v26, v27, v28] : List Value).drop 13).take (Try.prog.cellsOf 4) = [v13] := by rw [cellsBool]; rfl
  have e9 : (([v0, v1, v2, v3, v4, v5, v6, v7, v8, v9, v10, v11, v12, v13, v14, v15, v16, v17, v18, v19, v20, v21, v22, v23, v24, v25, v26, v27, v28] : List Value).drop 14).take (Try.prog.cellsOf 44) = [v14, v15, v16, v17, v18, v19, v20, v21, v22, v23] := by rw [cellsCmd]; rfl
  have e10 : (([v0, v1, v2, v3, v4, v5, v6, v7, v8, v9, v10, v11, v12, v13, v14, v15, v16, v17, v18, v19, v20, v21, v22, v23, v24, v25, v26, v27, v28] : List Value).drop 24).take (Try.prog.cellsOf 33) = [v24, v25, v26, v27] := by rw [cellsView]; rfl
  have e11 : (([v0, v1, v2, v3, v4, v5, v6, v7, v8, v9, v10, v11, v12, v13, v14, v15, v16, v17, v18, v19, v20, v21, v22, v23, v24, v25, v26, v27, v28] : List Value).drop 28).take (Try.prog.cellsOf 42) = [v28] := by rw [cellsBytes]; rfl
  have h0 := e0 ▸ h0
  have h1 := e1 ▸ h1
  have h2 := e2 ▸ h2
  have h3 := e3 ▸ h3
  have h4 := e4 ▸ h4
  have h5 := e5 ▸ h5
  have h6 := e6 ▸ h6
  have h7 := e7 ▸ h7
  have h8 := e8 ▸ h8
  have h9 := e9 ▸ h9
  have h10 := e10 ▸ h10
  have h11 := e11 ▸ h11
  have hw : ∀ k, (k ∈ y9.1.weights Try.prog 44 ∨ k ∈ y10.1.weights Try.prog 33) → k ≤ reachBytes := by
    intro k hk
    refine hs k ?_
    have e : x.1.weights Try.prog 46 = y0.1.weights Try.prog 3 ++ (y1.1.weights Try.prog 26 ++ (y2.1.weights Try.prog 29 ++ (y3.1.weights Try.prog 29 ++ (y4.1.weights Try.prog 29 ++ (y5.1.weights Try.prog 3 ++ (y6.1.weights Try.prog 41 ++ (y7.1.weights Try.prog 41 ++ (y8.1.weights Try.prog 4 ++ (y9.1.weights Try.prog 44 ++ (y10.1.weights Try.prog 33 ++ (y11.1.weights Try.prog 42 ++ []))))))))))) := by
      rw [hx]; simp [DataW.weights, Try.underlying46, DataW.weightsEach]
    rw [e]
    simp only [List.mem_append, List.append_nil]
    rcases hk with hk | hk
    · exact .inr (.inr (.inr (.inr (.inr (.inr (.inr (.inr (.inr (.inl hk)))))))))
    · exact .inr (.inr (.inr (.inr (.inr (.inr (.inr (.inr (.inr (.inr (.inl hk))))))))))
  obtain ⟨kd, hkd, _, wk⟩ := DataW.trod_int Try.underlying3 h0
  obtain ⟨px, py, hp, hpb⟩ := open_pid h1
  obtain ⟨n1, hn1, _, wn1⟩ := DataW.trod_int Try.underlying29 h2
  obtain ⟨n2, hn2, _, wn2⟩ := DataW.trod_int Try.underlying29 h3
  obtain ⟨n3, hn3, _, wn3⟩ := DataW.trod_int Try.underlying29 h4
  obtain ⟨ho, hho, _, who⟩ := DataW.trod_int Try.underlying3 h5
  obtain ⟨bb, hbb, hb1, hb2⟩ := open_bal h6
  obtain ⟨ba, hba, ha1, ha2⟩ := open_bal h7
  obtain ⟨hh, hhh, _⟩ := DataW.trod_bool Try.underlying4 h8
  obtain ⟨c, da, am, al, ad, dc, cm, cl, cd, hcc, hdr, hdb, hR, hwf, hfr, hcn, hcv⟩ := open_cmdL h9 (fun k hk => hw k (.inl hk))
  obtain ⟨V, vm, vl, vd, em, el, ed, hvc, hVR, hVw⟩ := open_viewL h10 (fun k hk => hw k (.inr hk))
  obtain ⟨ya, yc, bs, hyc, hyr, hyb⟩ := open_bytesL h11
  have b1 := bounds_u64 wn1
  have b2 := bounds_u64 wn2
  have b3 := bounds_u64 wn3
  obtain ⟨k1, rfl⟩ : ∃ k : Nat, n1 = (k : Int) := ⟨n1.toNat, by omega⟩
  obtain ⟨k2, rfl⟩ : ∃ k : Nat, n2 = (k : Int) := ⟨n2.toNat, by omega⟩
  obtain ⟨k3, rfl⟩ : ∃ k : Nat, n3 = (k : Int) := ⟨n3.toNat, by omega⟩
  cases hkd; cases hp; cases hn1; cases hn2; cases hn3; cases hho; cases hbb; cases hba; cases hhh; cases hcc; cases hvc; cases hyc
  exact ⟨⟨da, dc, am, cm, al, cl, ad, cd, vm, em, vl, el, vd, ed, ya, yc⟩, ⟨kd, (px, py), k1, k2, k3, ho, bb, ba, hh, c, V, bs⟩, rfl, ⟨⟨hdr, hdb, hR, hwf, hfr, hcn, hcv⟩, hVR, hVw, hyr, hyb, hpb, ⟨hb1, hb2⟩, ⟨ha1, ha2⟩, by simp only; omega, by simp only; omega, by simp only; omega⟩⟩
set_option maxRecDepth 100000 in
theorem open_msg {base : Nat} {v : Value} {d : DataW H} {p : List MemPlace} (hv : Value.okWide Try.prog w .any base 46 v) (h : DataW.Trod enc Try.prog w 0 (fun _ => true) true 46 v d p) (hs : Sz 46 d) :
    ∃ (A : MA) (m : MsgD), v = .agg (ML A m).toArray ∧ MsgIn w A m := by
  obtain ⟨cs, rfl, hsz⟩ := Go.WideShapes.okWide_struct Try.underlying46 hv
  obtain ⟨fuel, hf⟩ := h
  obtain ⟨A, m, hcs, r⟩ := open_msgL (x := (d, p)) hf hs
  refine ⟨A, m, ?_, r⟩
  simp only [Value.cells] at hcs
  rw [← Array.toArray_toList (xs := cs), hcs]
end
end Go.Proofs.Ytbpfhclcjedkcaa


