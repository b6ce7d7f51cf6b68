/- Parts of the proof: X69. -/
import Derived.Test.YtppapeoainafbaaGreatDoorX68
namespace Go.Proofs.YtppapeoainafbaaGreatDoor
open Go.RowKit
/-! ### the reference's Check of a message -/
def p1R (m : MsgD) : Bool := decide (flN m.kind ≠ 0) && (decide (m.vw ≤ 4611686018427387904 ∧ m.sl ≤ 4611686018427387904 ∧ m.num ≤ 4611686018427387904) && (decide (0 ≤ m.hops ∧ m.hops ≤ 4) && decide (m.y.length ≤ 200)))
def p2R (m : MsgD) : Bool := if hb m.kind 0 then mayP m.who else decide (m.who = (0, 0))
def p3R (m : MsgD) : Bool := (hb m.kind 1 || decide (m.vw = 0)) && ((hb m.kind 2 || decide (m.sl = 0)) && ((hb m.kind 4 || decide (m.num = 0)) && ((hb m.kind 5 || decide (m.hops = 0)) && (hb m.kind 9 || decide (m.y.length = 0)))))
def p4R (m : MsgD) : Bool := if hb m.kind 3 then mayP m.b.2 else decide (m.b = zeroBal)
def p5R (m : MsgD) : Bool := if m.has then hb m.kind 6 && mayP m.a.2 else decide (m.a = zeroBal)
def p6R (m : MsgD) : Bool := if m.has || hb m.kind 7 then decide (cmdChk m.c = 0) else sameC m.c zeroC
def p7R (m : MsgD) : Bool := if hb m.kind 8 then refCheckB m.v else sameB m.v zeroV
theorem same_only (m : MsgD) : sameM m (onlyM m) = ((hb m.kind 0 || decide (m.who = (0, 0))) && ((hb m.kind 1 || decide (m.vw = 0)) && ((hb m.kind 2 || decide (m.sl = 0)) && ((hb m.kind 4 || decide (m.num = 0)) && ((hb m.kind 5 || decide (m.hops = 0)) && ((hb m.kind 3 || decide (m.b = zeroBal)) && ((hb m.kind 6 && m.has || decide (m.a = zeroBal)) && ((hb m.kind 6 || !m.has) && ((hb m.kind 6 && m.has || hb m.kind 7 || sameC m.c zeroC) && ((hb m.kind 8 || sameB m.v zeroV) && (hb m.kind 9 || decide (m.y.length = 0)))))))))))) := by
  have e0 : decide (m.who = (onlyM m).who) = (hb m.kind 0 || decide (m.who = (0, 0))) := by show decide (m.who = if hb m.kind 0 then m.who else (0, 0)) = _; cases hb m.kind 0 <;> simp
  have e1 : decide (m.vw = (onlyM m).vw) = (hb m.kind 1 || decide (m.vw = 0)) := by show decide (m.vw = if hb m.kind 1 then m.vw else 0) = _; cases hb m.kind 1 <;> simp
  have e2 : decide (m.sl = (onlyM m).sl) = (hb m.kind 2 || decide (m.sl = 0)) := by show decide (m.sl = if hb m.kind 2 then m.sl else 0) = _; cases hb m.kind 2 <;> simp
  have e4 : decide (m.num = (onlyM m).num) = (hb m.kind 4 || decide (m.num = 0)) := by show decide (m.num = if hb m.kind 4 then m.num else 0) = _; cases hb m.kind 4 <;> simp
  have e5 : decide (m.hops = (onlyM m).hops) = (hb m.kind 5 || decide (m.hops = 0)) := by show decide (m.hops = if hb m.kind 5 then m.hops else 0) = _; cases hb m.kind 5 <;> simp
  have e3 : decide (m.b = (onlyM m).b) = (hb m.kind 3 || decide (m.b = zeroBal)) := by show decide (m.b = if hb m.kind 3 then m.b else zeroBal) = _; cases hb m.kind 3 <;> simp
  have ea : decide (m.a = (onlyM m).a) = (hb m.kind 6 && m.has || decide (m.a = zeroBal)) := by show decide (m.a = if hb m.kind 6 && m.has then m.a else zeroBal) = _; cases hb m.kind 6 && m.has <;> simp
  have eh : decide (m.has = (onlyM m).has) = (hb m.kind 6 || !m.has) := by show decide (m.has = if hb m.kind 6 then m.has else false) = _; cases hb m.kind 6 <;> cases m.has <;> simp
  have ec : sameC m.c (onlyM m).c = (hb m.kind 6 && m.has || hb m.kind 7 || sameC m.c zeroC) := by show sameC m.c (if (hb m.kind 6 && m.has) || hb m.kind 7 then m.c else zeroC) = _; cases (hb m.kind 6 && m.has) || hb m.kind 7 <;> simp [sameC_self]
  have ev : sameB m.v (onlyM m).v = (hb m.kind 8 || sameB m.v zeroV) := by show sameB m.v (if hb m.kind 8 then m.v else zeroV) = _; cases hb m.kind 8 <;> simp [sameB_refl]
  have ey : decide (m.y = (onlyM m).y) = (hb m.kind 9 || decide (m.y.length = 0)) := by
    show decide (m.y = if hb m.kind 9 then m.y else []) = _
    cases hb m.kind 9 <;> simp
  unfold sameM
  rw [e0, e1, e2, e3, e4, e5, ea, eh, ec, ev, ey]
  simp [onlyM]
theorem and_ac6 (h6 h7 hs c0 ck ma az : Bool) : ((h6 && hs || az) && ((h6 || !hs) && ((h6 && hs || h7 || c0) && ((!hs || (ma && ck)) && (!h7 || ck))))) = ((if hs then h6 && ma else az) && (if hs || h7 then ck else c0)) := by
  cases h6 <;> cases h7 <;> cases hs <;> cases c0 <;> cases ck <;> cases ma <;> cases az <;> rfl
theorem and_ac2 (h z y : Bool) : ((h || z) && (!h || y)) = (if h then y else z) := by cases h <;> cases z <;> cases y <;> rfl
theorem msgChk_R (m : MsgD) : msgChk m = (p1R m && (p2R m && (p3R m && (p4R m && (p5R m && (p6R m && p7R m)))))) := by
  have h2 : p2R m = ((hb m.kind 0 || decide (m.who = (0, 0))) && (!hb m.kind 0 || mayP m.who)) := (and_ac2 _ _ _).symm
  have h4 : p4R m = ((hb m.kind 3 || decide (m.b = zeroBal)) && (!hb m.kind 3 || mayP m.b.2)) := (and_ac2 _ _ _).symm
  have h7 : p7R m = ((hb m.kind 8 || sameB m.v zeroV) && (!hb m.kind 8 || refCheckB m.v)) := (and_ac2 _ _ _).symm
  have h56 : (p5R m && p6R m) = ((hb m.kind 6 && m.has || decide (m.a = zeroBal)) && ((hb m.kind 6 || !m.has) && ((hb m.kind 6 && m.has || hb m.kind 7 || sameC m.c zeroC) && ((!m.has || (mayP m.a.2 && decide (cmdChk m.c = 0))) && (!hb m.kind 7 || decide (cmdChk m.c = 0)))))) := (and_ac6 _ _ _ _ _ _ _).symm
  have hr : (p1R m && (p2R m && (p3R m && (p4R m && (p5R m && (p6R m && p7R m)))))) = (p1R m && (p2R m && (p3R m && (p4R m && ((p5R m && p6R m) && p7R m))))) := by simp only [Bool.and_assoc]
  rw [hr, h56, h2, h4, h7]
  unfold msgChk p1R p3R
  rw [same_only]
  generalize hb m.kind 0 = b0, hb m.kind 1 = b1, hb m.kind 2 = b2, hb m.kind 3 = b3, hb m.kind 4 = b4, hb m.kind 5 = b5, hb m.kind 6 = b6, hb m.kind 7 = b7, hb m.kind 8 = b8, hb m.kind 9 = b9
  ac_rfl
theorem fstr_size (k : Int) : (fstr k).size ≤ 1000 := by
  rcases kinds k with rfl | rfl | rfl | rfl | rfl | rfl | rfl | rfl | rfl | rfl | rfl | rfl | rfl | rfl | h
  rotate_right
  · unfold fstr; rw [h.2.2]; decide
  all_goals decide
theorem fstr_empty (k : Int) : (fstr k).toList.isEmpty = decide (flN k = 0) := by
  rw [ByteArray.toList_eq]
  rcases kinds k with rfl | rfl | rfl | rfl | rfl | rfl | rfl | rfl | rfl | rfl | rfl | rfl | rfl | rfl | h
  rotate_right
  · rw [h.2.1]; unfold fstr; rw [h.2.2]; rfl
  all_goals decide
/-- what the kinds' fields may be -/
theorem pats {k : Int} (h : flN k ≠ 0) : ∀ r1 r2 r4 r5 r9, hb k 1 = r1 → hb k 2 = r2 → hb k 4 = r4 → hb k 5 = r5 → hb k 9 = r9 → (r1, r2, r4, r5, r9) ∈ [(true, false, true, true, true), (false, true, false, true, false), (false, true, false, false, false), (true, false, false, true, false), (true, false, true, true, false), (false, false, false, true, false), (false, true, false, false, true), (true, false, false, false, false)] := by
  intro r1 r2 r4 r5 r9 h1 h2 h4 h5 h9
  rw [← h1, ← h2, ← h4, ← h5, ← h9]
  rcases kinds k with rfl | rfl | rfl | rfl | rfl | rfl | rfl | rfl | rfl | rfl | rfl | rfl | rfl | rfl | e
  rotate_right
  · exact absurd e.2.1 h
  all_goals decide
theorem rhas0 {k : Int} {s : ByteArray} {r : Bool} {w : World} (hs : Hid (fstr k = s)) (h : Hid (hb k 0 = r)) : Calls Tryz.prog 34 #[.string s, .int .u8 119] w fun e w' => e = .returned (.bool r) ∧ w = w' := by
  have := hasR_any s 119 w (by rw [← hs.out]; exact fstr_size k)
  rw [show hasS s 119 = r from by rw [← hs.out, ← h.out]; exact hasS_hb k (i := 0) (by decide)] at this
  exact this
theorem rhas1 {k : Int} {s : ByteArray} {r : Bool} {w : World} (hs : Hid (fstr k = s)) (h : Hid (hb k 1 = r)) : Calls Tryz.prog 34 #[.string s, .int .u8 118] w fun e w' => e = .returned (.bool r) ∧ w = w' := by
  have := hasR_any s 118 w (by rw [← hs.out]; exact fstr_size k)
  rw [show hasS s 118 = r from by rw [← hs.out, ← h.out]; exact hasS_hb k (i := 1) (by decide)] at this
  exact this
theorem rhas2 {k : Int} {s : ByteArray} {r : Bool} {w : World} (hs : Hid (fstr k = s)) (h : Hid (hb k 2 = r)) : Calls Tryz.prog 34 #[.string s, .int .u8 115] w fun e w' => e = .returned (.bool r) ∧ w = w' := by
  have := hasR_any s 115 w (by rw [← hs.out]; exact fstr_size k)
  rw [show hasS s 115 = r from by rw [← hs.out, ← h.out]; exact hasS_hb k (i := 2) (by decide)] at this
  exact this
theorem rhas3 {k : Int} {s : ByteArray} {r : Bool} {w : World} (hs : Hid (fstr k = s)) (h : Hid (hb k 3 = r)) : Calls Tryz.prog 34 #[.string s, .int .u8 98] w fun e w' => e = .returned (.bool r) ∧ w = w' := by
  have := hasR_any s 98 w (by rw [← hs.out]; exact fstr_size k)
  rw [show hasS s 98 = r from by rw [← hs.out, ← h.out]; exact hasS_hb k (i := 3) (by decide)] at this
  exact this
theorem rhas4 {k : Int} {s : ByteArray} {r : Bool} {w : World} (hs : Hid (fstr k = s)) (h : Hid (hb k 4 = r)) : Calls Tryz.prog 34 #[.string s, .int .u8 110] w fun e w' => e = .returned (.bool r) ∧ w = w' := by
  have := hasR_any s 110 w (by rw [← hs.out]; exact fstr_size k)
  rw [show hasS s 110 = r from by rw [← hs.out, ← h.out]; exact hasS_hb k (i := 4) (by decide)] at this
  exact this
theorem rhas5 {k : Int} {s : ByteArray} {r : Bool} {w : World} (hs : Hid (fstr k = s)) (h : Hid (hb k 5 = r)) : Calls Tryz.prog 34 #[.string s, .int .u8 104] w fun e w' => e = .returned (.bool r) ∧ w = w' := by
  have := hasR_any s 104 w (by rw [← hs.out]; exact fstr_size k)
  rw [show hasS s 104 = r from by rw [← hs.out, ← h.out]; exact hasS_hb k (i := 5) (by decide)] at this
  exact this
theorem rhas6 {k : Int} {s : ByteArray} {r : Bool} {w : World} (hs : Hid (fstr k = s)) (h : Hid (hb k 6 = r)) : Calls Tryz.prog 34 #[.string s, .int .u8 112] w fun e w' => e = .returned (.bool r) ∧ w = w' := by
  have := hasR_any s 112 w (by rw [← hs.out]; exact fstr_size k)
  rw [show hasS s 112 = r from by rw [← hs.out, ← h.out]; exact hasS_hb k (i := 6) (by decide)] at this
  exact this
theorem rhas7 {k : Int} {s : ByteArray} {r : Bool} {w : World} (hs : Hid (fstr k = s)) (h : Hid (hb k 7 = r)) : Calls Tryz.prog 34 #[.string s, .int .u8 99] w fun e w' => e = .returned (.bool r) ∧ w = w' := by
  have := hasR_any s 99 w (by rw [← hs.out]; exact fstr_size k)
  rw [show hasS s 99 = r from by rw [← hs.out, ← h.out]; exact hasS_hb k (i := 7) (by decide)] at this
  exact this
theorem rhas8 {k : Int} {s : ByteArray} {r : Bool} {w : World} (hs : Hid (fstr k = s)) (h : Hid (hb k 8 = r)) : Calls Tryz.prog 34 #[.string s, .int .u8 86] w fun e w' => e = .returned (.bool r) ∧ w = w' := by
  have := hasR_any s 86 w (by rw [← hs.out]; exact fstr_size k)
  rw [show hasS s 86 = r from by rw [← hs.out, ← h.out]; exact hasS_hb k (i := 8) (by decide)] at this
  exact this
theorem rhas9 {k : Int} {s : ByteArray} {r : Bool} {w : World} (hs : Hid (fstr k = s)) (h : Hid (hb k 9 = r)) : Calls Tryz.prog 34 #[.string s, .int .u8 121] w fun e w' => e = .returned (.bool r) ∧ w = w' := by
  have := hasR_any s 121 w (by rw [← hs.out]; exact fstr_size k)
  rw [show hasS s 121 = r from by rw [← hs.out, ← h.out]; exact hasS_hb k (i := 9) (by decide)] at this
  exact this
set_option maxRecDepth 100000 in
set_option maxHeartbeats 12800000 in
theorem msgCheckR_any {A : MA} {m : MsgD} {w : World} (hA : MsgR w A m) (hs : MsgS m) :
    Calls Tryz.prog 32 #[.agg (ML A m).toArray] w fun e w' => e = .returned (.bool (msgChk m)) ∧ Below w.heap.size w w' := by
  obtain ⟨W1, hW1⟩ : ∃ W1, w.alloc (.cells (ML A m).toArray 37) = W1 := ⟨_, rfl⟩
  have hB1 : Below w.heap.size w W1 := by rw [← hW1]; exact (Below.refl _ _).alloc (Nat.le_refl _) _
  have xA : MsgBox W1 w.heap.size A m := by rw [← hW1]; exact MsgBox.made A m w _ _
  have HX : Hid (∀ W, Below W1.heap.size W1 W → MsgBox W w.heap.size A m) := hid fun W h => xA.ext h xA.lt
  have HA := hid (hA.ext hB1)
  have HB1 := hid hB1
  have HSM := hid hs
  obtain ⟨s, hsf⟩ : ∃ s, fstr m.kind = s := ⟨_, rfl⟩
  have HSF := hid hsf
  have FL := hid (fieldsR_any m.kind W1)
  have hsq := fstr_empty m.kind
  rw [hsf] at FL hsq
  have HSQ := hid hsq
  have a0 : W1.cell? ⟨w.heap.size, 0, none⟩ = some (.int .i64 m.kind) := xA.cell rfl
  have MP : Hid (∀ (p : Pid) r, okP p → mayP p = r → ∀ W, Below W1.heap.size W1 W → Calls Tryz.prog 61 #[.agg #[.int .u16 p.1, .int .u32 p.2]] W fun e w' => e = .returned (.bool r) ∧ Below W1.heap.size W1 w') := hid fun p r hp h W hW => relB hW (by
    have := mayR_any p.1 p.2 W
    rw [show mayR (p.1, p.2) = r from by rw [← h]; exact mayP_R hp.2.2.1] at this
    exact this)
  obtain ⟨r0, hr0⟩ : ∃ r, hb m.kind 0 = r := ⟨_, rfl⟩
  have HR0 := hid hr0
  obtain ⟨r1, hr1⟩ : ∃ r, hb m.kind 1 = r := ⟨_, rfl⟩
  have HR1 := hid hr1
  obtain ⟨r2, hr2⟩ : ∃ r, hb m.kind 2 = r := ⟨_, rfl⟩
  have HR2 := hid hr2
  obtain ⟨r3, hr3⟩ : ∃ r, hb m.kind 3 = r := ⟨_, rfl⟩
  have HR3 := hid hr3
  obtain ⟨r4, hr4⟩ : ∃ r, hb m.kind 4 = r := ⟨_, rfl⟩
  have HR4 := hid hr4
  obtain ⟨r5, hr5⟩ : ∃ r, hb m.kind 5 = r := ⟨_, rfl⟩
  have HR5 := hid hr5
  obtain ⟨r6, hr6⟩ : ∃ r, hb m.kind 6 = r := ⟨_, rfl⟩
  have HR6 := hid hr6
  obtain ⟨r7, hr7⟩ : ∃ r, hb m.kind 7 = r := ⟨_, rfl⟩
  have HR7 := hid hr7
  obtain ⟨r8, hr8⟩ : ∃ r, hb m.kind 8 = r := ⟨_, rfl⟩
  have HR8 := hid hr8
  obtain ⟨r9, hr9⟩ : ∃ r, hb m.kind 9 = r := ⟨_, rfl⟩
  have HR9 := hid hr9
  obtain ⟨p1, hp1⟩ : ∃ r, p1R m = r := ⟨_, rfl⟩
  have HP1 := hid hp1
  obtain ⟨p2, hp2⟩ : ∃ r, p2R m = r := ⟨_, rfl⟩
  have HP2 := hid hp2
  obtain ⟨p3, hp3⟩ : ∃ r, p3R m = r := ⟨_, rfl⟩
  have HP3 := hid hp3
  obtain ⟨p4, hp4⟩ : ∃ r, p4R m = r := ⟨_, rfl⟩
  have HP4 := hid hp4
  obtain ⟨p5, hp5⟩ : ∃ r, p5R m = r := ⟨_, rfl⟩
  have HP5 := hid hp5
  obtain ⟨p6, hp6⟩ : ∃ r, p6R m = r := ⟨_, rfl⟩
  have HP6 := hid hp6
  obtain ⟨p7, hp7⟩ : ∃ r, p7R m = r := ⟨_, rfl⟩
  have HP7 := hid hp7
  have HM : Hid (msgChk m = (p1 && (p2 && (p3 && (p4 && (p5 && (p6 && p7))))))) := hid (by rw [msgChk_R, hp1, hp2, hp3, hp4, hp5, hp6, hp7])
  clear hA hB1 xA hs hsf hsq hr0 hr1 hr2 hr3 hr4 hr5 hr6 hr7 hr8 hr9 hp1 hp2 hp3 hp4 hp5 hp6 hp7
  go_enter Tryz.func32, Tryz.ntmps32
  go_upto_region 2 with ((go_at_call 33; (with_reducible refine FL.out.mono ?_); rintro e w2 ⟨rfl, hb2⟩))
  clear a0 FL
  have HB := hid hb2
  clear hb2
  go_upto_region 2 with fail
  go_cut [39] (fun s wx => s = .bool (!p1) ∧ Below W1.heap.size W1 wx)
  case first => as_aux_lemma =>
    have H := HB.out
    by_cases g0 : flN m.kind = 0
    · have HQ : Hid (p1R m = false) := hid (by unfold p1R; simp only [Bool.and_eq_false_iff, decide_eq_false_iff_not]; omega)
      have hsq := HSQ.out
      rw [show decide (flN m.kind = 0) = true from decide_eq_true g0] at hsq
      clear g0
      go_wp2_with fail
      go_meet
      exact ⟨ret_val (by rw [← HP1.out, HQ.out]; rfl), H⟩
    · by_cases g1 : 4611686018427387904 < m.vw
      · have HQ : Hid (p1R m = false) := hid (by unfold p1R; simp only [Bool.and_eq_false_iff, decide_eq_false_iff_not]; omega)
        have a3 : w2.cell? ⟨w.heap.size, 3, none⟩ = some (.int .u64 m.vw) := (HX.out _ HB.out).cell rfl
        have hsq := HSQ.out
        rw [show decide (flN m.kind = 0) = false from decide_eq_false g0] at hsq
        have t1 : decide (m.vw > 4611686018427387904) = true := decide_eq_true (by omega)
        have t2 : decide (4611686018427387904 < m.vw) = true := decide_eq_true (by omega)
        have t3 : decide ((m.vw : Int) > 4611686018427387904) = true := decide_eq_true (by omega)
        have t4 : decide ((4611686018427387904 : Int) < (m.vw : Int)) = true := decide_eq_true (by omega)
        clear g0 g1
        go_wp2_with fail
        go_meet
        exact ⟨ret_val (by rw [← HP1.out, HQ.out]; rfl), H⟩
      · by_cases g2 : 4611686018427387904 < m.sl
        · have HQ : Hid (p1R m = false) := hid (by unfold p1R; simp only [Bool.and_eq_false_iff, decide_eq_false_iff_not]; omega)
          have a3 : w2.cell? ⟨w.heap.size, 3, none⟩ = some (.int .u64 m.vw) := (HX.out _ HB.out).cell rfl
          have a4 : w2.cell? ⟨w.heap.size, 4, none⟩ = some (.int .u64 m.sl) := (HX.out _ HB.out).cell rfl
          have hsq := HSQ.out
          rw [show decide (flN m.kind = 0) = false from decide_eq_false g0] at hsq
          have t5 : decide (m.vw > 4611686018427387904) = false := decide_eq_false (by omega)
          have t6 : decide (4611686018427387904 < m.vw) = false := decide_eq_false (by omega)
          have t7 : decide ((m.vw : Int) > 4611686018427387904) = false := decide_eq_false (by omega)
          have t8 : decide ((4611686018427387904 : Int) < (m.vw : Int)) = false := decide_eq_false (by omega)
          have t9 : decide (m.sl > 4611686018427387904) = true := decide_eq_true (by omega)
          have t10 : decide (4611686018427387904 < m.sl) = true := decide_eq_true (by omega)
          have t11 : decide ((m.sl : Int) > 4611686018427387904) = true := decide_eq_true (by omega)
          have t12 : decide ((4611686018427387904 : Int) < (m.sl : Int)) = true := decide_eq_true (by omega)
          clear g0 g1 g2
          go_wp2_with fail
          go_meet
          exact ⟨ret_val (by rw [← HP1.out, HQ.out]; rfl), H⟩
        · by_cases g3 : 4611686018427387904 < m.num
          · have HQ : Hid (p1R m = false) := hid (by unfold p1R; simp only [Bool.and_eq_false_iff, decide_eq_false_iff_not]; omega)
            have a3 : w2.cell? ⟨w.heap.size, 3, none⟩ = some (.int .u64 m.vw) := (HX.out _ HB.out).cell rfl
            have a4 : w2.cell? ⟨w.heap.size, 4, none⟩ = some (.int .u64 m.sl) := (HX.out _ HB.out).cell rfl
            have a5 : w2.cell? ⟨w.heap.size, 5, none⟩ = some (.int .u64 m.num) := (HX.out _ HB.out).cell rfl
            have hsq := HSQ.out
            rw [show decide (flN m.kind = 0) = false from decide_eq_false g0] at hsq
            have t13 : decide (m.vw > 4611686018427387904) = false := decide_eq_false (by omega)
            have t14 : decide (4611686018427387904 < m.vw) = false := decide_eq_false (by omega)
            have t15 : decide ((m.vw : Int) > 4611686018427387904) = false := decide_eq_false (by omega)
            have t16 : decide ((4611686018427387904 : Int) < (m.vw : Int)) = false := decide_eq_false (by omega)
            have t17 : decide (m.sl > 4611686018427387904) = false := decide_eq_false (by omega)
            have t18 : decide (4611686018427387904 < m.sl) = false := decide_eq_false (by omega)
            have t19 : decide ((m.sl : Int) > 4611686018427387904) = false := decide_eq_false (by omega)
            have t20 : decide ((4611686018427387904 : Int) < (m.sl : Int)) = false := decide_eq_false (by omega)
            have t21 : decide (m.num > 4611686018427387904) = true := decide_eq_true (by omega)
            have t22 : decide (4611686018427387904 < m.num) = true := decide_eq_true (by omega)
            have t23 : decide ((m.num : Int) > 4611686018427387904) = true := decide_eq_true (by omega)
            have t24 : decide ((4611686018427387904 : Int) < (m.num : Int)) = true := decide_eq_true (by omega)
            clear g0 g1 g2 g3
            go_wp2_with fail
            go_meet
            exact ⟨ret_val (by rw [← HP1.out, HQ.out]; rfl), H⟩
          · by_cases g4 : m.hops < 0
            · have HQ : Hid (p1R m = false) := hid (by unfold p1R; simp only [Bool.and_eq_false_iff, decide_eq_false_iff_not]; omega)
              have a3 : w2.cell? ⟨w.heap.size, 3, none⟩ = some (.int .u64 m.vw) := (HX.out _ HB.out).cell rfl
              have a4 : w2.cell? ⟨w.heap.size, 4, none⟩ = some (.int .u64 m.sl) := (HX.out _ HB.out).cell rfl
              have a5 : w2.cell? ⟨w.heap.size, 5, none⟩ = some (.int .u64 m.num) := (HX.out _ HB.out).cell rfl
              have a6 : w2.cell? ⟨w.heap.size, 6, none⟩ = some (.int .i64 m.hops) := (HX.out _ HB.out).cell rfl
              have hsq := HSQ.out
              rw [show decide (flN m.kind = 0) = false from decide_eq_false g0] at hsq
              have t25 : decide (m.vw > 4611686018427387904) = false := decide_eq_false (by omega)
              have t26 : decide (4611686018427387904 < m.vw) = false := decide_eq_false (by omega)
              have t27 : decide ((m.vw : Int) > 4611686018427387904) = false := decide_eq_false (by omega)
              have t28 : decide ((4611686018427387904 : Int) < (m.vw : Int)) = false := decide_eq_false (by omega)
              have t29 : decide (m.sl > 4611686018427387904) = false := decide_eq_false (by omega)
              have t30 : decide (4611686018427387904 < m.sl) = false := decide_eq_false (by omega)
              have t31 : decide ((m.sl : Int) > 4611686018427387904) = false := decide_eq_false (by omega)
              have t32 : decide ((4611686018427387904 : Int) < (m.sl : Int)) = false := decide_eq_false (by omega)
              have t33 : decide (m.num > 4611686018427387904) = false := decide_eq_false (by omega)
              have t34 : decide (4611686018427387904 < m.num) = false := decide_eq_false (by omega)
              have t35 : decide ((m.num : Int) > 4611686018427387904) = false := decide_eq_false (by omega)
              have t36 : decide ((4611686018427387904 : Int) < (m.num : Int)) = false := decide_eq_false (by omega)
              have t37 : decide (m.hops < 0) = true := decide_eq_true (by omega)
              clear g0 g1 g2 g3 g4
              go_wp2_with fail
              go_meet
              exact ⟨ret_val (by rw [← HP1.out, HQ.out]; rfl), H⟩
            · by_cases g5 : 4 < m.hops
              · have HQ : Hid (p1R m = false) := hid (by unfold p1R; simp only [Bool.and_eq_false_iff, decide_eq_false_iff_not]; omega)
                have a3 : w2.cell? ⟨w.heap.size, 3, none⟩ = some (.int .u64 m.vw) := (HX.out _ HB.out).cell rfl
                have a4 : w2.cell? ⟨w.heap.size, 4, none⟩ = some (.int .u64 m.sl) := (HX.out _ HB.out).cell rfl
                have a5 : w2.cell? ⟨w.heap.size, 5, none⟩ = some (.int .u64 m.num) := (HX.out _ HB.out).cell rfl
                have a6 : w2.cell? ⟨w.heap.size, 6, none⟩ = some (.int .i64 m.hops) := (HX.out _ HB.out).cell rfl
                have hsq := HSQ.out
                rw [show decide (flN m.kind = 0) = false from decide_eq_false g0] at hsq
                have t38 : decide (m.vw > 4611686018427387904) = false := decide_eq_false (by omega)
                have t39 : decide (4611686018427387904 < m.vw) = false := decide_eq_false (by omega)
                have t40 : decide ((m.vw : Int) > 4611686018427387904) = false := decide_eq_false (by omega)
                have t41 : decide ((4611686018427387904 : Int) < (m.vw : Int)) = false := decide_eq_false (by omega)
                have t42 : decide (m.sl > 4611686018427387904) = false := decide_eq_false (by omega)
                have t43 : decide (4611686018427387904 < m.sl) = false := decide_eq_false (by omega)
                have t44 : decide ((m.sl : Int) > 4611686018427387904) = false := decide_eq_false (by omega)
                have t45 : decide ((4611686018427387904 : Int) < (m.sl : Int)) = false := decide_eq_false (by omega)
                have t46 : decide (m.num > 4611686018427387904) = false := decide_eq_false (by omega)
                have t47 : decide (4611686018427387904 < m.num) = false := decide_eq_false (by omega)
                have t48 : decide ((m.num : Int) > 4611686018427387904) = false := decide_eq_false (by omega)
                have t49 : decide ((4611686018427387904 : Int) < (m.num : Int)) = false := decide_eq_false (by omega)
                have t50 : decide (m.hops < 0) = false := decide_eq_false (by omega)
                have t51 : decide (m.hops > 4) = true := decide_eq_true (by omega)
                have t52 : decide (4 < m.hops) = true := decide_eq_true (by omega)
                clear g0 g1 g2 g3 g4 g5
                go_wp2_with fail
                go_meet
                exact ⟨ret_val (by rw [← HP1.out, HQ.out]; rfl), H⟩
              · by_cases g6 : 200 < m.y.length
                · have HQ : Hid (p1R m = false) := hid (by unfold p1R; simp only [Bool.and_eq_false_iff, decide_eq_false_iff_not]; omega)
                  have a3 : w2.cell? ⟨w.heap.size, 3, none⟩ = some (.int .u64 m.vw) := (HX.out _ HB.out).cell rfl
                  have a4 : w2.cell? ⟨w.heap.size, 4, none⟩ = some (.int .u64 m.sl) := (HX.out _ HB.out).cell rfl
                  have a5 : w2.cell? ⟨w.heap.size, 5, none⟩ = some (.int .u64 m.num) := (HX.out _ HB.out).cell rfl
                  have a6 : w2.cell? ⟨w.heap.size, 6, none⟩ = some (.int .i64 m.hops) := (HX.out _ HB.out).cell rfl
                  have a28 : w2.cell? ⟨w.heap.size, 28, none⟩ = some (.slice A.ya m.y.length A.yc) := (HX.out _ HB.out).cell rfl
                  have hsq := HSQ.out
                  rw [show decide (flN m.kind = 0) = false from decide_eq_false g0] at hsq
                  have t53 : decide (m.vw > 4611686018427387904) = false := decide_eq_false (by omega)
                  have t54 : decide (4611686018427387904 < m.vw) = false := decide_eq_false (by omega)
                  have t55 : decide ((m.vw : Int) > 4611686018427387904) = false := decide_eq_false (by omega)
                  have t56 : decide ((4611686018427387904 : Int) < (m.vw : Int)) = false := decide_eq_false (by omega)
                  have t57 : decide (m.sl > 4611686018427387904) = false := decide_eq_false (by omega)
                  have t58 : decide (4611686018427387904 < m.sl) = false := decide_eq_false (by omega)
                  have t59 : decide ((m.sl : Int) > 4611686018427387904) = false := decide_eq_false (by omega)
                  have t60 : decide ((4611686018427387904 : Int) < (m.sl : Int)) = false := decide_eq_false (by omega)
                  have t61 : decide (m.num > 4611686018427387904) = false := decide_eq_false (by omega)
                  have t62 : decide (4611686018427387904 < m.num) = false := decide_eq_false (by omega)
                  have t63 : decide ((m.num : Int) > 4611686018427387904) = false := decide_eq_false (by omega)
                  have t64 : decide ((4611686018427387904 : Int) < (m.num : Int)) = false := decide_eq_false (by omega)
                  have t65 : decide (m.hops < 0) = false := decide_eq_false (by omega)
                  have t66 : decide (m.hops > 4) = false := decide_eq_false (by omega)
                  have t67 : decide (4 < m.hops) = false := decide_eq_false (by omega)
                  have t68 : decide (m.y.length > 200) = true := decide_eq_true (by omega)
                  have t69 : decide (200 < m.y.length) = true := decide_eq_true (by omega)
                  have t70 : decide ((m.y.length : Int) > 200) = true := decide_eq_true (by omega)
                  have t71 : decide ((200 : Int) < (m.y.length : Int)) = true := decide_eq_true (by omega)
                  clear g0 g1 g2 g3 g4 g5 g6
                  go_wp2_with fail
                  go_meet
                  exact ⟨ret_val (by rw [← HP1.out, HQ.out]; rfl), H⟩
                · have HQ : Hid (p1R m = true) := hid (by unfold p1R; simp only [Bool.and_eq_true, decide_eq_true_eq]; omega)
                  have a3 : w2.cell? ⟨w.heap.size, 3, none⟩ = some (.int .u64 m.vw) := (HX.out _ HB.out).cell rfl
                  have a4 : w2.cell? ⟨w.heap.size, 4, none⟩ = some (.int .u64 m.sl) := (HX.out _ HB.out).cell rfl
                  have a5 : w2.cell? ⟨w.heap.size, 5, none⟩ = some (.int .u64 m.num) := (HX.out _ HB.out).cell rfl
                  have a6 : w2.cell? ⟨w.heap.size, 6, none⟩ = some (.int .i64 m.hops) := (HX.out _ HB.out).cell rfl
                  have a28 : w2.cell? ⟨w.heap.size, 28, none⟩ = some (.slice A.ya m.y.length A.yc) := (HX.out _ HB.out).cell rfl
                  have hsq := HSQ.out
                  rw [show decide (flN m.kind = 0) = false from decide_eq_false g0] at hsq
                  have t72 : decide (m.vw > 4611686018427387904) = false := decide_eq_false (by omega)
                  have t73 : decide (4611686018427387904 < m.vw) = false := decide_eq_false (by omega)
                  have t74 : decide ((m.vw : Int) > 4611686018427387904) = false := decide_eq_false (by omega)
                  have t75 : decide ((4611686018427387904 : Int) < (m.vw : Int)) = false := decide_eq_false (by omega)
                  have t76 : decide (m.sl > 4611686018427387904) = false := decide_eq_false (by omega)
                  have t77 : decide (4611686018427387904 < m.sl) = false := decide_eq_false (by omega)
                  have t78 : decide ((m.sl : Int) > 4611686018427387904) = false := decide_eq_false (by omega)
                  have t79 : decide ((4611686018427387904 : Int) < (m.sl : Int)) = false := decide_eq_false (by omega)
                  have t80 : decide (m.num > 4611686018427387904) = false := decide_eq_false (by omega)
                  have t81 : decide (4611686018427387904 < m.num) = false := decide_eq_false (by omega)
                  have t82 : decide ((m.num : Int) > 4611686018427387904) = false := decide_eq_false (by omega)
                  have t83 : decide ((4611686018427387904 : Int) < (m.num : Int)) = false := decide_eq_false (by omega)
                  have t84 : decide (m.hops < 0) = false := decide_eq_false (by omega)
                  have t85 : decide (m.hops > 4) = false := decide_eq_false (by omega)
                  have t86 : decide (4 < m.hops) = false := decide_eq_false (by omega)
                  have t87 : decide (m.y.length > 200) = false := decide_eq_false (by omega)
                  have t88 : decide (200 < m.y.length) = false := decide_eq_false (by omega)
                  have t89 : decide ((m.y.length : Int) > 200) = false := decide_eq_false (by omega)
                  have t90 : decide ((200 : Int) < (m.y.length : Int)) = false := decide_eq_false (by omega)
                  clear g0 g1 g2 g3 g4 g5 g6
                  go_wp2_with fail
                  go_meet
                  exact ⟨ret_val (by rw [← HP1.out, HQ.out]; rfl), H⟩
  case rest =>
  obtain ⟨rfl, hb'⟩ := hcut
  rename World => w3
  clear HB
  have HB := hid hb'
  clear hb'
  cases p1
  case false =>
    have HE := hid (HB1.out.trans (HB.out.mono HB1.out.size))
    go_wp2
    go_ret
    exact ⟨by rw [HM.out]; simp, HE.out⟩
  have hfl : flN m.kind ≠ 0 := by
    have := HP1.out
    unfold p1R at this
    simp only [Bool.and_eq_true, decide_eq_true_eq] at this
    exact this.1
  have HPAT := hid (pats hfl r1 r2 r4 r5 r9 HR1.out HR2.out HR4.out HR5.out HR9.out)
  clear hfl
  go_upto_region 4 with fail
  go_cut [58] (fun s wx => s = .bool (!p2) ∧ Below W1.heap.size W1 wx)
  case first => as_aux_lemma =>
    have H := HB.out
    cases r0
    case false =>
      obtain ⟨z, hz⟩ : ∃ z, decide (m.who = (0, 0)) = z := ⟨_, rfl⟩
      have NQ : Hid (∀ W, (binOp .neq 25 (.agg #[.int .u16 m.who.1, .int .u32 m.who.2]) (.agg #[.int .u16 0, .int .u32 0])).run Tryz.prog W = .ok (.bool (!z)) W) := hid fun W => by
        rw [neq_pid, ← hz]
      have HQ : Hid (p2R m = z) := hid (by unfold p2R; rw [HR0.out]; exact hz)
      have a1 : w3.cell? ⟨w.heap.size, 1, none⟩ = some (.int .u16 m.who.1) := (HX.out _ HB.out).cell rfl
      have a2 : w3.cell? ⟨w.heap.size, 2, none⟩ = some (.int .u32 m.who.2) := (HX.out _ HB.out).cell rfl
      have nq := NQ.out
      clear hz
      go_wp2_with (first
        | (go_at_call 34; (with_reducible refine (rhas0 HSF HR0).mono ?_); rintro e wz ⟨rfl, rfl⟩))
      go_meet
      exact ⟨ret_val (by rw [← HP2.out, HQ.out]), H⟩
    case true =>
      obtain ⟨q, hq⟩ : ∃ q, mayP (m.who) = q := ⟨_, rfl⟩
      have HMQ := hid hq
      have HOK : Hid (okP (m.who)) := hid HSM.out.who
      clear hq
      cases q
      case false =>
        have HQ : Hid (p2R m = false) := hid (by unfold p2R; rw [HR0.out]; exact HMQ.out)
        have a1 : w3.cell? ⟨w.heap.size, 1, none⟩ = some (.int .u16 m.who.1) := (HX.out _ HB.out).cell rfl
        have a2 : w3.cell? ⟨w.heap.size, 2, none⟩ = some (.int .u32 m.who.2) := (HX.out _ HB.out).cell rfl
        go_wp2_with (first
          | (go_at_call 34; (with_reducible refine (rhas0 HSF HR0).mono ?_); rintro e wz ⟨rfl, rfl⟩)
          | (go_at_call 61; (with_reducible refine (MP.out m.who _ HOK.out HMQ.out _ H).mono ?_); rintro e wm ⟨rfl, hbm⟩))
        go_meet
        exact ⟨ret_val (by rw [← HP2.out, HQ.out]; rfl), hbm⟩
      case true =>
        have HQ : Hid (p2R m = true) := hid (by unfold p2R; rw [HR0.out]; exact HMQ.out)
        have a1 : w3.cell? ⟨w.heap.size, 1, none⟩ = some (.int .u16 m.who.1) := (HX.out _ HB.out).cell rfl
        have a2 : w3.cell? ⟨w.heap.size, 2, none⟩ = some (.int .u32 m.who.2) := (HX.out _ HB.out).cell rfl
        go_wp2_with (first
          | (go_at_call 34; (with_reducible refine (rhas0 HSF HR0).mono ?_); rintro e wz ⟨rfl, rfl⟩)
          | (go_at_call 61; (with_reducible refine (MP.out m.who _ HOK.out HMQ.out _ H).mono ?_); rintro e wm ⟨rfl, hbm⟩))
        go_meet
        exact ⟨ret_val (by rw [← HP2.out, HQ.out]; rfl), hbm⟩
  case rest =>
  obtain ⟨rfl, hb'⟩ := hcut
  rename World => w4
  clear HB
  have HB := hid hb'
  clear hb'
  cases p2
  case false =>
    have HE := hid (HB1.out.trans (HB.out.mono HB1.out.size))
    go_wp2
    go_ret
    exact ⟨by rw [HM.out]; simp, HE.out⟩
  go_upto_region 6 with fail
  go_cut [107] (fun s wx => s = .bool (!p3) ∧ Below W1.heap.size W1 wx)
  case first => as_aux_lemma =>
    have H := HB.out
    have hpat := HPAT.out
    simp only [List.mem_cons, List.not_mem_nil, or_false, Prod.mk.injEq] at hpat
    rcases hpat with ⟨rfl, rfl, rfl, rfl, rfl⟩ | ⟨rfl, rfl, rfl, rfl, rfl⟩ | ⟨rfl, rfl, rfl, rfl, rfl⟩ | ⟨rfl, rfl, rfl, rfl, rfl⟩ | ⟨rfl, rfl, rfl, rfl, rfl⟩ | ⟨rfl, rfl, rfl, rfl, rfl⟩ | ⟨rfl, rfl, rfl, rfl, rfl⟩ | ⟨rfl, rfl, rfl, rfl, rfl⟩
    · by_cases g1 : m.sl = 0
      · have HQ : Hid (p3R m = true) := hid (by unfold p3R; simp only [HR1.out, HR2.out, HR4.out, HR5.out, HR9.out, Bool.true_or, Bool.false_or, Bool.true_and, Bool.and_true, decide_eq_true_eq]; omega)
        have a4 : w4.cell? ⟨w.heap.size, 4, none⟩ = some (.int .u64 m.sl) := (HX.out _ HB.out).cell rfl
        have t91 : ((m.sl : Int) != 0) = false := by simp only [bne_eq_false_iff_eq]; omega
        clear g1
        go_wp2_with (first
          | (go_at_call 34; (with_reducible refine (rhas1 HSF HR1).mono ?_); rintro e wz ⟨rfl, rfl⟩)
          | (go_at_call 34; (with_reducible refine (rhas2 HSF HR2).mono ?_); rintro e wz ⟨rfl, rfl⟩)
          | (go_at_call 34; (with_reducible refine (rhas4 HSF HR4).mono ?_); rintro e wz ⟨rfl, rfl⟩)
          | (go_at_call 34; (with_reducible refine (rhas5 HSF HR5).mono ?_); rintro e wz ⟨rfl, rfl⟩)
          | (go_at_call 34; (with_reducible refine (rhas9 HSF HR9).mono ?_); rintro e wz ⟨rfl, rfl⟩))
        go_meet
        exact ⟨ret_val (by rw [← HP3.out, HQ.out]; rfl), H⟩
      · have HQ : Hid (p3R m = false) := hid (by unfold p3R; simp only [HR1.out, HR2.out, HR4.out, HR5.out, HR9.out, Bool.true_or, Bool.false_or, Bool.true_and, Bool.and_true, decide_eq_false_iff_not]; omega)
        have a4 : w4.cell? ⟨w.heap.size, 4, none⟩ = some (.int .u64 m.sl) := (HX.out _ HB.out).cell rfl
        have t92 : ((m.sl : Int) != 0) = true := by simp only [bne_iff_ne, ne_eq]; omega
        clear g1
        go_wp2_with (first
          | (go_at_call 34; (with_reducible refine (rhas1 HSF HR1).mono ?_); rintro e wz ⟨rfl, rfl⟩)
          | (go_at_call 34; (with_reducible refine (rhas2 HSF HR2).mono ?_); rintro e wz ⟨rfl, rfl⟩)
          | (go_at_call 34; (with_reducible refine (rhas4 HSF HR4).mono ?_); rintro e wz ⟨rfl, rfl⟩)
          | (go_at_call 34; (with_reducible refine (rhas5 HSF HR5).mono ?_); rintro e wz ⟨rfl, rfl⟩)
          | (go_at_call 34; (with_reducible refine (rhas9 HSF HR9).mono ?_); rintro e wz ⟨rfl, rfl⟩))
        go_meet
        exact ⟨ret_val (by rw [← HP3.out, HQ.out]; rfl), H⟩
    · by_cases g0 : m.vw = 0
      · by_cases g2 : m.num = 0
        · by_cases g4 : m.y.length = 0
          · have HQ : Hid (p3R m = true) := hid (by unfold p3R; simp only [HR1.out, HR2.out, HR4.out, HR5.out, HR9.out, Bool.true_or, Bool.false_or, Bool.true_and, Bool.and_eq_true, decide_eq_true_eq]; omega)
            have a3 : w4.cell? ⟨w.heap.size, 3, none⟩ = some (.int .u64 m.vw) := (HX.out _ HB.out).cell rfl
            have a5 : w4.cell? ⟨w.heap.size, 5, none⟩ = some (.int .u64 m.num) := (HX.out _ HB.out).cell rfl
            have a28 : w4.cell? ⟨w.heap.size, 28, none⟩ = some (.slice A.ya m.y.length A.yc) := (HX.out _ HB.out).cell rfl
            have t94 : ((m.vw : Int) != 0) = false := by simp only [bne_eq_false_iff_eq]; omega
            have t95 : ((m.num : Int) != 0) = false := by simp only [bne_eq_false_iff_eq]; omega
            have t96 : decide (m.y.length > 0) = false := decide_eq_false (by omega)
            have t97 : decide (0 < m.y.length) = false := decide_eq_false (by omega)
            have t98 : decide ((m.y.length : Int) > 0) = false := decide_eq_false (by omega)
            have t99 : decide ((0 : Int) < (m.y.length : Int)) = false := decide_eq_false (by omega)
            clear g0 g2 g4
            go_wp2_with (first
              | (go_at_call 34; (with_reducible refine (rhas1 HSF HR1).mono ?_); rintro e wz ⟨rfl, rfl⟩)
              | (go_at_call 34; (with_reducible refine (rhas2 HSF HR2).mono ?_); rintro e wz ⟨rfl, rfl⟩)
              | (go_at_call 34; (with_reducible refine (rhas4 HSF HR4).mono ?_); rintro e wz ⟨rfl, rfl⟩)
              | (go_at_call 34; (with_reducible refine (rhas5 HSF HR5).mono ?_); rintro e wz ⟨rfl, rfl⟩)
              | (go_at_call 34; (with_reducible refine (rhas9 HSF HR9).mono ?_); rintro e wz ⟨rfl, rfl⟩))
            go_meet
            exact ⟨ret_val (by rw [← HP3.out, HQ.out]; rfl), H⟩
          · have HQ : Hid (p3R m = false) := hid (by unfold p3R; simp only [HR1.out, HR2.out, HR4.out, HR5.out, HR9.out, Bool.true_or, Bool.false_or, Bool.true_and, Bool.and_eq_false_iff, decide_eq_false_iff_not]; omega)
            have a3 : w4.cell? ⟨w.heap.size, 3, none⟩ = some (.int .u64 m.vw) := (HX.out _ HB.out).cell rfl
            have a5 : w4.cell? ⟨w.heap.size, 5, none⟩ = some (.int .u64 m.num) := (HX.out _ HB.out).cell rfl
            have a28 : w4.cell? ⟨w.heap.size, 28, none⟩ = some (.slice A.ya m.y.length A.yc) := (HX.out _ HB.out).cell rfl
            have t94 : ((m.vw : Int) != 0) = false := by simp only [bne_eq_false_iff_eq]; omega
            have t95 : ((m.num : Int) != 0) = false := by simp only [bne_eq_false_iff_eq]; omega
            have t100 : decide (m.y.length > 0) = true := decide_eq_true (by omega)
            have t101 : decide (0 < m.y.length) = true := decide_eq_true (by omega)
            have t102 : decide ((m.y.length : Int) > 0) = true := decide_eq_true (by omega)
            have t103 : decide ((0 : Int) < (m.y.length : Int)) = true := decide_eq_true (by omega)
            clear g0 g2 g4
            go_wp2_with (first
              | (go_at_call 34; (with_reducible refine (rhas1 HSF HR1).mono ?_); rintro e wz ⟨rfl, rfl⟩)
              | (go_at_call 34; (with_reducible refine (rhas2 HSF HR2).mono ?_); rintro e wz ⟨rfl, rfl⟩)
              | (go_at_call 34; (with_reducible refine (rhas4 HSF HR4).mono ?_); rintro e wz ⟨rfl, rfl⟩)
              | (go_at_call 34; (with_reducible refine (rhas5 HSF HR5).mono ?_); rintro e wz ⟨rfl, rfl⟩)
              | (go_at_call 34; (with_reducible refine (rhas9 HSF HR9).mono ?_); rintro e wz ⟨rfl, rfl⟩))
            go_meet
            exact ⟨ret_val (by rw [← HP3.out, HQ.out]; rfl), H⟩
        · have HQ : Hid (p3R m = false) := hid (by unfold p3R; simp only [HR1.out, HR2.out, HR4.out, HR5.out, HR9.out, Bool.true_or, Bool.false_or, Bool.true_and, Bool.and_eq_false_iff, decide_eq_false_iff_not]; omega)
          have a3 : w4.cell? ⟨w.heap.size, 3, none⟩ = some (.int .u64 m.vw) := (HX.out _ HB.out).cell rfl
          have a5 : w4.cell? ⟨w.heap.size, 5, none⟩ = some (.int .u64 m.num) := (HX.out _ HB.out).cell rfl
          have t93 : ((m.vw : Int) != 0) = false := by simp only [bne_eq_false_iff_eq]; omega
          have t104 : ((m.num : Int) != 0) = true := by simp only [bne_iff_ne, ne_eq]; omega
          clear g0 g2
          go_wp2_with (first
            | (go_at_call 34; (with_reducible refine (rhas1 HSF HR1).mono ?_); rintro e wz ⟨rfl, rfl⟩)
            | (go_at_call 34; (with_reducible refine (rhas2 HSF HR2).mono ?_); rintro e wz ⟨rfl, rfl⟩)
            | (go_at_call 34; (with_reducible refine (rhas4 HSF HR4).mono ?_); rintro e wz ⟨rfl, rfl⟩)
            | (go_at_call 34; (with_reducible refine (rhas5 HSF HR5).mono ?_); rintro e wz ⟨rfl, rfl⟩)
            | (go_at_call 34; (with_reducible refine (rhas9 HSF HR9).mono ?_); rintro e wz ⟨rfl, rfl⟩))
          go_meet
          exact ⟨ret_val (by rw [← HP3.out, HQ.out]; rfl), H⟩
      · have HQ : Hid (p3R m = false) := hid (by unfold p3R; simp only [HR1.out, HR2.out, HR4.out, HR5.out, HR9.out, Bool.true_or, Bool.false_or, Bool.true_and, Bool.and_eq_false_iff, decide_eq_false_iff_not]; omega)
        have a3 : w4.cell? ⟨w.heap.size, 3, none⟩ = some (.int .u64 m.vw) := (HX.out _ HB.out).cell rfl
        have t105 : ((m.vw : Int) != 0) = true := by simp only [bne_iff_ne, ne_eq]; omega
        clear g0
        go_wp2_with (first
          | (go_at_call 34; (with_reducible refine (rhas1 HSF HR1).mono ?_); rintro e wz ⟨rfl, rfl⟩)
          | (go_at_call 34; (with_reducible refine (rhas2 HSF HR2).mono ?_); rintro e wz ⟨rfl, rfl⟩)
          | (go_at_call 34; (with_reducible refine (rhas4 HSF HR4).mono ?_); rintro e wz ⟨rfl, rfl⟩)
          | (go_at_call 34; (with_reducible refine (rhas5 HSF HR5).mono ?_); rintro e wz ⟨rfl, rfl⟩)
          | (go_at_call 34; (with_reducible refine (rhas9 HSF HR9).mono ?_); rintro e wz ⟨rfl, rfl⟩))
        go_meet
        exact ⟨ret_val (by rw [← HP3.out, HQ.out]; rfl), H⟩
    · by_cases g0 : m.vw = 0
      · by_cases g2 : m.num = 0
        · by_cases g3 : m.hops = 0
          · by_cases g4 : m.y.length = 0
            · have HQ : Hid (p3R m = true) := hid (by unfold p3R; simp only [HR1.out, HR2.out, HR4.out, HR5.out, HR9.out, Bool.true_or, Bool.false_or, Bool.true_and, Bool.and_eq_true, decide_eq_true_eq]; omega)
              have a3 : w4.cell? ⟨w.heap.size, 3, none⟩ = some (.int .u64 m.vw) := (HX.out _ HB.out).cell rfl
              have a5 : w4.cell? ⟨w.heap.size, 5, none⟩ = some (.int .u64 m.num) := (HX.out _ HB.out).cell rfl
              have a6 : w4.cell? ⟨w.heap.size, 6, none⟩ = some (.int .i64 m.hops) := (HX.out _ HB.out).cell rfl
              have a28 : w4.cell? ⟨w.heap.size, 28, none⟩ = some (.slice A.ya m.y.length A.yc) := (HX.out _ HB.out).cell rfl
              have t109 : ((m.vw : Int) != 0) = false := by simp only [bne_eq_false_iff_eq]; omega
              have t110 : ((m.num : Int) != 0) = false := by simp only [bne_eq_false_iff_eq]; omega
              have t111 : (m.hops != 0) = false := by simp only [bne_eq_false_iff_eq]; omega
              have t112 : decide (m.y.length > 0) = false := decide_eq_false (by omega)
              have t113 : decide (0 < m.y.length) = false := decide_eq_false (by omega)
              have t114 : decide ((m.y.length : Int) > 0) = false := decide_eq_false (by omega)
              have t115 : decide ((0 : Int) < (m.y.length : Int)) = false := decide_eq_false (by omega)
              clear g0 g2 g3 g4
              go_wp2_with (first
                | (go_at_call 34; (with_reducible refine (rhas1 HSF HR1).mono ?_); rintro e wz ⟨rfl, rfl⟩)
                | (go_at_call 34; (with_reducible refine (rhas2 HSF HR2).mono ?_); rintro e wz ⟨rfl, rfl⟩)
                | (go_at_call 34; (with_reducible refine (rhas4 HSF HR4).mono ?_); rintro e wz ⟨rfl, rfl⟩)
                | (go_at_call 34; (with_reducible refine (rhas5 HSF HR5).mono ?_); rintro e wz ⟨rfl, rfl⟩)
                | (go_at_call 34; (with_reducible refine (rhas9 HSF HR9).mono ?_); rintro e wz ⟨rfl, rfl⟩))
              go_meet
              exact ⟨ret_val (by rw [← HP3.out, HQ.out]; rfl), H⟩
            · have HQ : Hid (p3R m = false) := hid (by unfold p3R; simp only [HR1.out, HR2.out, HR4.out, HR5.out, HR9.out, Bool.true_or, Bool.false_or, Bool.true_and, Bool.and_eq_false_iff, decide_eq_false_iff_not]; omega)
              have a3 : w4.cell? ⟨w.heap.size, 3, none⟩ = some (.int .u64 m.vw) := (HX.out _ HB.out).cell rfl
              have a5 : w4.cell? ⟨w.heap.size, 5, none⟩ = some (.int .u64 m.num) := (HX.out _ HB.out).cell rfl
              have a6 : w4.cell? ⟨w.heap.size, 6, none⟩ = some (.int .i64 m.hops) := (HX.out _ HB.out).cell rfl
              have a28 : w4.cell? ⟨w.heap.size, 28, none⟩ = some (.slice A.ya m.y.length A.yc) := (HX.out _ HB.out).cell rfl
              have t109 : ((m.vw : Int) != 0) = false := by simp only [bne_eq_false_iff_eq]; omega
              have t110 : ((m.num : Int) != 0) = false := by simp only [bne_eq_false_iff_eq]; omega
              have t111 : (m.hops != 0) = false := by simp only [bne_eq_false_iff_eq]; omega
              have t116 : decide (m.y.length > 0) = true := decide_eq_true (by omega)
              have t117 : decide (0 < m.y.length) = true := decide_eq_true (by omega)
              have t118 : decide ((m.y.length : Int) > 0) = true := decide_eq_true (by omega)
              have t119 : decide ((0 : Int) < (m.y.length : Int)) = true := decide_eq_true (by omega)
              clear g0 g2 g3 g4
              go_wp2_with (first
                | (go_at_call 34; (with_reducible refine (rhas1 HSF HR1).mono ?_); rintro e wz ⟨rfl, rfl⟩)
                | (go_at_call 34; (with_reducible refine (rhas2 HSF HR2).mono ?_); rintro e wz ⟨rfl, rfl⟩)
                | (go_at_call 34; (with_reducible refine (rhas4 HSF HR4).mono ?_); rintro e wz ⟨rfl, rfl⟩)
                | (go_at_call 34; (with_reducible refine (rhas5 HSF HR5).mono ?_); rintro e wz ⟨rfl, rfl⟩)
                | (go_at_call 34; (with_reducible refine (rhas9 HSF HR9).mono ?_); rintro e wz ⟨rfl, rfl⟩))
              go_meet
              exact ⟨ret_val (by rw [← HP3.out, HQ.out]; rfl), H⟩
          · have HQ : Hid (p3R m = false) := hid (by unfold p3R; simp only [HR1.out, HR2.out, HR4.out, HR5.out, HR9.out, Bool.true_or, Bool.false_or, Bool.true_and, Bool.and_eq_false_iff, decide_eq_false_iff_not]; omega)
            have a3 : w4.cell? ⟨w.heap.size, 3, none⟩ = some (.int .u64 m.vw) := (HX.out _ HB.out).cell rfl
            have a5 : w4.cell? ⟨w.heap.size, 5, none⟩ = some (.int .u64 m.num) := (HX.out _ HB.out).cell rfl
            have a6 : w4.cell? ⟨w.heap.size, 6, none⟩ = some (.int .i64 m.hops) := (HX.out _ HB.out).cell rfl
            have t107 : ((m.vw : Int) != 0) = false := by simp only [bne_eq_false_iff_eq]; omega
            have t108 : ((m.num : Int) != 0) = false := by simp only [bne_eq_false_iff_eq]; omega
            have t120 : (m.hops != 0) = true := by simp only [bne_iff_ne, ne_eq]; omega
            clear g0 g2 g3
            go_wp2_with (first
              | (go_at_call 34; (with_reducible refine (rhas1 HSF HR1).mono ?_); rintro e wz ⟨rfl, rfl⟩)
              | (go_at_call 34; (with_reducible refine (rhas2 HSF HR2).mono ?_); rintro e wz ⟨rfl, rfl⟩)
              | (go_at_call 34; (with_reducible refine (rhas4 HSF HR4).mono ?_); rintro e wz ⟨rfl, rfl⟩)
              | (go_at_call 34; (with_reducible refine (rhas5 HSF HR5).mono ?_); rintro e wz ⟨rfl, rfl⟩)
              | (go_at_call 34; (with_reducible refine (rhas9 HSF HR9).mono ?_); rintro e wz ⟨rfl, rfl⟩))
            go_meet
            exact ⟨ret_val (by rw [← HP3.out, HQ.out]; rfl), H⟩
        · have HQ : Hid (p3R m = false) := hid (by unfold p3R; simp only [HR1.out, HR2.out, HR4.out, HR5.out, HR9.out, Bool.true_or, Bool.false_or, Bool.true_and, Bool.and_eq_false_iff, decide_eq_false_iff_not]; omega)
          have a3 : w4.cell? ⟨w.heap.size, 3, none⟩ = some (.int .u64 m.vw) := (HX.out _ HB.out).cell rfl
          have a5 : w4.cell? ⟨w.heap.size, 5, none⟩ = some (.int .u64 m.num) := (HX.out _ HB.out).cell rfl
          have t106 : ((m.vw : Int) != 0) = false := by simp only [bne_eq_false_iff_eq]; omega
          have t121 : ((m.num : Int) != 0) = true := by simp only [bne_iff_ne, ne_eq]; omega
          clear g0 g2
          go_wp2_with (first
            | (go_at_call 34; (with_reducible refine (rhas1 HSF HR1).mono ?_); rintro e wz ⟨rfl, rfl⟩)
            | (go_at_call 34; (with_reducible refine (rhas2 HSF HR2).mono ?_); rintro e wz ⟨rfl, rfl⟩)
            | (go_at_call 34; (with_reducible refine (rhas4 HSF HR4).mono ?_); rintro e wz ⟨rfl, rfl⟩)
            | (go_at_call 34; (with_reducible refine (rhas5 HSF HR5).mono ?_); rintro e wz ⟨rfl, rfl⟩)
            | (go_at_call 34; (with_reducible refine (rhas9 HSF HR9).mono ?_); rintro e wz ⟨rfl, rfl⟩))
          go_meet
          exact ⟨ret_val (by rw [← HP3.out, HQ.out]; rfl), H⟩
      · have HQ : Hid (p3R m = false) := hid (by unfold p3R; simp only [HR1.out, HR2.out, HR4.out, HR5.out, HR9.out, Bool.true_or, Bool.false_or, Bool.true_and, Bool.and_eq_false_iff, decide_eq_false_iff_not]; omega)
        have a3 : w4.cell? ⟨w.heap.size, 3, none⟩ = some (.int .u64 m.vw) := (HX.out _ HB.out).cell rfl
        have t122 : ((m.vw : Int) != 0) = true := by simp only [bne_iff_ne, ne_eq]; omega
        clear g0
        go_wp2_with (first
          | (go_at_call 34; (with_reducible refine (rhas1 HSF HR1).mono ?_); rintro e wz ⟨rfl, rfl⟩)
          | (go_at_call 34; (with_reducible refine (rhas2 HSF HR2).mono ?_); rintro e wz ⟨rfl, rfl⟩)
          | (go_at_call 34; (with_reducible refine (rhas4 HSF HR4).mono ?_); rintro e wz ⟨rfl, rfl⟩)
          | (go_at_call 34; (with_reducible refine (rhas5 HSF HR5).mono ?_); rintro e wz ⟨rfl, rfl⟩)
          | (go_at_call 34; (with_reducible refine (rhas9 HSF HR9).mono ?_); rintro e wz ⟨rfl, rfl⟩))
        go_meet
        exact ⟨ret_val (by rw [← HP3.out, HQ.out]; rfl), H⟩
    · by_cases g1 : m.sl = 0
      · by_cases g2 : m.num = 0
        · by_cases g4 : m.y.length = 0
          · have HQ : Hid (p3R m = true) := hid (by unfold p3R; simp only [HR1.out, HR2.out, HR4.out, HR5.out, HR9.out, Bool.true_or, Bool.false_or, Bool.true_and, Bool.and_eq_true, decide_eq_true_eq]; omega)
            have a4 : w4.cell? ⟨w.heap.size, 4, none⟩ = some (.int .u64 m.sl) := (HX.out _ HB.out).cell rfl
            have a5 : w4.cell? ⟨w.heap.size, 5, none⟩ = some (.int .u64 m.num) := (HX.out _ HB.out).cell rfl
            have a28 : w4.cell? ⟨w.heap.size, 28, none⟩ = some (.slice A.ya m.y.length A.yc) := (HX.out _ HB.out).cell rfl
            have t124 : ((m.sl : Int) != 0) = false := by simp only [bne_eq_false_iff_eq]; omega
            have t125 : ((m.num : Int) != 0) = false := by simp only [bne_eq_false_iff_eq]; omega
            have t126 : decide (m.y.length > 0) = false := decide_eq_false (by omega)
            have t127 : decide (0 < m.y.length) = false := decide_eq_false (by omega)
            have t128 : decide ((m.y.length : Int) > 0) = false := decide_eq_false (by omega)
            have t129 : decide ((0 : Int) < (m.y.length : Int)) = false := decide_eq_false (by omega)
            clear g1 g2 g4
            go_wp2_with (first
              | (go_at_call 34; (with_reducible refine (rhas1 HSF HR1).mono ?_); rintro e wz ⟨rfl, rfl⟩)
              | (go_at_call 34; (with_reducible refine (rhas2 HSF HR2).mono ?_); rintro e wz ⟨rfl, rfl⟩)
              | (go_at_call 34; (with_reducible refine (rhas4 HSF HR4).mono ?_); rintro e wz ⟨rfl, rfl⟩)
              | (go_at_call 34; (with_reducible refine (rhas5 HSF HR5).mono ?_); rintro e wz ⟨rfl, rfl⟩)
              | (go_at_call 34; (with_reducible refine (rhas9 HSF HR9).mono ?_); rintro e wz ⟨rfl, rfl⟩))
            go_meet
            exact ⟨ret_val (by rw [← HP3.out, HQ.out]; rfl), H⟩
          · have HQ : Hid (p3R m = false) := hid (by unfold p3R; simp only [HR1.out, HR2.out, HR4.out, HR5.out, HR9.out, Bool.true_or, Bool.false_or, Bool.true_and, Bool.and_eq_false_iff, decide_eq_false_iff_not]; omega)
            have a4 : w4.cell? ⟨w.heap.size, 4, none⟩ = some (.int .u64 m.sl) := (HX.out _ HB.out).cell rfl
            have a5 : w4.cell? ⟨w.heap.size, 5, none⟩ = some (.int .u64 m.num) := (HX.out _ HB.out).cell rfl
            have a28 : w4.cell? ⟨w.heap.size, 28, none⟩ = some (.slice A.ya m.y.length A.yc) := (HX.out _ HB.out).cell rfl
            have t124 : ((m.sl : Int) != 0) = false := by simp only [bne_eq_false_iff_eq]; omega
            have t125 : ((m.num : Int) != 0) = false := by simp only [bne_eq_false_iff_eq]; omega
            have t130 : decide (m.y.length > 0) = true := decide_eq_true (by omega)
            have t131 : decide (0 < m.y.length) = true := decide_eq_true (by omega)
            have t132 : decide ((m.y.length : Int) > 0) = true := decide_eq_true (by omega)
            have t133 : decide ((0 : Int) < (m.y.length : Int)) = true := decide_eq_true (by omega)
            clear g1 g2 g4
            go_wp2_with (first
              | (go_at_call 34; (with_reducible refine (rhas1 HSF HR1).mono ?_); rintro e wz ⟨rfl, rfl⟩)
              | (go_at_call 34; (with_reducible refine (rhas2 HSF HR2).mono ?_); rintro e wz ⟨rfl, rfl⟩)
              | (go_at_call 34; (with_reducible refine (rhas4 HSF HR4).mono ?_); rintro e wz ⟨rfl, rfl⟩)
              | (go_at_call 34; (with_reducible refine (rhas5 HSF HR5).mono ?_); rintro e wz ⟨rfl, rfl⟩)
              | (go_at_call 34; (with_reducible refine (rhas9 HSF HR9).mono ?_); rintro e wz ⟨rfl, rfl⟩))
            go_meet
            exact ⟨ret_val (by rw [← HP3.out, HQ.out]; rfl), H⟩
        · have HQ : Hid (p3R m = false) := hid (by unfold p3R; simp only [HR1.out, HR2.out, HR4.out, HR5.out, HR9.out, Bool.true_or, Bool.false_or, Bool.true_and, Bool.and_eq_false_iff, decide_eq_false_iff_not]; omega)
          have a4 : w4.cell? ⟨w.heap.size, 4, none⟩ = some (.int .u64 m.sl) := (HX.out _ HB.out).cell rfl
          have a5 : w4.cell? ⟨w.heap.size, 5, none⟩ = some (.int .u64 m.num) := (HX.out _ HB.out).cell rfl
          have t123 : ((m.sl : Int) != 0) = false := by simp only [bne_eq_false_iff_eq]; omega
          have t134 : ((m.num : Int) != 0) = true := by simp only [bne_iff_ne, ne_eq]; omega
          clear g1 g2
          go_wp2_with (first
            | (go_at_call 34; (with_reducible refine (rhas1 HSF HR1).mono ?_); rintro e wz ⟨rfl, rfl⟩)
            | (go_at_call 34; (with_reducible refine (rhas2 HSF HR2).mono ?_); rintro e wz ⟨rfl, rfl⟩)
            | (go_at_call 34; (with_reducible refine (rhas4 HSF HR4).mono ?_); rintro e wz ⟨rfl, rfl⟩)
            | (go_at_call 34; (with_reducible refine (rhas5 HSF HR5).mono ?_); rintro e wz ⟨rfl, rfl⟩)
            | (go_at_call 34; (with_reducible refine (rhas9 HSF HR9).mono ?_); rintro e wz ⟨rfl, rfl⟩))
          go_meet
          exact ⟨ret_val (by rw [← HP3.out, HQ.out]; rfl), H⟩
      · have HQ : Hid (p3R m = false) := hid (by unfold p3R; simp only [HR1.out, HR2.out, HR4.out, HR5.out, HR9.out, Bool.true_or, Bool.false_or, Bool.true_and, Bool.and_eq_false_iff, decide_eq_false_iff_not]; omega)
        have a4 : w4.cell? ⟨w.heap.size, 4, none⟩ = some (.int .u64 m.sl) := (HX.out _ HB.out).cell rfl
        have t135 : ((m.sl : Int) != 0) = true := by simp only [bne_iff_ne, ne_eq]; omega
        clear g1
        go_wp2_with (first
          | (go_at_call 34; (with_reducible refine (rhas1 HSF HR1).mono ?_); rintro e wz ⟨rfl, rfl⟩)
          | (go_at_call 34; (with_reducible refine (rhas2 HSF HR2).mono ?_); rintro e wz ⟨rfl, rfl⟩)
          | (go_at_call 34; (with_reducible refine (rhas4 HSF HR4).mono ?_); rintro e wz ⟨rfl, rfl⟩)
          | (go_at_call 34; (with_reducible refine (rhas5 HSF HR5).mono ?_); rintro e wz ⟨rfl, rfl⟩)
          | (go_at_call 34; (with_reducible refine (rhas9 HSF HR9).mono ?_); rintro e wz ⟨rfl, rfl⟩))
        go_meet
        exact ⟨ret_val (by rw [← HP3.out, HQ.out]; rfl), H⟩
    · by_cases g1 : m.sl = 0
      · by_cases g4 : m.y.length = 0
        · have HQ : Hid (p3R m = true) := hid (by unfold p3R; simp only [HR1.out, HR2.out, HR4.out, HR5.out, HR9.out, Bool.true_or, Bool.false_or, Bool.true_and, Bool.and_eq_true, decide_eq_true_eq]; omega)
          have a4 : w4.cell? ⟨w.heap.size, 4, none⟩ = some (.int .u64 m.sl) := (HX.out _ HB.out).cell rfl
          have a28 : w4.cell? ⟨w.heap.size, 28, none⟩ = some (.slice A.ya m.y.length A.yc) := (HX.out _ HB.out).cell rfl
          have t136 : ((m.sl : Int) != 0) = false := by simp only [bne_eq_false_iff_eq]; omega
          have t137 : decide (m.y.length > 0) = false := decide_eq_false (by omega)
          have t138 : decide (0 < m.y.length) = false := decide_eq_false (by omega)
          have t139 : decide ((m.y.length : Int) > 0) = false := decide_eq_false (by omega)
          have t140 : decide ((0 : Int) < (m.y.length : Int)) = false := decide_eq_false (by omega)
          clear g1 g4
          go_wp2_with (first
            | (go_at_call 34; (with_reducible refine (rhas1 HSF HR1).mono ?_); rintro e wz ⟨rfl, rfl⟩)
            | (go_at_call 34; (with_reducible refine (rhas2 HSF HR2).mono ?_); rintro e wz ⟨rfl, rfl⟩)
            | (go_at_call 34; (with_reducible refine (rhas4 HSF HR4).mono ?_); rintro e wz ⟨rfl, rfl⟩)
            | (go_at_call 34; (with_reducible refine (rhas5 HSF HR5).mono ?_); rintro e wz ⟨rfl, rfl⟩)
            | (go_at_call 34; (with_reducible refine (rhas9 HSF HR9).mono ?_); rintro e wz ⟨rfl, rfl⟩))
          go_meet
          exact ⟨ret_val (by rw [← HP3.out, HQ.out]; rfl), H⟩
        · have HQ : Hid (p3R m = false) := hid (by unfold p3R; simp only [HR1.out, HR2.out, HR4.out, HR5.out, HR9.out, Bool.true_or, Bool.false_or, Bool.true_and, Bool.and_eq_false_iff, decide_eq_false_iff_not]; omega)
          have a4 : w4.cell? ⟨w.heap.size, 4, none⟩ = some (.int .u64 m.sl) := (HX.out _ HB.out).cell rfl
          have a28 : w4.cell? ⟨w.heap.size, 28, none⟩ = some (.slice A.ya m.y.length A.yc) := (HX.out _ HB.out).cell rfl
          have t136 : ((m.sl : Int) != 0) = false := by simp only [bne_eq_false_iff_eq]; omega
          have t141 : decide (m.y.length > 0) = true := decide_eq_true (by omega)
          have t142 : decide (0 < m.y.length) = true := decide_eq_true (by omega)
          have t143 : decide ((m.y.length : Int) > 0) = true := decide_eq_true (by omega)
          have t144 : decide ((0 : Int) < (m.y.length : Int)) = true := decide_eq_true (by omega)
          clear g1 g4
          go_wp2_with (first
            | (go_at_call 34; (with_reducible refine (rhas1 HSF HR1).mono ?_); rintro e wz ⟨rfl, rfl⟩)
            | (go_at_call 34; (with_reducible refine (rhas2 HSF HR2).mono ?_); rintro e wz ⟨rfl, rfl⟩)
            | (go_at_call 34; (with_reducible refine (rhas4 HSF HR4).mono ?_); rintro e wz ⟨rfl, rfl⟩)
            | (go_at_call 34; (with_reducible refine (rhas5 HSF HR5).mono ?_); rintro e wz ⟨rfl, rfl⟩)
            | (go_at_call 34; (with_reducible refine (rhas9 HSF HR9).mono ?_); rintro e wz ⟨rfl, rfl⟩))
          go_meet
          exact ⟨ret_val (by rw [← HP3.out, HQ.out]; rfl), H⟩
      · have HQ : Hid (p3R m = false) := hid (by unfold p3R; simp only [HR1.out, HR2.out, HR4.out, HR5.out, HR9.out, Bool.true_or, Bool.false_or, Bool.true_and, Bool.and_eq_false_iff, decide_eq_false_iff_not]; omega)
        have a4 : w4.cell? ⟨w.heap.size, 4, none⟩ = some (.int .u64 m.sl) := (HX.out _ HB.out).cell rfl
        have t145 : ((m.sl : Int) != 0) = true := by simp only [bne_iff_ne, ne_eq]; omega
        clear g1
        go_wp2_with (first
          | (go_at_call 34; (with_reducible refine (rhas1 HSF HR1).mono ?_); rintro e wz ⟨rfl, rfl⟩)
          | (go_at_call 34; (with_reducible refine (rhas2 HSF HR2).mono ?_); rintro e wz ⟨rfl, rfl⟩)
          | (go_at_call 34; (with_reducible refine (rhas4 HSF HR4).mono ?_); rintro e wz ⟨rfl, rfl⟩)
          | (go_at_call 34; (with_reducible refine (rhas5 HSF HR5).mono ?_); rintro e wz ⟨rfl, rfl⟩)
          | (go_at_call 34; (with_reducible refine (rhas9 HSF HR9).mono ?_); rintro e wz ⟨rfl, rfl⟩))
        go_meet
        exact ⟨ret_val (by rw [← HP3.out, HQ.out]; rfl), H⟩
    · by_cases g0 : m.vw = 0
      · by_cases g1 : m.sl = 0
        · by_cases g2 : m.num = 0
          · by_cases g4 : m.y.length = 0
            · have HQ : Hid (p3R m = true) := hid (by unfold p3R; simp only [HR1.out, HR2.out, HR4.out, HR5.out, HR9.out, Bool.true_or, Bool.false_or, Bool.true_and, Bool.and_eq_true, decide_eq_true_eq]; omega)
              have a3 : w4.cell? ⟨w.heap.size, 3, none⟩ = some (.int .u64 m.vw) := (HX.out _ HB.out).cell rfl
              have a4 : w4.cell? ⟨w.heap.size, 4, none⟩ = some (.int .u64 m.sl) := (HX.out _ HB.out).cell rfl
              have a5 : w4.cell? ⟨w.heap.size, 5, none⟩ = some (.int .u64 m.num) := (HX.out _ HB.out).cell rfl
              have a28 : w4.cell? ⟨w.heap.size, 28, none⟩ = some (.slice A.ya m.y.length A.yc) := (HX.out _ HB.out).cell rfl
              have t149 : ((m.vw : Int) != 0) = false := by simp only [bne_eq_false_iff_eq]; omega
              have t150 : ((m.sl : Int) != 0) = false := by simp only [bne_eq_false_iff_eq]; omega
              have t151 : ((m.num : Int) != 0) = false := by simp only [bne_eq_false_iff_eq]; omega
              have t152 : decide (m.y.length > 0) = false := decide_eq_false (by omega)
              have t153 : decide (0 < m.y.length) = false := decide_eq_false (by omega)
              have t154 : decide ((m.y.length : Int) > 0) = false := decide_eq_false (by omega)
              have t155 : decide ((0 : Int) < (m.y.length : Int)) = false := decide_eq_false (by omega)
              clear g0 g1 g2 g4
              go_wp2_with (first
                | (go_at_call 34; (with_reducible refine (rhas1 HSF HR1).mono ?_); rintro e wz ⟨rfl, rfl⟩)
                | (go_at_call 34; (with_reducible refine (rhas2 HSF HR2).mono ?_); rintro e wz ⟨rfl, rfl⟩)
                | (go_at_call 34; (with_reducible refine (rhas4 HSF HR4).mono ?_); rintro e wz ⟨rfl, rfl⟩)
                | (go_at_call 34; (with_reducible refine (rhas5 HSF HR5).mono ?_); rintro e wz ⟨rfl, rfl⟩)
                | (go_at_call 34; (with_reducible refine (rhas9 HSF HR9).mono ?_); rintro e wz ⟨rfl, rfl⟩))
              go_meet
              exact ⟨ret_val (by rw [← HP3.out, HQ.out]; rfl), H⟩
            · have HQ : Hid (p3R m = false) := hid (by unfold p3R; simp only [HR1.out, HR2.out, HR4.out, HR5.out, HR9.out, Bool.true_or, Bool.false_or, Bool.true_and, Bool.and_eq_false_iff, decide_eq_false_iff_not]; omega)
              have a3 : w4.cell? ⟨w.heap.size, 3, none⟩ = some (.int .u64 m.vw) := (HX.out _ HB.out).cell rfl
              have a4 : w4.cell? ⟨w.heap.size, 4, none⟩ = some (.int .u64 m.sl) := (HX.out _ HB.out).cell rfl
              have a5 : w4.cell? ⟨w.heap.size, 5, none⟩ = some (.int .u64 m.num) := (HX.out _ HB.out).cell rfl
              have a28 : w4.cell? ⟨w.heap.size, 28, none⟩ = some (.slice A.ya m.y.length A.yc) := (HX.out _ HB.out).cell rfl
              have t149 : ((m.vw : Int) != 0) = false := by simp only [bne_eq_false_iff_eq]; omega
              have t150 : ((m.sl : Int) != 0) = false := by simp only [bne_eq_false_iff_eq]; omega
              have t151 : ((m.num : Int) != 0) = false := by simp only [bne_eq_false_iff_eq]; omega
              have t156 : decide (m.y.length > 0) = true := decide_eq_true (by omega)
              have t157 : decide (0 < m.y.length) = true := decide_eq_true (by omega)
              have t158 : decide ((m.y.length : Int) > 0) = true := decide_eq_true (by omega)
              have t159 : decide ((0 : Int) < (m.y.length : Int)) = true := decide_eq_true (by omega)
              clear g0 g1 g2 g4
              go_wp2_with (first
                | (go_at_call 34; (with_reducible refine (rhas1 HSF HR1).mono ?_); rintro e wz ⟨rfl, rfl⟩)
                | (go_at_call 34; (with_reducible refine (rhas2 HSF HR2).mono ?_); rintro e wz ⟨rfl, rfl⟩)
                | (go_at_call 34; (with_reducible refine (rhas4 HSF HR4).mono ?_); rintro e wz ⟨rfl, rfl⟩)
                | (go_at_call 34; (with_reducible refine (rhas5 HSF HR5).mono ?_); rintro e wz ⟨rfl, rfl⟩)
                | (go_at_call 34; (with_reducible refine (rhas9 HSF HR9).mono ?_); rintro e wz ⟨rfl, rfl⟩))
              go_meet
              exact ⟨ret_val (by rw [← HP3.out, HQ.out]; rfl), H⟩
          · have HQ : Hid (p3R m = false) := hid (by unfold p3R; simp only [HR1.out, HR2.out, HR4.out, HR5.out, HR9.out, Bool.true_or, Bool.false_or, Bool.true_and, Bool.and_eq_false_iff, decide_eq_false_iff_not]; omega)
            have a3 : w4.cell? ⟨w.heap.size, 3, none⟩ = some (.int .u64 m.vw) := (HX.out _ HB.out).cell rfl
            have a4 : w4.cell? ⟨w.heap.size, 4, none⟩ = some (.int .u64 m.sl) := (HX.out _ HB.out).cell rfl
            have a5 : w4.cell? ⟨w.heap.size, 5, none⟩ = some (.int .u64 m.num) := (HX.out _ HB.out).cell rfl
            have t147 : ((m.vw : Int) != 0) = false := by simp only [bne_eq_false_iff_eq]; omega
            have t148 : ((m.sl : Int) != 0) = false := by simp only [bne_eq_false_iff_eq]; omega
            have t160 : ((m.num : Int) != 0) = true := by simp only [bne_iff_ne, ne_eq]; omega
            clear g0 g1 g2
            go_wp2_with (first
              | (go_at_call 34; (with_reducible refine (rhas1 HSF HR1).mono ?_); rintro e wz ⟨rfl, rfl⟩)
              | (go_at_call 34; (with_reducible refine (rhas2 HSF HR2).mono ?_); rintro e wz ⟨rfl, rfl⟩)
              | (go_at_call 34; (with_reducible refine (rhas4 HSF HR4).mono ?_); rintro e wz ⟨rfl, rfl⟩)
              | (go_at_call 34; (with_reducible refine (rhas5 HSF HR5).mono ?_); rintro e wz ⟨rfl, rfl⟩)
              | (go_at_call 34; (with_reducible refine (rhas9 HSF HR9).mono ?_); rintro e wz ⟨rfl, rfl⟩))
            go_meet
            exact ⟨ret_val (by rw [← HP3.out, HQ.out]; rfl), H⟩
        · have HQ : Hid (p3R m = false) := hid (by unfold p3R; simp only [HR1.out, HR2.out, HR4.out, HR5.out, HR9.out, Bool.true_or, Bool.false_or, Bool.true_and, Bool.and_eq_false_iff, decide_eq_false_iff_not]; omega)
          have a3 : w4.cell? ⟨w.heap.size, 3, none⟩ = some (.int .u64 m.vw) := (HX.out _ HB.out).cell rfl
          have a4 : w4.cell? ⟨w.heap.size, 4, none⟩ = some (.int .u64 m.sl) := (HX.out _ HB.out).cell rfl
          have t146 : ((m.vw : Int) != 0) = false := by simp only [bne_eq_false_iff_eq]; omega
          have t161 : ((m.sl : Int) != 0) = true := by simp only [bne_iff_ne, ne_eq]; omega
          clear g0 g1
          go_wp2_with (first
            | (go_at_call 34; (with_reducible refine (rhas1 HSF HR1).mono ?_); rintro e wz ⟨rfl, rfl⟩)
            | (go_at_call 34; (with_reducible refine (rhas2 HSF HR2).mono ?_); rintro e wz ⟨rfl, rfl⟩)
            | (go_at_call 34; (with_reducible refine (rhas4 HSF HR4).mono ?_); rintro e wz ⟨rfl, rfl⟩)
            | (go_at_call 34; (with_reducible refine (rhas5 HSF HR5).mono ?_); rintro e wz ⟨rfl, rfl⟩)
            | (go_at_call 34; (with_reducible refine (rhas9 HSF HR9).mono ?_); rintro e wz ⟨rfl, rfl⟩))
          go_meet
          exact ⟨ret_val (by rw [← HP3.out, HQ.out]; rfl), H⟩
      · have HQ : Hid (p3R m = false) := hid (by unfold p3R; simp only [HR1.out, HR2.out, HR4.out, HR5.out, HR9.out, Bool.true_or, Bool.false_or, Bool.true_and, Bool.and_eq_false_iff, decide_eq_false_iff_not]; omega)
        have a3 : w4.cell? ⟨w.heap.size, 3, none⟩ = some (.int .u64 m.vw) := (HX.out _ HB.out).cell rfl
        have t162 : ((m.vw : Int) != 0) = true := by simp only [bne_iff_ne, ne_eq]; omega
        clear g0
        go_wp2_with (first
          | (go_at_call 34; (with_reducible refine (rhas1 HSF HR1).mono ?_); rintro e wz ⟨rfl, rfl⟩)
          | (go_at_call 34; (with_reducible refine (rhas2 HSF HR2).mono ?_); rintro e wz ⟨rfl, rfl⟩)
          | (go_at_call 34; (with_reducible refine (rhas4 HSF HR4).mono ?_); rintro e wz ⟨rfl, rfl⟩)
          | (go_at_call 34; (with_reducible refine (rhas5 HSF HR5).mono ?_); rintro e wz ⟨rfl, rfl⟩)
          | (go_at_call 34; (with_reducible refine (rhas9 HSF HR9).mono ?_); rintro e wz ⟨rfl, rfl⟩))
        go_meet
        exact ⟨ret_val (by rw [← HP3.out, HQ.out]; rfl), H⟩
    · by_cases g0 : m.vw = 0
      · by_cases g2 : m.num = 0
        · by_cases g3 : m.hops = 0
          · have HQ : Hid (p3R m = true) := hid (by unfold p3R; simp only [HR1.out, HR2.out, HR4.out, HR5.out, HR9.out, Bool.true_or, Bool.false_or, Bool.true_and, Bool.and_true, Bool.and_eq_true, decide_eq_true_eq]; omega)
            have a3 : w4.cell? ⟨w.heap.size, 3, none⟩ = some (.int .u64 m.vw) := (HX.out _ HB.out).cell rfl
            have a5 : w4.cell? ⟨w.heap.size, 5, none⟩ = some (.int .u64 m.num) := (HX.out _ HB.out).cell rfl
            have a6 : w4.cell? ⟨w.heap.size, 6, none⟩ = some (.int .i64 m.hops) := (HX.out _ HB.out).cell rfl
            have t164 : ((m.vw : Int) != 0) = false := by simp only [bne_eq_false_iff_eq]; omega
            have t165 : ((m.num : Int) != 0) = false := by simp only [bne_eq_false_iff_eq]; omega
            have t166 : (m.hops != 0) = false := by simp only [bne_eq_false_iff_eq]; omega
            clear g0 g2 g3
            go_wp2_with (first
              | (go_at_call 34; (with_reducible refine (rhas1 HSF HR1).mono ?_); rintro e wz ⟨rfl, rfl⟩)
              | (go_at_call 34; (with_reducible refine (rhas2 HSF HR2).mono ?_); rintro e wz ⟨rfl, rfl⟩)
              | (go_at_call 34; (with_reducible refine (rhas4 HSF HR4).mono ?_); rintro e wz ⟨rfl, rfl⟩)
              | (go_at_call 34; (with_reducible refine (rhas5 HSF HR5).mono ?_); rintro e wz ⟨rfl, rfl⟩)
              | (go_at_call 34; (with_reducible refine (rhas9 HSF HR9).mono ?_); rintro e wz ⟨rfl, rfl⟩))
            go_meet
            exact ⟨ret_val (by rw [← HP3.out, HQ.out]; rfl), H⟩
          · have HQ : Hid (p3R m = false) := hid (by unfold p3R; simp only [HR1.out, HR2.out, HR4.out, HR5.out, HR9.out, Bool.true_or, Bool.false_or, Bool.true_and, Bool.and_true, Bool.and_eq_false_iff, decide_eq_false_iff_not]; omega)
            have a3 : w4.cell? ⟨w.heap.size, 3, none⟩ = some (.int .u64 m.vw) := (HX.out _ HB.out).cell rfl
            have a5 : w4.cell? ⟨w.heap.size, 5, none⟩ = some (.int .u64 m.num) := (HX.out _ HB.out).cell rfl
            have a6 : w4.cell? ⟨w.heap.size, 6, none⟩ = some (.int .i64 m.hops) := (HX.out _ HB.out).cell rfl
            have t164 : ((m.vw : Int) != 0) = false := by simp only [bne_eq_false_iff_eq]; omega
            have t165 : ((m.num : Int) != 0) = false := by simp only [bne_eq_false_iff_eq]; omega
            have t167 : (m.hops != 0) = true := by simp only [bne_iff_ne, ne_eq]; omega
            clear g0 g2 g3
            go_wp2_with (first
              | (go_at_call 34; (with_reducible refine (rhas1 HSF HR1).mono ?_); rintro e wz ⟨rfl, rfl⟩)
              | (go_at_call 34; (with_reducible refine (rhas2 HSF HR2).mono ?_); rintro e wz ⟨rfl, rfl⟩)
              | (go_at_call 34; (with_reducible refine (rhas4 HSF HR4).mono ?_); rintro e wz ⟨rfl, rfl⟩)
              | (go_at_call 34; (with_reducible refine (rhas5 HSF HR5).mono ?_); rintro e wz ⟨rfl, rfl⟩)
              | (go_at_call 34; (with_reducible refine (rhas9 HSF HR9).mono ?_); rintro e wz ⟨rfl, rfl⟩))
            go_meet
            exact ⟨ret_val (by rw [← HP3.out, HQ.out]; rfl), H⟩
        · have HQ : Hid (p3R m = false) := hid (by unfold p3R; simp only [HR1.out, HR2.out, HR4.out, HR5.out, HR9.out, Bool.true_or, Bool.false_or, Bool.true_and, Bool.and_true, Bool.and_eq_false_iff, decide_eq_false_iff_not]; omega)
          have a3 : w4.cell? ⟨w.heap.size, 3, none⟩ = some (.int .u64 m.vw) := (HX.out _ HB.out).cell rfl
          have a5 : w4.cell? ⟨w.heap.size, 5, none⟩ = some (.int .u64 m.num) := (HX.out _ HB.out).cell rfl
          have t163 : ((m.vw : Int) != 0) = false := by simp only [bne_eq_false_iff_eq]; omega
          have t168 : ((m.num : Int) != 0) = true := by simp only [bne_iff_ne, ne_eq]; omega
          clear g0 g2
          go_wp2_with (first
            | (go_at_call 34; (with_reducible refine (rhas1 HSF HR1).mono ?_); rintro e wz ⟨rfl, rfl⟩)
            | (go_at_call 34; (with_reducible refine (rhas2 HSF HR2).mono ?_); rintro e wz ⟨rfl, rfl⟩)
            | (go_at_call 34; (with_reducible refine (rhas4 HSF HR4).mono ?_); rintro e wz ⟨rfl, rfl⟩)
            | (go_at_call 34; (with_reducible refine (rhas5 HSF HR5).mono ?_); rintro e wz ⟨rfl, rfl⟩)
            | (go_at_call 34; (with_reducible refine (rhas9 HSF HR9).mono ?_); rintro e wz ⟨rfl, rfl⟩))
          go_meet
          exact ⟨ret_val (by rw [← HP3.out, HQ.out]; rfl), H⟩
      · have HQ : Hid (p3R m = false) := hid (by unfold p3R; simp only [HR1.out, HR2.out, HR4.out, HR5.out, HR9.out, Bool.true_or, Bool.false_or, Bool.true_and, Bool.and_true, Bool.and_eq_false_iff, decide_eq_false_iff_not]; omega)
        have a3 : w4.cell? ⟨w.heap.size, 3, none⟩ = some (.int .u64 m.vw) := (HX.out _ HB.out).cell rfl
        have t169 : ((m.vw : Int) != 0) = true := by simp only [bne_iff_ne, ne_eq]; omega
        clear g0
        go_wp2_with (first
          | (go_at_call 34; (with_reducible refine (rhas1 HSF HR1).mono ?_); rintro e wz ⟨rfl, rfl⟩)
          | (go_at_call 34; (with_reducible refine (rhas2 HSF HR2).mono ?_); rintro e wz ⟨rfl, rfl⟩)
          | (go_at_call 34; (with_reducible refine (rhas4 HSF HR4).mono ?_); rintro e wz ⟨rfl, rfl⟩)
          | (go_at_call 34; (with_reducible refine (rhas5 HSF HR5).mono ?_); rintro e wz ⟨rfl, rfl⟩)
          | (go_at_call 34; (with_reducible refine (rhas9 HSF HR9).mono ?_); rintro e wz ⟨rfl, rfl⟩))
        go_meet
        exact ⟨ret_val (by rw [← HP3.out, HQ.out]; rfl), H⟩
    · by_cases g1 : m.sl = 0
      · by_cases g2 : m.num = 0
        · by_cases g3 : m.hops = 0
          · by_cases g4 : m.y.length = 0
            · have HQ : Hid (p3R m = true) := hid (by unfold p3R; simp only [HR1.out, HR2.out, HR4.out, HR5.out, HR9.out, Bool.true_or, Bool.false_or, Bool.true_and, Bool.and_eq_true, decide_eq_true_eq]; omega)
              have a4 : w4.cell? ⟨w.heap.size, 4, none⟩ = some (.int .u64 m.sl) := (HX.out _ HB.out).cell rfl
              have a5 : w4.cell? ⟨w.heap.size, 5, none⟩ = some (.int .u64 m.num) := (HX.out _ HB.out).cell rfl
              have a6 : w4.cell? ⟨w.heap.size, 6, none⟩ = some (.int .i64 m.hops) := (HX.out _ HB.out).cell rfl
              have a28 : w4.cell? ⟨w.heap.size, 28, none⟩ = some (.slice A.ya m.y.length A.yc) := (HX.out _ HB.out).cell rfl
              have t173 : ((m.sl : Int) != 0) = false := by simp only [bne_eq_false_iff_eq]; omega
              have t174 : ((m.num : Int) != 0) = false := by simp only [bne_eq_false_iff_eq]; omega
              have t175 : (m.hops != 0) = false := by simp only [bne_eq_false_iff_eq]; omega
              have t176 : decide (m.y.length > 0) = false := decide_eq_false (by omega)
              have t177 : decide (0 < m.y.length) = false := decide_eq_false (by omega)
              have t178 : decide ((m.y.length : Int) > 0) = false := decide_eq_false (by omega)
              have t179 : decide ((0 : Int) < (m.y.length : Int)) = false := decide_eq_false (by omega)
              clear g1 g2 g3 g4
              go_wp2_with (first
                | (go_at_call 34; (with_reducible refine (rhas1 HSF HR1).mono ?_); rintro e wz ⟨rfl, rfl⟩)
                | (go_at_call 34; (with_reducible refine (rhas2 HSF HR2).mono ?_); rintro e wz ⟨rfl, rfl⟩)
                | (go_at_call 34; (with_reducible refine (rhas4 HSF HR4).mono ?_); rintro e wz ⟨rfl, rfl⟩)
                | (go_at_call 34; (with_reducible refine (rhas5 HSF HR5).mono ?_); rintro e wz ⟨rfl, rfl⟩)
                | (go_at_call 34; (with_reducible refine (rhas9 HSF HR9).mono ?_); rintro e wz ⟨rfl, rfl⟩))
              go_meet
              exact ⟨ret_val (by rw [← HP3.out, HQ.out]; rfl), H⟩
            · have HQ : Hid (p3R m = false) := hid (by unfold p3R; simp only [HR1.out, HR2.out, HR4.out, HR5.out, HR9.out, Bool.true_or, Bool.false_or, Bool.true_and, Bool.and_eq_false_iff, decide_eq_false_iff_not]; omega)
              have a4 : w4.cell? ⟨w.heap.size, 4, none⟩ = some (.int .u64 m.sl) := (HX.out _ HB.out).cell rfl
              have a5 : w4.cell? ⟨w.heap.size, 5, none⟩ = some (.int .u64 m.num) := (HX.out _ HB.out).cell rfl
              have a6 : w4.cell? ⟨w.heap.size, 6, none⟩ = some (.int .i64 m.hops) := (HX.out _ HB.out).cell rfl
              have a28 : w4.cell? ⟨w.heap.size, 28, none⟩ = some (.slice A.ya m.y.length A.yc) := (HX.out _ HB.out).cell rfl
              have t173 : ((m.sl : Int) != 0) = false := by simp only [bne_eq_false_iff_eq]; omega
              have t174 : ((m.num : Int) != 0) = false := by simp only [bne_eq_false_iff_eq]; omega
              have t175 : (m.hops != 0) = false := by simp only [bne_eq_false_iff_eq]; omega
              have t180 : decide (m.y.length > 0) = true := decide_eq_true (by omega)
              have t181 : decide (0 < m.y.length) = true := decide_eq_true (by omega)
              have t182 : decide ((m.y.length : Int) > 0) = true := decide_eq_true (by omega)
              have t183 : decide ((0 : Int) < (m.y.length : Int)) = true := decide_eq_true (by omega)
              clear g1 g2 g3 g4
              go_wp2_with (first
                | (go_at_call 34; (with_reducible refine (rhas1 HSF HR1).mono ?_); rintro e wz ⟨rfl, rfl⟩)
                | (go_at_call 34; (with_reducible refine (rhas2 HSF HR2).mono ?_); rintro e wz ⟨rfl, rfl⟩)
                | (go_at_call 34; (with_reducible refine (rhas4 HSF HR4).mono ?_); rintro e wz ⟨rfl, rfl⟩)
                | (go_at_call 34; (with_reducible refine (rhas5 HSF HR5).mono ?_); rintro e wz ⟨rfl, rfl⟩)
                | (go_at_call 34; (with_reducible refine (rhas9 HSF HR9).mono ?_); rintro e wz ⟨rfl, rfl⟩))
              go_meet
              exact ⟨ret_val (by rw [← HP3.out, HQ.out]; rfl), H⟩
          · have HQ : Hid (p3R m = false) := hid (by unfold p3R; simp only [HR1.out, HR2.out, HR4.out, HR5.out, HR9.out, Bool.true_or, Bool.false_or, Bool.true_and, Bool.and_eq_false_iff, decide_eq_false_iff_not]; omega)
            have a4 : w4.cell? ⟨w.heap.size, 4, none⟩ = some (.int .u64 m.sl) := (HX.out _ HB.out).cell rfl
            have a5 : w4.cell? ⟨w.heap.size, 5, none⟩ = some (.int .u64 m.num) := (HX.out _ HB.out).cell rfl
            have a6 : w4.cell? ⟨w.heap.size, 6, none⟩ = some (.int .i64 m.hops) := (HX.out _ HB.out).cell rfl
            have t171 : ((m.sl : Int) != 0) = false := by simp only [bne_eq_false_iff_eq]; omega
            have t172 : ((m.num : Int) != 0) = false := by simp only [bne_eq_false_iff_eq]; omega
            have t184 : (m.hops != 0) = true := by simp only [bne_iff_ne, ne_eq]; omega
            clear g1 g2 g3
            go_wp2_with (first
              | (go_at_call 34; (with_reducible refine (rhas1 HSF HR1).mono ?_); rintro e wz ⟨rfl, rfl⟩)
              | (go_at_call 34; (with_reducible refine (rhas2 HSF HR2).mono ?_); rintro e wz ⟨rfl, rfl⟩)
              | (go_at_call 34; (with_reducible refine (rhas4 HSF HR4).mono ?_); rintro e wz ⟨rfl, rfl⟩)
              | (go_at_call 34; (with_reducible refine (rhas5 HSF HR5).mono ?_); rintro e wz ⟨rfl, rfl⟩)
              | (go_at_call 34; (with_reducible refine (rhas9 HSF HR9).mono ?_); rintro e wz ⟨rfl, rfl⟩))
            go_meet
            exact ⟨ret_val (by rw [← HP3.out, HQ.out]; rfl), H⟩
        · have HQ : Hid (p3R m = false) := hid (by unfold p3R; simp only [HR1.out, HR2.out, HR4.out, HR5.out, HR9.out, Bool.true_or, Bool.false_or, Bool.true_and, Bool.and_eq_false_iff, decide_eq_false_iff_not]; omega)
          have a4 : w4.cell? ⟨w.heap.size, 4, none⟩ = some (.int .u64 m.sl) := (HX.out _ HB.out).cell rfl
          have a5 : w4.cell? ⟨w.heap.size, 5, none⟩ = some (.int .u64 m.num) := (HX.out _ HB.out).cell rfl
          have t170 : ((m.sl : Int) != 0) = false := by simp only [bne_eq_false_iff_eq]; omega
          have t185 : ((m.num : Int) != 0) = true := by simp only [bne_iff_ne, ne_eq]; omega
          clear g1 g2
          go_wp2_with (first
            | (go_at_call 34; (with_reducible refine (rhas1 HSF HR1).mono ?_); rintro e wz ⟨rfl, rfl⟩)
            | (go_at_call 34; (with_reducible refine (rhas2 HSF HR2).mono ?_); rintro e wz ⟨rfl, rfl⟩)
            | (go_at_call 34; (with_reducible refine (rhas4 HSF HR4).mono ?_); rintro e wz ⟨rfl, rfl⟩)
            | (go_at_call 34; (with_reducible refine (rhas5 HSF HR5).mono ?_); rintro e wz ⟨rfl, rfl⟩)
            | (go_at_call 34; (with_reducible refine (rhas9 HSF HR9).mono ?_); rintro e wz ⟨rfl, rfl⟩))
          go_meet
          exact ⟨ret_val (by rw [← HP3.out, HQ.out]; rfl), H⟩
      · have HQ : Hid (p3R m = false) := hid (by unfold p3R; simp only [HR1.out, HR2.out, HR4.out, HR5.out, HR9.out, Bool.true_or, Bool.false_or, Bool.true_and, Bool.and_eq_false_iff, decide_eq_false_iff_not]; omega)
        have a4 : w4.cell? ⟨w.heap.size, 4, none⟩ = some (.int .u64 m.sl) := (HX.out _ HB.out).cell rfl
        have t186 : ((m.sl : Int) != 0) = true := by simp only [bne_iff_ne, ne_eq]; omega
        clear g1
        go_wp2_with (first
          | (go_at_call 34; (with_reducible refine (rhas1 HSF HR1).mono ?_); rintro e wz ⟨rfl, rfl⟩)
          | (go_at_call 34; (with_reducible refine (rhas2 HSF HR2).mono ?_); rintro e wz ⟨rfl, rfl⟩)
          | (go_at_call 34; (with_reducible refine (rhas4 HSF HR4).mono ?_); rintro e wz ⟨rfl, rfl⟩)
          | (go_at_call 34; (with_reducible refine (rhas5 HSF HR5).mono ?_); rintro e wz ⟨rfl, rfl⟩)
          | (go_at_call 34; (with_reducible refine (rhas9 HSF HR9).mono ?_); rintro e wz ⟨rfl, rfl⟩))
        go_meet
        exact ⟨ret_val (by rw [← HP3.out, HQ.out]; rfl), H⟩
  case rest =>
  obtain ⟨rfl, hb'⟩ := hcut
  rename World => w5
  clear HB
  have HB := hid hb'
  clear hb'
  cases p3
  case false =>
    have HE := hid (HB1.out.trans (HB.out.mono HB1.out.size))
    go_wp2
    go_ret
    exact ⟨by rw [HM.out]; simp, HE.out⟩
  go_upto_region 8 with fail
  go_cut [127] (fun s wx => s = .bool (!p4) ∧ Below W1.heap.size W1 wx)
  case first => as_aux_lemma =>
    have H := HB.out
    cases r3
    case false =>
      obtain ⟨z, hz⟩ : ∃ z, decide (m.b = zeroBal) = z := ⟨_, rfl⟩
      have NQ : Hid (∀ W, (binOp .neq 28 (.agg #[.int .u32 m.b.1, .int .u16 m.b.2.1, .int .u32 m.b.2.2]) (.agg #[.int .u32 0, .int .u16 0, .int .u32 0])).run Tryz.prog W = .ok (.bool (!z)) W) := hid fun W => by
        rw [neq_bal]
        have := bal_dec m.b zeroBal z hz
        rw [← this]; rfl
      have HQ : Hid (p4R m = z) := hid (by unfold p4R; rw [HR3.out]; exact hz)
      have a7 : w5.cell? ⟨w.heap.size, 7, none⟩ = some (.int .u32 m.b.1) := (HX.out _ HB.out).cell rfl
      have a8 : w5.cell? ⟨w.heap.size, 8, none⟩ = some (.int .u16 m.b.2.1) := (HX.out _ HB.out).cell rfl
      have a9 : w5.cell? ⟨w.heap.size, 9, none⟩ = some (.int .u32 m.b.2.2) := (HX.out _ HB.out).cell rfl
      have nq := NQ.out
      clear hz
      go_wp2_with (first
        | (go_at_call 34; (with_reducible refine (rhas3 HSF HR3).mono ?_); rintro e wz ⟨rfl, rfl⟩))
      go_meet
      exact ⟨ret_val (by rw [← HP4.out, HQ.out]), H⟩
    case true =>
      obtain ⟨q, hq⟩ : ∃ q, mayP (m.b.2) = q := ⟨_, rfl⟩
      have HMQ := hid hq
      have HOK : Hid (okP (m.b.2)) := hid HSM.out.b
      clear hq
      cases q
      case false =>
        have HQ : Hid (p4R m = false) := hid (by unfold p4R; rw [HR3.out]; exact HMQ.out)
        have a8 : w5.cell? ⟨w.heap.size, 8, none⟩ = some (.int .u16 m.b.2.1) := (HX.out _ HB.out).cell rfl
        have a9 : w5.cell? ⟨w.heap.size, 9, none⟩ = some (.int .u32 m.b.2.2) := (HX.out _ HB.out).cell rfl
        go_wp2_with (first
          | (go_at_call 34; (with_reducible refine (rhas3 HSF HR3).mono ?_); rintro e wz ⟨rfl, rfl⟩)
          | (go_at_call 61; (with_reducible refine (MP.out m.b.2 _ HOK.out HMQ.out _ H).mono ?_); rintro e wm ⟨rfl, hbm⟩))
        go_meet
        exact ⟨ret_val (by rw [← HP4.out, HQ.out]; rfl), hbm⟩
      case true =>
        have HQ : Hid (p4R m = true) := hid (by unfold p4R; rw [HR3.out]; exact HMQ.out)
        have a8 : w5.cell? ⟨w.heap.size, 8, none⟩ = some (.int .u16 m.b.2.1) := (HX.out _ HB.out).cell rfl
        have a9 : w5.cell? ⟨w.heap.size, 9, none⟩ = some (.int .u32 m.b.2.2) := (HX.out _ HB.out).cell rfl
        go_wp2_with (first
          | (go_at_call 34; (with_reducible refine (rhas3 HSF HR3).mono ?_); rintro e wz ⟨rfl, rfl⟩)
          | (go_at_call 61; (with_reducible refine (MP.out m.b.2 _ HOK.out HMQ.out _ H).mono ?_); rintro e wm ⟨rfl, hbm⟩))
        go_meet
        exact ⟨ret_val (by rw [← HP4.out, HQ.out]; rfl), hbm⟩
  case rest =>
  obtain ⟨rfl, hb'⟩ := hcut
  rename World => w6
  clear HB
  have HB := hid hb'
  clear hb'
  cases p4
  case false =>
    have HE := hid (HB1.out.trans (HB.out.mono HB1.out.size))
    go_wp2
    go_ret
    exact ⟨by rw [HM.out]; simp, HE.out⟩
  go_upto_region 10 with fail
  go_cut [152] (fun s wx => s = .bool (!p5) ∧ Below W1.heap.size W1 wx)
  case first => as_aux_lemma =>
    have H := HB.out
    obtain ⟨hh, hhe⟩ : ∃ b, m.has = b := ⟨_, rfl⟩
    have a13 : w6.cell? ⟨w.heap.size, 13, none⟩ = some (.bool m.has) := (HX.out _ HB.out).cell rfl
    rw [hhe] at a13
    have HH := hid hhe
    clear hhe
    cases hh
    case false =>
      obtain ⟨z, hz⟩ : ∃ z, decide (m.a = zeroBal) = z := ⟨_, rfl⟩
      have NQ : Hid (∀ W, (binOp .neq 28 (.agg #[.int .u32 m.a.1, .int .u16 m.a.2.1, .int .u32 m.a.2.2]) (.agg #[.int .u32 0, .int .u16 0, .int .u32 0])).run Tryz.prog W = .ok (.bool (!z)) W) := hid fun W => by
        rw [neq_bal]
        have := bal_dec m.a zeroBal z hz
        rw [← this]; rfl
      have HQ : Hid (p5R m = z) := hid (by unfold p5R; rw [HH.out]; exact hz)
      have a10 : w6.cell? ⟨w.heap.size, 10, none⟩ = some (.int .u32 m.a.1) := (HX.out _ HB.out).cell rfl
      have a11 : w6.cell? ⟨w.heap.size, 11, none⟩ = some (.int .u16 m.a.2.1) := (HX.out _ HB.out).cell rfl
      have a12 : w6.cell? ⟨w.heap.size, 12, none⟩ = some (.int .u32 m.a.2.2) := (HX.out _ HB.out).cell rfl
      have nq := NQ.out
      clear hz
      go_wp2_with fail
      go_meet
      exact ⟨ret_val (by rw [← HP5.out, HQ.out]), H⟩
    case true =>
      cases r6
      case false =>
        have HQ : Hid (p5R m = false) := hid (by unfold p5R; rw [HH.out, HR6.out]; rfl)
        go_wp2_with (first
          | (go_at_call 34; (with_reducible refine (rhas6 HSF HR6).mono ?_); rintro e wz ⟨rfl, rfl⟩))
        go_meet
        exact ⟨ret_val (by rw [← HP5.out, HQ.out]; rfl), H⟩
      case true =>
        obtain ⟨q, hq⟩ : ∃ q, mayP m.a.2 = q := ⟨_, rfl⟩
        have HMQ := hid hq
        have HOK : Hid (okP m.a.2) := hid HSM.out.a
        clear hq
        cases q
        case false =>
          have HQ : Hid (p5R m = false) := hid (by unfold p5R; rw [HH.out, HR6.out, HMQ.out]; rfl)
          have a11 : w6.cell? ⟨w.heap.size, 11, none⟩ = some (.int .u16 m.a.2.1) := (HX.out _ HB.out).cell rfl
          have a12 : w6.cell? ⟨w.heap.size, 12, none⟩ = some (.int .u32 m.a.2.2) := (HX.out _ HB.out).cell rfl
          go_wp2_with (first
            | (go_at_call 34; (with_reducible refine (rhas6 HSF HR6).mono ?_); rintro e wz ⟨rfl, rfl⟩)
            | (go_at_call 61; (with_reducible refine (MP.out m.a.2 _ HOK.out HMQ.out _ H).mono ?_); rintro e wm ⟨rfl, hbm⟩; have b13 : wm.cell? ⟨w.heap.size, 13, none⟩ = some (.bool true) := by rw [← HH.out]; exact (HX.out _ hbm).cell rfl))
          go_meet
          exact ⟨ret_val (by rw [← HP5.out, HQ.out]; rfl), hbm⟩
        case true =>
          have HQ : Hid (p5R m = true) := hid (by unfold p5R; rw [HH.out, HR6.out, HMQ.out]; rfl)
          have a11 : w6.cell? ⟨w.heap.size, 11, none⟩ = some (.int .u16 m.a.2.1) := (HX.out _ HB.out).cell rfl
          have a12 : w6.cell? ⟨w.heap.size, 12, none⟩ = some (.int .u32 m.a.2.2) := (HX.out _ HB.out).cell rfl
          go_wp2_with (first
            | (go_at_call 34; (with_reducible refine (rhas6 HSF HR6).mono ?_); rintro e wz ⟨rfl, rfl⟩)
            | (go_at_call 61; (with_reducible refine (MP.out m.a.2 _ HOK.out HMQ.out _ H).mono ?_); rintro e wm ⟨rfl, hbm⟩; have b13 : wm.cell? ⟨w.heap.size, 13, none⟩ = some (.bool true) := by rw [← HH.out]; exact (HX.out _ hbm).cell rfl))
          go_meet
          exact ⟨ret_val (by rw [← HP5.out, HQ.out]; rfl), hbm⟩
  case rest =>
  obtain ⟨rfl, hb'⟩ := hcut
  rename World => w7
  clear HB
  have HB := hid hb'
  clear hb'
  cases p5
  case false =>
    have HE := hid (HB1.out.trans (HB.out.mono HB1.out.size))
    go_wp2
    go_ret
    exact ⟨by rw [HM.out]; simp, HE.out⟩
  obtain ⟨ck, hck⟩ : ∃ k : Int, (cmdChk m.c : Int) = k := ⟨_, rfl⟩
  have CK : Hid (∀ W, Below W1.heap.size W1 W → Calls Tryz.prog 78 #[.agg (cmdV A m.c)] W fun e w' => e = .returned (.int .i64 ck) ∧ Below W1.heap.size W1 w') := hid fun W h => relB h (cmdCheckR_is (dc := A.dc) (cm := A.cm) (cl := A.cl) (cd := A.cd) (hid hck) (HA.out.c.v.ext h) HSM.out.csum HSM.out.fr)
  obtain ⟨k0, hk0⟩ : ∃ b, decide (cmdChk m.c = 0) = b := ⟨_, rfl⟩
  have hk1 : (ck != 0) = !k0 := by
    rw [← hk0, ← hck]
    by_cases h : cmdChk m.c = 0
    · rw [h]; rfl
    · rw [decide_eq_false h]; simp only [Bool.not_false, bne_iff_ne, ne_eq]; omega
  have HK0 := hid hk0
  have HK1 := hid hk1
  obtain ⟨nc, hnc⟩ : ∃ b, sameC m.c zeroC = b := ⟨_, rfl⟩
  have NC : Hid (∀ W, Below W1.heap.size W1 W → Calls Tryz.prog 79 #[.agg (cmdV A m.c)] W fun e w' => e = .returned (.bool nc) ∧ Below W1.heap.size W1 w') := hid fun W h => relB h (noCmd_any (hid hnc) (HA.out.c.ext h))
  have HNC := hid hnc
  obtain ⟨vk, hvk⟩ : ∃ b, refCheckB m.v = b := ⟨_, rfl⟩
  obtain ⟨vz, hvz⟩ : ∃ b, sameB m.v zeroV = b := ⟨_, rfl⟩
  have VK : Hid (∀ W, Below W1.heap.size W1 W → Calls Tryz.prog 18 #[.agg #[.int .u64 m.v.id, .slice A.vm m.v.ms.length A.em, .slice A.vl m.v.ls.length A.el, .slice A.vd m.v.ds.length A.ed]] W fun e w' => e = .returned (.bool vk) ∧ Below W1.heap.size W1 w') := hid fun W h => relB h (refCheck_is (hid hvk) (HA.out.v.ext h) HSM.out.vsum)
  have VZ : Hid (∀ W, Below W1.heap.size W1 W → Calls Tryz.prog 16 #[.agg #[.int .u64 m.v.id, .slice A.vm m.v.ms.length A.em, .slice A.vl m.v.ls.length A.el, .slice A.vd m.v.ds.length A.ed], .agg #[.int .u64 0, .slice none 0 0, .slice none 0 0, .slice none 0 0]] W fun e w' => e = .returned (.bool vz) ∧ Below W1.heap.size W1 w') := hid fun W h => relB h (refSame_is (B := zeroV) (hid hvz) (HA.out.v.ext h) (viewR_zero W))
  have HVK := hid hvk
  have HVZ := hid hvz
  clear hck hk0 hk1 hnc hvk hvz
  obtain ⟨hc, hhc⟩ : ∃ b, (m.has || r7) = b := ⟨_, rfl⟩
  have HHC := hid hhc
  clear hhc
  go_upto_region 12 with fail
  go_cut [158] (fun s wx => s = .bool hc ∧ Below W1.heap.size W1 wx)
  case first => as_aux_lemma =>
    have H := HB.out
    obtain ⟨hh, hhe⟩ : ∃ b, m.has = b := ⟨_, rfl⟩
    have a13 : w7.cell? ⟨w.heap.size, 13, none⟩ = some (.bool m.has) := (HX.out _ HB.out).cell rfl
    rw [hhe] at a13
    have HH := hid hhe
    clear hhe
    cases hh
    case false =>
      go_wp2_with (go_at_call 34; (with_reducible refine (rhas7 HSF HR7).mono ?_); rintro e wz ⟨rfl, rfl⟩)
      go_meet
      exact ⟨ret_val (by rw [← HHC.out, HH.out]; rfl), H⟩
    case true =>
      go_wp2_with fail
      go_meet
      exact ⟨ret_val (by rw [← HHC.out, HH.out]; rfl), H⟩
  case rest =>
  obtain ⟨rfl, hb'⟩ := hcut
  rename World => w8
  clear HB
  have HB := hid hb'
  clear hb'
  have xm := HX.out _ HB.out
  have H := HB.out
  have hk1 := HK1.out
  cases hc
  case false =>
    cases nc
    case false =>
      go_wp2_with (first
        | (refine wpList_loadMC xm rfl rfl rfl ?_)
        | (go_at_call 79; (with_reducible refine (NC.out _ H).mono ?_); rintro e w9 ⟨rfl, hb9⟩; have a24 : w9.cell? ⟨w.heap.size, 24, none⟩ = some (.int .u64 m.v.id) := (HX.out _ hb9).cell rfl; have a25 : w9.cell? ⟨w.heap.size, 25, none⟩ = some (.slice A.vm m.v.ms.length A.em) := (HX.out _ hb9).cell rfl; have a26 : w9.cell? ⟨w.heap.size, 26, none⟩ = some (.slice A.vl m.v.ls.length A.el) := (HX.out _ hb9).cell rfl; have a27 : w9.cell? ⟨w.heap.size, 27, none⟩ = some (.slice A.vd m.v.ds.length A.ed) := (HX.out _ hb9).cell rfl))
      go_ret
      exact ⟨by rw [HM.out, ← HP6.out]; unfold p6R; rw [HR7.out, HHC.out]; simp [HNC.out], HB1.out.trans (hb9.mono HB1.out.size)⟩
    case true =>
      cases r8
      case false =>
        go_wp2_with (first
          | (refine wpList_loadMC xm rfl rfl rfl ?_)
          | (go_at_call 79; (with_reducible refine (NC.out _ H).mono ?_); rintro e w9 ⟨rfl, hb9⟩; have a24 : w9.cell? ⟨w.heap.size, 24, none⟩ = some (.int .u64 m.v.id) := (HX.out _ hb9).cell rfl; have a25 : w9.cell? ⟨w.heap.size, 25, none⟩ = some (.slice A.vm m.v.ms.length A.em) := (HX.out _ hb9).cell rfl; have a26 : w9.cell? ⟨w.heap.size, 26, none⟩ = some (.slice A.vl m.v.ls.length A.el) := (HX.out _ hb9).cell rfl; have a27 : w9.cell? ⟨w.heap.size, 27, none⟩ = some (.slice A.vd m.v.ds.length A.ed) := (HX.out _ hb9).cell rfl)
          | (go_at_call 34; (with_reducible refine (rhas8 HSF HR8).mono ?_); rintro e wz ⟨rfl, rfl⟩)
          | (go_at_call 16; (with_reducible refine (VZ.out _ hb9).mono ?_); rintro e w10 ⟨rfl, hb10⟩))
        go_ret
        exact ⟨by rw [HM.out, ← HP6.out, ← HP7.out]; unfold p6R p7R; rw [HR7.out, HHC.out, HR8.out]; simp [HNC.out, HVZ.out], HB1.out.trans (hb10.mono HB1.out.size)⟩
      case true =>
        go_wp2_with (first
          | (refine wpList_loadMC xm rfl rfl rfl ?_)
          | (go_at_call 79; (with_reducible refine (NC.out _ H).mono ?_); rintro e w9 ⟨rfl, hb9⟩; have a24 : w9.cell? ⟨w.heap.size, 24, none⟩ = some (.int .u64 m.v.id) := (HX.out _ hb9).cell rfl; have a25 : w9.cell? ⟨w.heap.size, 25, none⟩ = some (.slice A.vm m.v.ms.length A.em) := (HX.out _ hb9).cell rfl; have a26 : w9.cell? ⟨w.heap.size, 26, none⟩ = some (.slice A.vl m.v.ls.length A.el) := (HX.out _ hb9).cell rfl; have a27 : w9.cell? ⟨w.heap.size, 27, none⟩ = some (.slice A.vd m.v.ds.length A.ed) := (HX.out _ hb9).cell rfl)
          | (go_at_call 34; (with_reducible refine (rhas8 HSF HR8).mono ?_); rintro e wz ⟨rfl, rfl⟩)
          | (go_at_call 18; (with_reducible refine (VK.out _ hb9).mono ?_); rintro e w10 ⟨rfl, hb10⟩))
        go_ret
        exact ⟨by rw [HM.out, ← HP6.out, ← HP7.out]; unfold p6R p7R; rw [HR7.out, HHC.out, HR8.out]; simp [HNC.out, HVK.out], HB1.out.trans (hb10.mono HB1.out.size)⟩
  case true =>
    cases k0
    case false =>
      go_wp2_with (first
        | (refine wpList_loadMC xm rfl rfl rfl ?_)
        | (go_at_call 78; (with_reducible refine (CK.out _ H).mono ?_); rintro e w9 ⟨rfl, hb9⟩; have a24 : w9.cell? ⟨w.heap.size, 24, none⟩ = some (.int .u64 m.v.id) := (HX.out _ hb9).cell rfl; have a25 : w9.cell? ⟨w.heap.size, 25, none⟩ = some (.slice A.vm m.v.ms.length A.em) := (HX.out _ hb9).cell rfl; have a26 : w9.cell? ⟨w.heap.size, 26, none⟩ = some (.slice A.vl m.v.ls.length A.el) := (HX.out _ hb9).cell rfl; have a27 : w9.cell? ⟨w.heap.size, 27, none⟩ = some (.slice A.vd m.v.ds.length A.ed) := (HX.out _ hb9).cell rfl))
      go_ret
      exact ⟨by rw [HM.out, ← HP6.out]; unfold p6R; rw [HR7.out, HHC.out]; simp [HK0.out], HB1.out.trans (hb9.mono HB1.out.size)⟩
    case true =>
      cases r8
      case false =>
        go_wp2_with (first
          | (refine wpList_loadMC xm rfl rfl rfl ?_)
          | (go_at_call 78; (with_reducible refine (CK.out _ H).mono ?_); rintro e w9 ⟨rfl, hb9⟩; have a24 : w9.cell? ⟨w.heap.size, 24, none⟩ = some (.int .u64 m.v.id) := (HX.out _ hb9).cell rfl; have a25 : w9.cell? ⟨w.heap.size, 25, none⟩ = some (.slice A.vm m.v.ms.length A.em) := (HX.out _ hb9).cell rfl; have a26 : w9.cell? ⟨w.heap.size, 26, none⟩ = some (.slice A.vl m.v.ls.length A.el) := (HX.out _ hb9).cell rfl; have a27 : w9.cell? ⟨w.heap.size, 27, none⟩ = some (.slice A.vd m.v.ds.length A.ed) := (HX.out _ hb9).cell rfl)
          | (go_at_call 34; (with_reducible refine (rhas8 HSF HR8).mono ?_); rintro e wz ⟨rfl, rfl⟩)
          | (go_at_call 16; (with_reducible refine (VZ.out _ hb9).mono ?_); rintro e w10 ⟨rfl, hb10⟩))
        go_ret
        exact ⟨by rw [HM.out, ← HP6.out, ← HP7.out]; unfold p6R p7R; rw [HR7.out, HHC.out, HR8.out]; simp [HK0.out, HVZ.out], HB1.out.trans (hb10.mono HB1.out.size)⟩
      case true =>
        go_wp2_with (first
          | (refine wpList_loadMC xm rfl rfl rfl ?_)
          | (go_at_call 78; (with_reducible refine (CK.out _ H).mono ?_); rintro e w9 ⟨rfl, hb9⟩; have a24 : w9.cell? ⟨w.heap.size, 24, none⟩ = some (.int .u64 m.v.id) := (HX.out _ hb9).cell rfl; have a25 : w9.cell? ⟨w.heap.size, 25, none⟩ = some (.slice A.vm m.v.ms.length A.em) := (HX.out _ hb9).cell rfl; have a26 : w9.cell? ⟨w.heap.size, 26, none⟩ = some (.slice A.vl m.v.ls.length A.el) := (HX.out _ hb9).cell rfl; have a27 : w9.cell? ⟨w.heap.size, 27, none⟩ = some (.slice A.vd m.v.ds.length A.ed) := (HX.out _ hb9).cell rfl)
          | (go_at_call 34; (with_reducible refine (rhas8 HSF HR8).mono ?_); rintro e wz ⟨rfl, rfl⟩)
          | (go_at_call 18; (with_reducible refine (VK.out _ hb9).mono ?_); rintro e w10 ⟨rfl, hb10⟩))
        go_ret
        exact ⟨by rw [HM.out, ← HP6.out, ← HP7.out]; unfold p6R p7R; rw [HR7.out, HHC.out, HR8.out]; simp [HK0.out, HVK.out], HB1.out.trans (hb10.mono HB1.out.size)⟩
end Go.Proofs.YtppapeoainafbaaGreatDoor


