/- Parts of the proof: X66. -/
import Derived.Test.YtppapeoainafbaaGreatDoorGMsgTexts13
namespace Go.Proofs.YtppapeoainafbaaGreatDoor
open Go.RowKit
/-! ### msg.Encode -/
structure MsgE (w : World) (A : MA) (m : MsgD) : Prop where
  r : MsgR w A m
  s : MsgS m
  cin : CmdIn w A.da A.am A.al A.ad m.c
  cdl : m.c.data.length ≤ 400
  vid : 0 ≤ m.v.id ∧ m.v.id < 18446744073709551616
  brd : m.b.1 < 4294967296
  ard : m.a.1 < 4294967296
theorem MsgE.ext {w w' : World} {A : MA} {m : MsgD} (h : MsgE w A m) (hb : Below w.heap.size w w') : MsgE w' A m := ⟨h.r.ext hb, h.s, h.cin.ext hb, h.cdl, h.vid, h.brd, h.ard⟩
/-- the form of the first fields -/
def encK (m : MsgD) (j : Nat) : List Nat := short m.kind.toNat ++ (List.range j).flatMap fun i => if hb m.kind i then letF m i else []
theorem encK_succ (m : MsgD) (j : Nat) : encK m (j + 1) = encK m j ++ (if hb m.kind j then letF m j else []) := by
  unfold encK; rw [List.range_succ, List.flatMap_append, List.append_assoc]; simp
theorem encK_yes {m : MsgD} {j : Nat} (h : hb m.kind j = true) : encK m (j + 1) = encK m j ++ letF m j := by rw [encK_succ, if_pos h]
theorem encK_no {m : MsgD} {j : Nat} (h : hb m.kind j = false) : encK m (j + 1) = encK m j := by rw [encK_succ, if_neg (by simp [h]), List.append_nil]
theorem encK_10 (m : MsgD) : encK m 10 = msgF m := by
  unfold encK msgF
  congr 1
  have h : ∀ i, i < 10 → hb m.kind i = (ltrs m.kind).contains i := fun i hi => hb_ltrs m.kind hi
  have l0 := h 0 (by decide); have l1 := h 1 (by decide); have l2 := h 2 (by decide); have l3 := h 3 (by decide); have l4 := h 4 (by decide); have l5 := h 5 (by decide); have l6 := h 6 (by decide); have l7 := h 7 (by decide); have l8 := h 8 (by decide); have l9 := h 9 (by decide)
  have hr : List.range 10 = [0, 1, 2, 3, 4, 5, 6, 7, 8, 9] := by decide
  rw [hr]
  simp only [List.flatMap_cons, List.flatMap_nil, l0, l1, l2, l3, l4, l5, l6, l7, l8, l9]
  clear l0 l1 l2 l3 l4 l5 l6 l7 l8 l9 h
  have hl : ltrs m.kind ∈ [[], [0, 1, 4, 5, 9], [2, 5, 7], [2], [2, 3], [2, 3, 6], [2, 3, 7], [1, 5], [0, 1, 4, 5], [0, 5], [2, 8, 9], [1]] := by
    rcases kinds m.kind with e | e | e | e | e | e | e | e | e | e | e | e | e | e | ⟨-, -, e⟩
    all_goals first
      | (rw [e]; decide)
  generalize ltrs m.kind = l at hl
  simp only [List.mem_cons, List.not_mem_nil, or_false] at hl
  rcases hl with rfl | rfl | rfl | rfl | rfl | rfl | rfl | rfl | rfl | rfl | rfl | rfl <;> simp
def bnd (i : Nat) : Nat := if i < 6 then 30 else if i = 6 then 300100 else if i = 7 then 300000 else if i = 8 then 290000 else 410
theorem letF_len {w : World} {A : MA} {m : MsgD} (h : MsgE w A m) (hk : MsgOk m) {i : Nat} (hi : hb m.kind i = true) : (letF m i).length ≤ bnd i := by
  have n0 := pidF_len h.s.who
  have nb := pidF_len h.s.b
  have na := pidF_len h.s.a
  have hn := hk.nums
  have s1 := short_len10 (n := m.vw) (by omega)
  have s2 := short_len10 (n := m.sl) (by omega)
  have s3 := short_len10 (n := m.num) (by omega)
  have s4 := short_len10 (n := m.hops.toNat) (by have := hk.hops; omega)
  have s5 := short_len10 (n := m.y.length) (by have := hk.len; omega)
  have s6 := short_len10 (n := m.b.1) (by have := h.brd; omega)
  have s7 := short_len10 (n := m.a.1) (by have := h.ard; omega)
  have s8 := short_len10 (n := 1) (by decide)
  have s9 := short_len10 (n := 0) (by decide)
  have hy := hk.len
  unfold letF bnd
  by_cases e0 : i = 0
  · subst e0; simp; omega
  by_cases e1 : i = 1
  · subst e1; simp; omega
  by_cases e2 : i = 2
  · subst e2; simp; omega
  by_cases e3 : i = 3
  · subst e3; simp [balF]; omega
  by_cases e4 : i = 4
  · subst e4; simp; omega
  by_cases e5 : i = 5
  · subst e5; simp; omega
  by_cases e6 : i = 6
  · subst e6
    cases hh : m.has
    · simp; omega
    · have hc := cmdF_small h.cin (hk.a hh).2
      simp [balF]; omega
  by_cases e7 : i = 7
  · subst e7
    have hc := cmdF_small h.cin (hk.c hi)
    simp; omega
  by_cases e8 : i = 8
  · subst e8
    have hc := viewF_small (laid_of_check h.s.vwf ((check_eq m.v h.s.vwf).trans (hk.v hi)))
    simp; omega
  have e9 : ¬ i < 6 := by omega
  simp [e0, e1, e2, e3, e4, e5, e6, e7, e8, e9]; omega
theorem encK_len {w : World} {A : MA} {m : MsgD} (h : MsgE w A m) (hk : MsgOk m) (hkd : 1 ≤ m.kind ∧ m.kind ≤ 14) : (∀ j, j ≤ 6 → (encK m j).length ≤ 10 + 30 * j) ∧ (encK m 7).length ≤ 300290 ∧ (encK m 8).length ≤ 600290 ∧ (encK m 9).length ≤ 890290 ∧ (encK m 10).length ≤ 890700 := by
  have step : ∀ j, (encK m (j + 1)).length ≤ (encK m j).length + bnd j := by
    intro j
    cases hj : hb m.kind j
    · rw [encK_no hj]; omega
    · rw [encK_yes hj, List.length_append]; have := letF_len h hk hj; omega
  have z : (encK m 0).length ≤ 10 := by
    have := short_len10 (n := m.kind.toNat) (by omega)
    simpa [encK] using this
  have b0 := step 0; have b1 := step 1; have b2 := step 2; have b3 := step 3; have b4 := step 4; have b5 := step 5; have b6 := step 6; have b7 := step 7; have b8 := step 8; have b9 := step 9
  simp [bnd] at b0 b1 b2 b3 b4 b5 b6 b7 b8 b9
  refine ⟨fun j hj => ?_, by omega, by omega, by omega, by omega⟩
  match j, hj with
  | 0, _ => omega
  | 1, _ => omega
  | 2, _ => omega
  | 3, _ => omega
  | 4, _ => omega
  | 5, _ => omega
  | 6, _ => omega
theorem MsgBox.mutT {G : Nat → Prop} {w w' : World} {b : Nat} {A : MA} {m : MsgD} (h : MsgBox w b A m) (hm : Mut G w w') (hb : ¬ G b) : MsgBox w' b A m := fun j v hv => by
  have h1 := h j v hv
  exact (hm.cell (p := ⟨b, 0 + j, none⟩) (World.block_lt_of_cell? w _ h1) (by exact hb)).trans h1
theorem pidF_of {p : Pid} {x y : Nat} (hx : p.1 = (x : Int)) (hy : p.2 = (y : Int)) : pidF p = short x ++ short y := by
  unfold pidF; rw [hx, hy]; simp
set_option maxRecDepth 100000 in
set_option maxHeartbeats 12800000 in
theorem msgEncode_any {A : MA} {m : MsgD} {w : World} (hA : MsgE w A m) :
    Calls Tryz.prog 21 #[.agg (ML A m).toArray] w fun e w' => ∃ v, e = .returned (.tuple #[v, .int .i64 (chkE (msgChk m))]) ∧ OwnB w' w.heap.size v (if msgChk m then msgF m else []) ∧ Below w.heap.size w w' := by
  obtain ⟨W1, hW1⟩ : ∃ W1, w.alloc (.cells (ML A m).toArray 37) = W1 := ⟨_, rfl⟩
  have hB1 : Below w.heap.size w W1 := by rw [← hW1]; exact (Below.refl _ _).alloc (Nat.le_refl _) _
  have xA : MsgBox W1 w.heap.size A m := by rw [← hW1]; exact MsgBox.made A m w _ _
  have hz1 : W1.heap.size = w.heap.size + 1 := by rw [← hW1]; simp
  have CK := hid (msgCheck_any (hA.r.ext hB1) hA.s)
  cases hc : msgChk m
  case false =>
    rw [hc] at CK
    have HB1 := hid hB1
    clear hA hB1 hc hz1
    go_enter Tryz.func21, Tryz.ntmps21
    go_wp2_with (first
      | (refine wpList_loadM xA rfl rfl rfl ?_)
      | (go_at_call 23; (with_reducible refine CK.out.mono ?_); rintro e w3 ⟨rfl, hb3⟩; have e1 : chkE false = 1 := rfl; rw [e1]))
    go_ret2
    exact ⟨_, rfl, OwnB.nil _ _, HB1.out.trans (hb3.mono HB1.out.size)⟩
  rw [hc] at CK
  have hk := msgChk_ok hc
  have hkd : 1 ≤ m.kind ∧ m.kind ≤ 14 := by
    rcases kinds m.kind with e | e | e | e | e | e | e | e | e | e | e | e | e | e | ⟨-, e, -⟩
    all_goals first
      | omega
      | exact absurd e hk.f
  have hln := encK_len hA hk hkd
  obtain ⟨kn, hkn⟩ : ∃ kn : Nat, m.kind = (kn : Int) := ⟨m.kind.toNat, by omega⟩
  have hk64 : kn < 18446744073709551616 := by omega
  have HX1 : Hid (∀ W, Below W1.heap.size W1 W → MsgBox W w.heap.size A m) := hid fun W h => xA.ext h xA.lt
  have HB1 := hid hB1
  have HA := hid hA
  have HOK := hid hk
  have HLN := hid hln
  have HKN := hid hkn
  have HZ1 := hid hz1
  obtain ⟨f, hf⟩ : ∃ f, flN m.kind = f := ⟨_, rfl⟩
  have HF := hid hf
  have FL : Hid (∀ W, Calls Tryz.prog 24 #[.int .i64 kn] W fun e w' => e = .returned (.int .u64 f) ∧ W = w') := hid fun W => by
    have := fields_any m.kind W
    rw [hf, hkn] at this; exact this
  obtain ⟨r0, hr0⟩ : ∃ r, hb m.kind 0 = r := ⟨_, rfl⟩
  have HR0 := hid hr0
  obtain ⟨r1, hr1⟩ : ∃ r, hb m.kind 1 = r := ⟨_, rfl⟩
  have HR1 := hid hr1
  obtain ⟨r2, hr2⟩ : ∃ r, hb m.kind 2 = r := ⟨_, rfl⟩
  have HR2 := hid hr2
  obtain ⟨r3, hr3⟩ : ∃ r, hb m.kind 3 = r := ⟨_, rfl⟩
  have HR3 := hid hr3
  obtain ⟨r4, hr4⟩ : ∃ r, hb m.kind 4 = r := ⟨_, rfl⟩
  have HR4 := hid hr4
  obtain ⟨r5, hr5⟩ : ∃ r, hb m.kind 5 = r := ⟨_, rfl⟩
  have HR5 := hid hr5
  obtain ⟨r6, hr6⟩ : ∃ r, hb m.kind 6 = r := ⟨_, rfl⟩
  have HR6 := hid hr6
  obtain ⟨r7, hr7⟩ : ∃ r, hb m.kind 7 = r := ⟨_, rfl⟩
  have HR7 := hid hr7
  obtain ⟨r8, hr8⟩ : ∃ r, hb m.kind 8 = r := ⟨_, rfl⟩
  have HR8 := hid hr8
  obtain ⟨r9, hr9⟩ : ∃ r, hb m.kind 9 = r := ⟨_, rfl⟩
  have HR9 := hid hr9
  have ekn : IntKind.u64.wrap ((kn : Nat) : Int) = ((kn : Nat) : Int) := by rw [IntKind.wrap_u64]; omega
  clear hA hB1 hc hk hln hkn hkd hf hz1 hr0 hr1 hr2 hr3 hr4 hr5 hr6 hr7 hr8 hr9
  go_enter Tryz.func21, Tryz.ntmps21
  go_wp2_with (first
    | (refine wpList_loadM xA rfl rfl rfl ?_)
    | (go_at_call 23; (with_reducible refine CK.out.mono ?_); rintro e w2 ⟨rfl, hb2⟩; have e1 : chkE true = 0 := rfl; rw [e1]; have a0 := (HX1.out _ hb2).cell (j := 0) (v := .int .i64 m.kind) rfl; rw [HKN.out] at a0; have a0b := (HX1.out _ (hb2.alloc hb2.size (.cells #[.slice none 0 0] 107))).cell (j := 0) (v := .int .i64 m.kind) rfl; rw [HKN.out] at a0b; have HB2 := hid hb2; clear hb2 xA CK e1)
    | (go_at_call 24; (with_reducible refine (FL.out _).mono ?_); rintro e wz ⟨rfl, rfl⟩))
  obtain ⟨Wb, hWb⟩ : ∃ Wb, w2.alloc (.cells #[.slice none 0 0] 107) = Wb := ⟨_, rfl⟩
  have hbb : Below w2.heap.size w2 Wb := by rw [← hWb]; exact (Below.refl _ _).alloc (Nat.le_refl _) _
  have hwb : WrIs Wb w2.heap.size (.slice none 0 0) [] := by rw [← hWb]; exact WrIs.made _ _
  have hb02 := HB1.out.trans (HB2.out.mono HB1.out.size)
  have hs1 : W1.heap.size ≤ w2.heap.size := HB2.out.size
  have HXB : Hid (∀ W, Mut (fun k => k = w2.heap.size) Wb W → MsgBox W w.heap.size A m) := hid fun W h => (HX1.out _ (HB2.out.trans (hbb.mono HB2.out.size))).mutT h (by rw [HZ1.out] at hs1; omega)
  have HBW : Hid (∀ W, Mut (fun k => k = w2.heap.size) Wb W → Below w.heap.size w W) := hid fun W h => below_mut (hb02.trans (hbb.mono hb02.size)) h hb02.size
  have HS02 : Hid (w.heap.size ≤ w2.heap.size) := hid hb02.size
  have N0 := wNum_any kn hwb (by simp) hk64
  rw [hWb]
  have HN0 := hid N0
  have HBB := hid hbb
  clear hbb hwb hb02 hs1 N0
  refine HN0.out.mono ?_
  rintro e w3 ⟨rfl, v3, hw3⟩
  have hw0 : Wrote Wb w3 w2.heap.size v3 (encK m 0) := by
    have e : encK m 0 = [] ++ short kn := by unfold encK; rw [HKN.out]; simp
    rw [e]; exact hw3
  have HW : Hid (∃ v, Wrote Wb w3 w2.heap.size v (encK m 0)) := hid ⟨v3, hw0⟩
  clear hw3 hw0 HN0 ekn a0 a0b
  go_upto_if 23 with (go_at_call 26; (with_reducible refine (mhas0 HF HR0).mono ?_); rintro e wz ⟨rfl, rfl⟩)
  go_cut [6] (fun s wx => s = .pointer (some ⟨w2.heap.size, 0, none⟩) ∧ ∃ v, Wrote Wb wx w2.heap.size v (encK m 1))
  case first =>
    obtain ⟨v, hw⟩ := HW.out
    cases r0
    case false =>
      clear hw
      go_wp2_with fail
      go_meet
      exact ⟨rfl, by rw [encK_no HR0.out]; exact HW.out⟩
    case true =>
      have hx := HXB.out _ hw.mt
      have hbw := HBW.out _ hw.mt
      have hln := HLN.out
      obtain ⟨x, y, hx1, hy1, hx2, hy2⟩ := nat_pid (x := m.who.1) (y := m.who.2) HA.out.s.who
      have a1 : w3.cell? ⟨w.heap.size, 1, none⟩ = some (.int .u16 m.who.1) := hx.cell rfl
      have a2 : w3.cell? ⟨w.heap.size, 2, none⟩ = some (.int .u32 m.who.2) := hx.cell rfl
      rw [hx1] at a1
      rw [hy1] at a2
      have EQ : Hid (letF m 0 = short x ++ short y) := hid (pidF_of hx1 hy1)
      have N := hid (wPid_any x y hw.wr (by have := HLN.out.1 0 (by decide); omega) hx2 hy2)
      clear hx1 hy1
      have HWO := hid hw
      clear hw hx hbw hln
      go_wp2_with fail
      (with_reducible refine N.out.mono ?_)
      rintro e w9 ⟨rfl, v9, hw9⟩
      have HW9 := hid (HWO.out.step hw9)
      clear hw9 N
      go_wp2_with fail
      go_meet
      exact ⟨rfl, v9, by rw [encK_yes HR0.out, EQ.out]; exact HW9.out⟩
  case rest =>
  obtain ⟨rfl, hw⟩ := hcut
  rename World => wc0
  clear HW
  have HW := hid hw
  clear hw
  go_upto_if 29 with (go_at_call 26; (with_reducible refine (mhas1 HF HR1).mono ?_); rintro e wz ⟨rfl, rfl⟩)
  go_cut [6] (fun s wx => s = .pointer (some ⟨w2.heap.size, 0, none⟩) ∧ ∃ v, Wrote Wb wx w2.heap.size v (encK m 2))
  case first =>
    obtain ⟨v, hw⟩ := HW.out
    cases r1
    case false =>
      clear hw
      go_wp2_with fail
      go_meet
      exact ⟨rfl, by rw [encK_no HR1.out]; exact HW.out⟩
    case true =>
      have hx := HXB.out _ hw.mt
      have hbw := HBW.out _ hw.mt
      have hln := HLN.out
      have a3 : wc0.cell? ⟨w.heap.size, 3, none⟩ = some (.int .u64 m.vw) := hx.cell rfl
      have EQ : Hid (letF m 1 = short m.vw) := hid rfl
      have N := hid (wNum_any m.vw hw.wr (by have := HLN.out.1 1 (by decide); omega) (by have := HOK.out.nums; omega))
      have HWO := hid hw
      clear hw hx hbw hln
      go_wp2_with fail
      (with_reducible refine N.out.mono ?_)
      rintro e w9 ⟨rfl, v9, hw9⟩
      have HW9 := hid (HWO.out.step hw9)
      clear hw9 N
      go_wp2_with fail
      go_meet
      exact ⟨rfl, v9, by rw [encK_yes HR1.out, EQ.out]; exact HW9.out⟩
  case rest =>
  obtain ⟨rfl, hw⟩ := hcut
  rename World => wc1
  clear HW
  have HW := hid hw
  clear hw
  go_upto_if 35 with (go_at_call 26; (with_reducible refine (mhas2 HF HR2).mono ?_); rintro e wz ⟨rfl, rfl⟩)
  go_cut [6] (fun s wx => s = .pointer (some ⟨w2.heap.size, 0, none⟩) ∧ ∃ v, Wrote Wb wx w2.heap.size v (encK m 3))
  case first =>
    obtain ⟨v, hw⟩ := HW.out
    cases r2
    case false =>
      clear hw
      go_wp2_with fail
      go_meet
      exact ⟨rfl, by rw [encK_no HR2.out]; exact HW.out⟩
    case true =>
      have hx := HXB.out _ hw.mt
      have hbw := HBW.out _ hw.mt
      have hln := HLN.out
      have a4 : wc1.cell? ⟨w.heap.size, 4, none⟩ = some (.int .u64 m.sl) := hx.cell rfl
      have EQ : Hid (letF m 2 = short m.sl) := hid rfl
      have N := hid (wNum_any m.sl hw.wr (by have := HLN.out.1 2 (by decide); omega) (by have := HOK.out.nums; omega))
      have HWO := hid hw
      clear hw hx hbw hln
      go_wp2_with fail
      (with_reducible refine N.out.mono ?_)
      rintro e w9 ⟨rfl, v9, hw9⟩
      have HW9 := hid (HWO.out.step hw9)
      clear hw9 N
      go_wp2_with fail
      go_meet
      exact ⟨rfl, v9, by rw [encK_yes HR2.out, EQ.out]; exact HW9.out⟩
  case rest =>
  obtain ⟨rfl, hw⟩ := hcut
  rename World => wc2
  clear HW
  have HW := hid hw
  clear hw
  go_upto_if 41 with (go_at_call 26; (with_reducible refine (mhas3 HF HR3).mono ?_); rintro e wz ⟨rfl, rfl⟩)
  go_cut [6] (fun s wx => s = .pointer (some ⟨w2.heap.size, 0, none⟩) ∧ ∃ v, Wrote Wb wx w2.heap.size v (encK m 4))
  case first =>
    obtain ⟨v, hw⟩ := HW.out
    cases r3
    case false =>
      clear hw
      go_wp2_with fail
      go_meet
      exact ⟨rfl, by rw [encK_no HR3.out]; exact HW.out⟩
    case true =>
      have hx := HXB.out _ hw.mt
      have hbw := HBW.out _ hw.mt
      have hln := HLN.out
      obtain ⟨x, y, hx1, hy1, hx2, hy2⟩ := nat_pid (x := m.b.2.1) (y := m.b.2.2) HA.out.s.b
      have a7 : wc2.cell? ⟨w.heap.size, 7, none⟩ = some (.int .u32 m.b.1) := hx.cell rfl
      have a8 : wc2.cell? ⟨w.heap.size, 8, none⟩ = some (.int .u16 m.b.2.1) := hx.cell rfl
      have a9 : wc2.cell? ⟨w.heap.size, 9, none⟩ = some (.int .u32 m.b.2.2) := hx.cell rfl
      rw [hx1] at a8
      rw [hy1] at a9
      have EQ : Hid (letF m 3 = short m.b.1 ++ (short x ++ short y)) := hid (by show balF m.b = _; unfold balF; rw [pidF_of hx1 hy1])
      have N := hid (wBal_any m.b.1 x y hw.wr (by have := HLN.out.1 3 (by decide); omega) HA.out.brd hx2 hy2)
      clear hx1 hy1
      have HWO := hid hw
      clear hw hx hbw hln
      go_wp2_with fail
      (with_reducible refine N.out.mono ?_)
      rintro e w9 ⟨rfl, v9, hw9⟩
      have HW9 := hid (HWO.out.step hw9)
      clear hw9 N
      go_wp2_with fail
      go_meet
      exact ⟨rfl, v9, by rw [encK_yes HR3.out, EQ.out]; exact HW9.out⟩
  case rest =>
  obtain ⟨rfl, hw⟩ := hcut
  rename World => wc3
  clear HW
  have HW := hid hw
  clear hw
  go_upto_if 47 with (go_at_call 26; (with_reducible refine (mhas4 HF HR4).mono ?_); rintro e wz ⟨rfl, rfl⟩)
  go_cut [6] (fun s wx => s = .pointer (some ⟨w2.heap.size, 0, none⟩) ∧ ∃ v, Wrote Wb wx w2.heap.size v (encK m 5))
  case first =>
    obtain ⟨v, hw⟩ := HW.out
    cases r4
    case false =>
      clear hw
      go_wp2_with fail
      go_meet
      exact ⟨rfl, by rw [encK_no HR4.out]; exact HW.out⟩
    case true =>
      have hx := HXB.out _ hw.mt
      have hbw := HBW.out _ hw.mt
      have hln := HLN.out
      have a5 : wc3.cell? ⟨w.heap.size, 5, none⟩ = some (.int .u64 m.num) := hx.cell rfl
      have EQ : Hid (letF m 4 = short m.num) := hid rfl
      have N := hid (wNum_any m.num hw.wr (by have := HLN.out.1 4 (by decide); omega) (by have := HOK.out.nums; omega))
      have HWO := hid hw
      clear hw hx hbw hln
      go_wp2_with fail
      (with_reducible refine N.out.mono ?_)
      rintro e w9 ⟨rfl, v9, hw9⟩
      have HW9 := hid (HWO.out.step hw9)
      clear hw9 N
      go_wp2_with fail
      go_meet
      exact ⟨rfl, v9, by rw [encK_yes HR4.out, EQ.out]; exact HW9.out⟩
  case rest =>
  obtain ⟨rfl, hw⟩ := hcut
  rename World => wc4
  clear HW
  have HW := hid hw
  clear hw
  go_upto_if 53 with (go_at_call 26; (with_reducible refine (mhas5 HF HR5).mono ?_); rintro e wz ⟨rfl, rfl⟩)
  go_cut [6] (fun s wx => s = .pointer (some ⟨w2.heap.size, 0, none⟩) ∧ ∃ v, Wrote Wb wx w2.heap.size v (encK m 6))
  case first =>
    obtain ⟨v, hw⟩ := HW.out
    cases r5
    case false =>
      clear hw
      go_wp2_with fail
      go_meet
      exact ⟨rfl, by rw [encK_no HR5.out]; exact HW.out⟩
    case true =>
      have hx := HXB.out _ hw.mt
      have hbw := HBW.out _ hw.mt
      have hln := HLN.out
      obtain ⟨hn, hhn⟩ : ∃ hn : Nat, m.hops = (hn : Int) := ⟨m.hops.toNat, by have := HOK.out.hops; omega⟩
      have hn4 : hn ≤ 4 := by have := HOK.out.hops; omega
      have a6 : wc4.cell? ⟨w.heap.size, 6, none⟩ = some (.int .i64 m.hops) := hx.cell rfl
      rw [hhn] at a6
      have EQ : Hid (letF m 5 = short hn) := hid (by show short m.hops.toNat = _; rw [hhn]; rfl)
      have N := hid (wNum_any hn hw.wr (by have := HLN.out.1 5 (by decide); omega) (by omega))
      have ehn : IntKind.u64.wrap ((hn : Nat) : Int) = ((hn : Nat) : Int) := by rw [IntKind.wrap_u64]; omega
      clear hhn
      have HWO := hid hw
      clear hw hx hbw hln
      go_wp2_with fail
      (with_reducible refine N.out.mono ?_)
      rintro e w9 ⟨rfl, v9, hw9⟩
      have HW9 := hid (HWO.out.step hw9)
      clear hw9 N
      go_wp2_with fail
      go_meet
      exact ⟨rfl, v9, by rw [encK_yes HR5.out, EQ.out]; exact HW9.out⟩
  case rest =>
  obtain ⟨rfl, hw⟩ := hcut
  rename World => wc5
  clear HW
  have HW := hid hw
  clear hw
  go_upto_if 60 with (go_at_call 26; (with_reducible refine (mhas6 HF HR6).mono ?_); rintro e wz ⟨rfl, rfl⟩)
  go_cut [6] (fun s wx => s = .pointer (some ⟨w2.heap.size, 0, none⟩) ∧ ∃ v, Wrote Wb wx w2.heap.size v (encK m 7))
  case first =>
    obtain ⟨v, hw⟩ := HW.out
    cases r6
    case false =>
      clear hw
      go_wp2_with fail
      go_meet
      exact ⟨rfl, by rw [encK_no HR6.out]; exact HW.out⟩
    case true =>
      have hx := HXB.out _ hw.mt
      have hbw := HBW.out _ hw.mt
      have hln := HLN.out
      obtain ⟨hh, hhe⟩ : ∃ b, m.has = b := ⟨_, rfl⟩
      have a13 : wc5.cell? ⟨w.heap.size, 13, none⟩ = some (.bool m.has) := hx.cell rfl
      rw [hhe] at a13
      have N := hid (wTruth_any hh hw.wr (by have := HLN.out.1 6 (by decide); omega))
      have HH := hid hhe
      clear hhe
      have HWO := hid hw
      clear hw hx hbw hln
      go_wp2_with fail
      (with_reducible refine N.out.mono ?_)
      rintro e w9 ⟨rfl, v9, hw9⟩
      have hw91 := HWO.out.step hw9
      have HW9 := hid hw91
      have b13 : w9.cell? ⟨w.heap.size, 13, none⟩ = some (.bool hh) := by rw [← HH.out]; exact (HXB.out _ hw91.mt).cell rfl
      clear hw9 hw91 N a13
      cases hh
      case false =>
        go_wp2_with fail
        go_meet
        exact ⟨rfl, v9, by
          have e : letF m 6 = short 0 := by show (if m.has then _ else _) = _; rw [HH.out]; rfl
          rw [encK_yes HR6.out, e]; exact HW9.out⟩
      case true =>
        obtain ⟨x, y, hx1, hy1, hx2, hy2⟩ := nat_pid (x := m.a.2.1) (y := m.a.2.2) HA.out.s.a
        have hx9 := HXB.out _ HW9.out.mt
        have b10 : w9.cell? ⟨w.heap.size, 10, none⟩ = some (.int .u32 m.a.1) := hx9.cell rfl
        have b11 : w9.cell? ⟨w.heap.size, 11, none⟩ = some (.int .u16 m.a.2.1) := hx9.cell rfl
        have b12 : w9.cell? ⟨w.heap.size, 12, none⟩ = some (.int .u32 m.a.2.2) := hx9.cell rfl
        rw [hx1] at b11
        rw [hy1] at b12
        have l1 := short_len10 (n := 1) (by decide)
        have l2 := short_len10 (n := m.a.1) (by have := HA.out.ard; omega)
        have l3 := short_len10 (n := x) (by omega)
        have l4 := short_len10 (n := y) (by omega)
        have l0 : (encK m 6).length ≤ 200 := by have := HLN.out.1 6 (by decide); omega
        have EQ : Hid (letF m 6 = short 1 ++ ((short m.a.1 ++ (short x ++ short y)) ++ cmdF m.c)) := hid (by show (if m.has then _ else _) = _; rw [HH.out]; simp only [if_true]; unfold balF; rw [pidF_of hx1 hy1])
        have N2 := hid (wBal_any m.a.1 x y HW9.out.wr (by simp only [List.length_append, if_true]; omega) HA.out.ard hx2 hy2)
        clear hx1 hy1 hx9
        go_wp2_with fail
        (with_reducible refine N2.out.mono ?_)
        rintro e w10 ⟨rfl, v10, hw10⟩
        have hw101 := HW9.out.step hw10
        have xm := HXB.out _ hw101.mt
        have hbw := HBW.out _ hw101.mt
        have N3 : Hid (Calls Tryz.prog 70 #[.pointer (some ⟨w2.heap.size, 0, none⟩), .agg (cmdV A m.c)] w10 fun e w' => e = .returned (.tuple #[]) ∧ ∃ v', Wrote w10 w' w2.heap.size v' (((encK m 6 ++ short (if true = true then 1 else 0)) ++ (short m.a.1 ++ (short x ++ short y))) ++ cmdF m.c)) := hid (cmdPut_any (dc := A.dc) (cm := A.cm) (cl := A.cl) (cd := A.cd) hw101.wr (by simp only [List.length_append, if_true]; omega) (HA.out.r.c.dr.ext hbw) HA.out.r.c.db HA.out.cdl (HA.out.r.c.dr.far HS02.out) HA.out.r.c.v hbw HS02.out HA.out.s.fr HA.out.s.cwf HA.out.cin.wf.id HA.out.s.csum (HOK.out.a HH.out).2)
        have HW10 := hid hw101
        clear hw10 hw101 hbw N2 b10 b11 b12 b13
        go_wp2_with (refine wpList_loadMC xm rfl rfl rfl ?_)
        (with_reducible refine N3.out.mono ?_)
        rintro e w11 ⟨rfl, v11, hw11⟩
        have HW11 := hid (HW10.out.step hw11)
        clear hw11 N3 xm
        go_wp2_with fail
        go_meet
        exact ⟨rfl, v11, by
          have := HW11.out
          rw [encK_yes HR6.out, EQ.out]
          simp only [List.append_assoc, if_true] at this ⊢
          exact this⟩
  case rest =>
  obtain ⟨rfl, hw⟩ := hcut
  rename World => wc6
  clear HW
  have HW := hid hw
  clear hw
  go_upto_if 76 with (go_at_call 26; (with_reducible refine (mhas7 HF HR7).mono ?_); rintro e wz ⟨rfl, rfl⟩)
  go_cut [6] (fun s wx => s = .pointer (some ⟨w2.heap.size, 0, none⟩) ∧ ∃ v, Wrote Wb wx w2.heap.size v (encK m 8))
  case first =>
    obtain ⟨v, hw⟩ := HW.out
    cases r7
    case false =>
      clear hw
      go_wp2_with fail
      go_meet
      exact ⟨rfl, by rw [encK_no HR7.out]; exact HW.out⟩
    case true =>
      have hx := HXB.out _ hw.mt
      have hbw := HBW.out _ hw.mt
      have hln := HLN.out
      have EQ : Hid (letF m 7 = cmdF m.c) := hid rfl
      have N : Hid (Calls Tryz.prog 70 #[.pointer (some ⟨w2.heap.size, 0, none⟩), .agg (cmdV A m.c)] wc6 fun e w' => e = .returned (.tuple #[]) ∧ ∃ v', Wrote wc6 w' w2.heap.size v' (encK m 7 ++ cmdF m.c)) := hid (cmdPut_any (dc := A.dc) (cm := A.cm) (cl := A.cl) (cd := A.cd) hw.wr (by have := HLN.out.2.1; omega) (HA.out.r.c.dr.ext hbw) HA.out.r.c.db HA.out.cdl (HA.out.r.c.dr.far HS02.out) HA.out.r.c.v hbw HS02.out HA.out.s.fr HA.out.s.cwf HA.out.cin.wf.id HA.out.s.csum (HOK.out.c HR7.out))
      have xm := hx
      have HWO := hid hw
      clear hw hx hbw hln
      go_wp2_with (refine wpList_loadMC xm rfl rfl rfl ?_)
      (with_reducible refine N.out.mono ?_)
      rintro e w9 ⟨rfl, v9, hw9⟩
      have HW9 := hid (HWO.out.step hw9)
      clear hw9 N
      go_wp2_with fail
      go_meet
      exact ⟨rfl, v9, by rw [encK_yes HR7.out, EQ.out]; exact HW9.out⟩
  case rest =>
  obtain ⟨rfl, hw⟩ := hcut
  rename World => wc7
  clear HW
  have HW := hid hw
  clear hw
  go_upto_if 82 with (go_at_call 26; (with_reducible refine (mhas8 HF HR8).mono ?_); rintro e wz ⟨rfl, rfl⟩)
  go_cut [6] (fun s wx => s = .pointer (some ⟨w2.heap.size, 0, none⟩) ∧ ∃ v, Wrote Wb wx w2.heap.size v (encK m 9))
  case first =>
    obtain ⟨v, hw⟩ := HW.out
    cases r8
    case false =>
      clear hw
      go_wp2_with fail
      go_meet
      exact ⟨rfl, by rw [encK_no HR8.out]; exact HW.out⟩
    case true =>
      have hx := HXB.out _ hw.mt
      have hbw := HBW.out _ hw.mt
      have hln := HLN.out
      obtain ⟨vi, hvi⟩ : ∃ vi : Nat, m.v.id = (vi : Int) := ⟨m.v.id.toNat, by have := HA.out.vid; omega⟩
      have hv64 : vi < 18446744073709551616 := by have := HA.out.vid; omega
      have hck : checkB m.v = true := (check_eq m.v HA.out.s.vwf).trans (HOK.out.v HR8.out)
      have hL := laid_of_check HA.out.s.vwf hck
      have a24 : wc7.cell? ⟨w.heap.size, 24, none⟩ = some (.int .u64 m.v.id) := hx.cell rfl
      have a25 : wc7.cell? ⟨w.heap.size, 25, none⟩ = some (.slice A.vm m.v.ms.length A.em) := hx.cell rfl
      have a26 : wc7.cell? ⟨w.heap.size, 26, none⟩ = some (.slice A.vl m.v.ls.length A.el) := hx.cell rfl
      have a27 : wc7.cell? ⟨w.heap.size, 27, none⟩ = some (.slice A.vd m.v.ds.length A.ed) := hx.cell rfl
      rw [hvi] at a24
      have EQ : Hid (letF m 8 = viewF m.v) := hid rfl
      have N := hid (viewPut_any (cm := A.em) (cl := A.el) (cd := A.ed) hvi hv64 hw.wr (by have := HLN.out.2.2.1; omega) HA.out.r.v hbw HS02.out HA.out.s.vwf (by have := hL.lm; omega) (by have := hL.ll; omega) (by have := hL.ld.2; omega) (fun l hl => by have := (hL.le l hl).2; omega) HA.out.s.vsum hck)
      clear hvi hck hL
      have HWO := hid hw
      clear hw hx hbw hln
      go_wp2_with fail
      (with_reducible refine N.out.mono ?_)
      rintro e w9 ⟨rfl, v9, hw9⟩
      have HW9 := hid (HWO.out.step hw9)
      clear hw9 N
      go_wp2_with fail
      go_meet
      exact ⟨rfl, v9, by rw [encK_yes HR8.out, EQ.out]; exact HW9.out⟩
  case rest =>
  obtain ⟨rfl, hw⟩ := hcut
  rename World => wc8
  clear HW
  have HW := hid hw
  clear hw
  go_upto_if 88 with (go_at_call 26; (with_reducible refine (mhas9 HF HR9).mono ?_); rintro e wz ⟨rfl, rfl⟩)
  go_cut [6] (fun s wx => s = .pointer (some ⟨w2.heap.size, 0, none⟩) ∧ ∃ v, Wrote Wb wx w2.heap.size v (encK m 10))
  case first =>
    obtain ⟨v, hw⟩ := HW.out
    cases r9
    case false =>
      clear hw
      go_wp2_with fail
      go_meet
      exact ⟨rfl, by rw [encK_no HR9.out]; exact HW.out⟩
    case true =>
      have hx := HXB.out _ hw.mt
      have hbw := HBW.out _ hw.mt
      have hln := HLN.out
      have a28 : wc8.cell? ⟨w.heap.size, 28, none⟩ = some (.slice A.ya m.y.length A.yc) := hx.cell rfl
      have EQ : Hid (letF m 9 = short m.y.length ++ m.y) := hid rfl
      have N := hid (wBytes_any (c := A.yc) (n := m.y.length) hw.wr (by have := HLN.out.2.2.2.1; omega) (hid rfl) (by have := HOK.out.len; omega) (HA.out.r.yr.ext hbw) (HA.out.r.yr.far HS02.out))
      have HWO := hid hw
      clear hw hx hbw hln
      go_wp2_with fail
      (with_reducible refine N.out.mono ?_)
      rintro e w9 ⟨rfl, v9, hw9⟩
      have HW9 := hid (HWO.out.step hw9)
      clear hw9 N
      go_wp2_with fail
      go_meet
      exact ⟨rfl, v9, by rw [encK_yes HR9.out, EQ.out]; exact HW9.out⟩
  case rest =>
  obtain ⟨rfl, hw⟩ := hcut
  rename World => wc9
  clear HW
  have HW := hid hw
  clear hw
  obtain ⟨v, hw⟩ := HW.out
  rw [encK_10] at hw
  have hl : (msgF m).length ≤ 890700 := by rw [← encK_10]; exact HLN.out.2.2.2.2
  have D := hid (wDone_any hw.wr (by omega))
  have HBE := hid (HBW.out _ hw.mt)
  clear hw
  go_wp2_with fail
  (with_reducible refine D.out.mono ?_)
  rintro e w9 ⟨v9, rfl, hown9, hb9⟩
  have HO9 := hid (hown9.mono HBE.out.size)
  have HB9 := hid (HBE.out.trans (hb9.mono HBE.out.size))
  clear hown9 hb9 D
  go_wp2
  go_ret2
  exact ⟨v9, rfl, HO9.out, HB9.out⟩
end Go.Proofs.YtppapeoainafbaaGreatDoor


