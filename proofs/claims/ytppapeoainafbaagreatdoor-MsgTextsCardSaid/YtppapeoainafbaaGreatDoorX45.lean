/- Parts of the proof: X45. -/
import Derived.Test.YtppapeoainafbaaGreatDoorGMsgTexts7
namespace Go.Proofs.YtppapeoainafbaaGreatDoor
open Go.RowKit

/-! ### the reference's Check of a command -/
def sentB (A : CmdD) : Bool := mayP A.fr && (cntB A.num && cntB A.vw)
def bareB (A : CmdD) : Bool := decide (A.fr = (0, 0)) && (decide (A.num = 0) && (decide (A.vw = 0) && decide (A.data = [])))
theorem mayP_R {p : Pid} (_ : 0 ≤ p.2) : mayR p = mayP p := by
  rfl
theorem cmdChk_R (A : CmdD) : cmdChk A = if A.kind = 1 then (if bareB A && sameB A.v zeroV then 0 else 1) else if A.kind = 2 then (if sentB A && sameB A.v zeroV then (if 200 < A.data.length then 14 else 0) else 1) else if A.kind = 3 then (if bareB A && refCheckB A.v then 0 else 1) else 1 := by
  unfold cmdChk bareB sentB
  rw [sameB_zero]
  simp only [Bool.and_eq_true, decide_eq_true_eq, and_assoc]
theorem neqp (x y : Int) (w : World) : (binOp .eql 25 (.agg #[.int .u16 x, .int .u32 y]) (.agg #[.int .u16 0, .int .u32 0])).run Tryz.prog w = .ok (.bool (decide ((x, y) = ((0 : Int), (0 : Int))))) w := eql_pid x y 0 0 w
set_option maxRecDepth 100000 in
set_option maxHeartbeats 1600000 in
theorem none_any {V : View} {am al ad : Option Addr} {cm cl cd : Nat} {w : World} {r : Bool} (h : Hid (sameB V zeroV = r)) (hV : ViewR w am al ad V) :
   Calls Tryz.prog 113 #[.agg #[.int .u64 V.id, .slice am V.ms.length cm, .slice al V.ls.length cl, .slice ad V.ds.length cd]] w fun e w' => e = .returned (.bool r) ∧ Below w.heap.size w w' := by
  have hB : Below w.heap.size w (w.alloc (.cells #[.int .u64 V.id, .slice am V.ms.length cm, .slice al V.ls.length cl, .slice ad V.ds.length cd] 33)) := (Below.refl _ _).alloc (Nat.le_refl _) _
  have C := refSame_is (cm := cm) (cl := cl) (cd := cd) (em := 0) (el := 0) (ed := 0) h (hV.ext hB) (viewR_zero _)
  have HC : Hid (Calls Tryz.prog 16 #[.agg #[.int .u64 V.id, .slice am V.ms.length cm, .slice al V.ls.length cl, .slice ad V.ds.length cd], .agg #[.int .u64 0, .slice none 0 0, .slice none 0 0, .slice none 0 0]] (w.alloc (.cells #[.int .u64 V.id, .slice am V.ms.length cm, .slice al V.ls.length cl, .slice ad V.ds.length cd] 33)) fun e w' => e = .returned (.bool r) ∧ Below (w.alloc (.cells #[.int .u64 V.id, .slice am V.ms.length cm, .slice al V.ls.length cl, .slice ad V.ds.length cd] 33)).heap.size (w.alloc (.cells #[.int .u64 V.id, .slice am V.ms.length cm, .slice al V.ls.length cl, .slice ad V.ds.length cd] 33)) w') := hid C
  clear C
  go_enter Tryz.func113, Tryz.ntmps113
  go_wp2_with fail
  (with_reducible refine HC.out.mono ?_)
  rintro e w3 ⟨rfl, hb3⟩
  go_wp2
  go_ret
  exact ⟨rfl, hB.trans (hb3.mono hB.size)⟩
set_option maxRecDepth 100000 in
set_option maxHeartbeats 12800000 in
theorem cmdCheckR_any {A : CmdD} {da am al ad : Option Addr} {dc cm cl cd : Nat} {w : World} (hV : ViewR w am al ad A.v) (hsum : lens A.v.ls ≤ 549755813888) (hfr : okP A.fr) :
   Calls Tryz.prog 78 #[.agg (cmdL da am al ad dc cm cl cd A)] w fun e w' => e = .returned (.int .i64 (cmdChk A)) ∧ Below w.heap.size w w' := by
  have x1 : CmdBox (w.alloc (.cells (cmdL da am al ad dc cm cl cd A) 35)) w.heap.size A da am al ad dc cm cl cd := CmdBox.made (c := A) w
  have hB1 : Below w.heap.size w (w.alloc (.cells (cmdL da am al ad dc cm cl cd A) 35)) := (Below.refl _ _).alloc (Nat.le_refl _) _
  have hl : ∀ (x : CmdD) (da am al ad : Option Addr) (dc cm cl cd : Nat), cmdL da am al ad dc cm cl cd x = #[.int .i64 x.kind, .int .u16 x.fr.1, .int .u32 x.fr.2, .int .u64 x.num, .int .u64 x.vw, .slice da x.data.length dc, .int .u64 x.v.id, .slice am x.v.ms.length cm, .slice al x.v.ls.length cl, .slice ad x.v.ds.length cd] := fun _ _ _ _ _ _ _ _ _ => rfl
  rw [hl] at x1 hB1 ⊢
  obtain ⟨W1, hW1⟩ : ∃ W1, (w.alloc (.cells #[.int .i64 A.kind, .int .u16 A.fr.1, .int .u32 A.fr.2, .int .u64 A.num, .int .u64 A.vw, .slice da A.data.length dc, .int .u64 A.v.id, .slice am A.v.ms.length cm, .slice al A.v.ls.length cl, .slice ad A.v.ds.length cd] 35)) = W1 := ⟨_, rfl⟩
  rw [hW1] at x1 hB1
  have hV1 := hV.ext hB1
  have XW : Hid (∀ W, Below W1.heap.size W1 W → CmdBox W w.heap.size A da am al ad dc cm cl cd) := hid fun W h => x1.ext h x1.lt
  have HV1 := hid hV1
  have HB1 := hid hB1
  have HM := hid (mayP_R (p := A.fr) hfr.2.2.1)
  have CM : Hid (Calls Tryz.prog 61 #[.agg #[.int .u16 A.fr.1, .int .u32 A.fr.2]] W1 fun e w' => e = .returned (.bool (mayP A.fr)) ∧ Below W1.heap.size W1 w') := hid (by
    have := mayR_any A.fr.1 A.fr.2 W1
    rw [show (A.fr.1, A.fr.2) = A.fr from rfl, HM.out] at this; exact this)
  have heq := neqp A.fr.1 A.fr.2
  obtain ⟨a0, a1, a2, a3, a4, a5, a6, a7, a8, a9⟩ := id x1
  have HW1 := hid hW1
  clear x1 hB1 hV hV1 hfr
  go_enter Tryz.func78, Tryz.ntmps78
  go_upto_region 1 with fail
  go_cut [3] (fun sl wx => sl = .bool (sentB A) ∧ Below W1.heap.size W1 wx)
  case first =>
    cases hm : mayP A.fr
    · have HS : Hid (sentB A = false) := hid (by unfold sentB; rw [hm]; rfl)
      rw [hm] at CM
      clear hm
      go_wp2_with fail
      refine CM.out.mono ?_
      rintro e w3 ⟨rfl, hb3⟩
      obtain ⟨b0, b1, b2, b3, b4, b5, b6, b7, b8, b9⟩ := XW.out _ hb3
      go_wp2_with fail
      go_meet
      exact ⟨by rw [HS.out], hb3⟩
    · rw [hm] at CM
      by_cases k0 : 1 ≤ A.num
      · have p1 : decide ((A.num : Int) ≥ 1) = true := by simp <;> omega
        have p2 : decide ((1 : Int) ≤ (A.num : Int)) = true := by simp <;> omega
        have p3 : decide (1 ≤ A.num) = true := by simp <;> omega
        by_cases k1 : A.num ≤ 4611686018427387904
        · have p4 : decide ((A.num : Int) ≤ 4611686018427387904) = true := by simp <;> omega
          have p5 : decide (A.num ≤ 4611686018427387904) = true := by simp <;> omega
          by_cases k2 : 1 ≤ A.vw
          · have p6 : decide ((A.vw : Int) ≥ 1) = true := by simp <;> omega
            have p7 : decide ((1 : Int) ≤ (A.vw : Int)) = true := by simp <;> omega
            have p8 : decide (1 ≤ A.vw) = true := by simp <;> omega
            by_cases k3 : A.vw ≤ 4611686018427387904
            · have p9 : decide ((A.vw : Int) ≤ 4611686018427387904) = true := by simp <;> omega
              have q0 : decide (A.vw ≤ 4611686018427387904) = true := by simp <;> omega
              have HS : Hid (sentB A = true) := hid (by unfold sentB cntB; rw [hm]; simp; omega)
              clear hm k0 k1 k2 k3
              go_wp2_with fail
              refine CM.out.mono ?_
              rintro e w3 ⟨rfl, hb3⟩
              obtain ⟨b0, b1, b2, b3, b4, b5, b6, b7, b8, b9⟩ := XW.out _ hb3
              go_wp2_with fail
              go_meet
              exact ⟨by rw [HS.out], hb3⟩
            · have p9 : decide ((A.vw : Int) ≤ 4611686018427387904) = false := by simp <;> omega
              have q0 : decide (A.vw ≤ 4611686018427387904) = false := by simp <;> omega
              have HS : Hid (sentB A = false) := hid (by unfold sentB cntB; rw [hm]; simp; omega)
              clear hm k0 k1 k2 k3
              go_wp2_with fail
              refine CM.out.mono ?_
              rintro e w3 ⟨rfl, hb3⟩
              obtain ⟨b0, b1, b2, b3, b4, b5, b6, b7, b8, b9⟩ := XW.out _ hb3
              go_wp2_with fail
              go_meet
              exact ⟨by rw [HS.out], hb3⟩
          · have p6 : decide ((A.vw : Int) ≥ 1) = false := by simp <;> omega
            have p7 : decide ((1 : Int) ≤ (A.vw : Int)) = false := by simp <;> omega
            have p8 : decide (1 ≤ A.vw) = false := by simp <;> omega
            have HS : Hid (sentB A = false) := hid (by unfold sentB cntB; rw [hm]; simp; omega)
            clear hm k0 k1 k2
            go_wp2_with fail
            refine CM.out.mono ?_
            rintro e w3 ⟨rfl, hb3⟩
            obtain ⟨b0, b1, b2, b3, b4, b5, b6, b7, b8, b9⟩ := XW.out _ hb3
            go_wp2_with fail
            go_meet
            exact ⟨by rw [HS.out], hb3⟩
        · have p4 : decide ((A.num : Int) ≤ 4611686018427387904) = false := by simp <;> omega
          have p5 : decide (A.num ≤ 4611686018427387904) = false := by simp <;> omega
          have HS : Hid (sentB A = false) := hid (by unfold sentB cntB; rw [hm]; simp; omega)
          clear hm k0 k1
          go_wp2_with fail
          refine CM.out.mono ?_
          rintro e w3 ⟨rfl, hb3⟩
          obtain ⟨b0, b1, b2, b3, b4, b5, b6, b7, b8, b9⟩ := XW.out _ hb3
          go_wp2_with fail
          go_meet
          exact ⟨by rw [HS.out], hb3⟩
      · have p1 : decide ((A.num : Int) ≥ 1) = false := by simp <;> omega
        have p2 : decide ((1 : Int) ≤ (A.num : Int)) = false := by simp <;> omega
        have p3 : decide (1 ≤ A.num) = false := by simp <;> omega
        have HS : Hid (sentB A = false) := hid (by unfold sentB cntB; rw [hm]; simp; omega)
        clear hm k0
        go_wp2_with fail
        refine CM.out.mono ?_
        rintro e w3 ⟨rfl, hb3⟩
        obtain ⟨b0, b1, b2, b3, b4, b5, b6, b7, b8, b9⟩ := XW.out _ hb3
        go_wp2_with fail
        go_meet
        exact ⟨by rw [HS.out], hb3⟩
  case rest =>
  obtain ⟨rfl, hbx⟩ := hcut
  rename World => wx
  clear CM a0 a1 a2 a3 a4 a5 a6 a7 a8 a9 hW1
  obtain ⟨a0, a1, a2, a3, a4, a5, a6, a7, a8, a9⟩ := XW.out _ hbx
  go_upto_region 2 with fail
  go_cut [4] (fun sl w' => sl = .bool (bareB A) ∧ w' = wx)
  case first =>
    by_cases hf : A.fr = (0, 0)
    · have hfd : decide ((A.fr.1, A.fr.2) = ((0 : Int), (0 : Int))) = true := decide_eq_true (show (A.fr.1, A.fr.2) = ((0 : Int), (0 : Int)) from hf)
      rw [hfd] at heq
      clear hfd
      by_cases k0 : A.num = 0
      · have p1 : ((A.num : Int) == 0) = true := by simp <;> omega
        have p2 : decide (A.num = 0) = true := by simp <;> omega
        by_cases k1 : A.vw = 0
        · have p3 : ((A.vw : Int) == 0) = true := by simp <;> omega
          have p4 : decide (A.vw = 0) = true := by simp <;> omega
          by_cases k2 : A.data.length = 0
          · have p5 : ((A.data.length : Int) == 0) = true := by rw [k2]; rfl
            have p6 : decide (A.data.length = 0) = true := decide_eq_true k2
            have HS : Hid (bareB A = true) := hid (by unfold bareB; simp [hf, k0, k1, List.length_eq_zero_iff.1 k2])
            clear hf k0 k1 k2
            go_wp2_with fail
            go_meet
            exact ⟨by rw [HS.out], rfl⟩
          · have p5 : ((A.data.length : Int) == 0) = false := by simp only [beq_eq_false_iff_ne, ne_eq]; omega
            have p6 : decide (A.data.length = 0) = false := decide_eq_false k2
            have HS : Hid (bareB A = false) := hid (by unfold bareB; have h9 : ¬ A.data = [] := (fun e => k2 (by rw [e]; rfl)); simp [h9])
            clear hf k0 k1 k2
            go_wp2_with fail
            go_meet
            exact ⟨by rw [HS.out], rfl⟩
        · have p3 : ((A.vw : Int) == 0) = false := by simp <;> omega
          have p4 : decide (A.vw = 0) = false := by simp <;> omega
          have HS : Hid (bareB A = false) := hid (by unfold bareB; simp [k1])
          clear hf k0 k1
          go_wp2_with fail
          go_meet
          exact ⟨by rw [HS.out], rfl⟩
      · have p1 : ((A.num : Int) == 0) = false := by simp <;> omega
        have p2 : decide (A.num = 0) = false := by simp <;> omega
        have HS : Hid (bareB A = false) := hid (by unfold bareB; simp [k0])
        clear hf k0
        go_wp2_with fail
        go_meet
        exact ⟨by rw [HS.out], rfl⟩
    · have hfd : decide ((A.fr.1, A.fr.2) = ((0 : Int), (0 : Int))) = false := decide_eq_false (fun h => hf h)
      rw [hfd] at heq
      have HS : Hid (bareB A = false) := hid (by unfold bareB; simp [hf])
      clear hfd hf
      go_wp2_with fail
      go_meet
      exact ⟨by rw [HS.out], rfl⟩
  case rest =>
  obtain ⟨rfl, hw⟩ := hcut
  rename World => wy
  subst hw
  have HR := hid (cmdChk_R A)
  have HBX := hid hbx
  obtain ⟨z, hz⟩ : ∃ r, sameB A.v zeroV = r := ⟨_, rfl⟩
  have CZ := hid (none_any (cm := cm) (cl := cl) (cd := cd) (hid hz) (HV1.out.ext hbx))
  obtain ⟨rc, hrc⟩ : ∃ r, refCheckB A.v = r := ⟨_, rfl⟩
  have CR := hid (refCheck_is (cm := cm) (cl := cl) (cd := cd) (hid hrc) (HV1.out.ext hbx) hsum)
  have HZ := hid hz
  have HRC := hid hrc
  have hbw := HB1.out.trans (hbx.mono HB1.out.size)
  have HBW := hid hbw
  clear heq hbw hbx hz hrc
  by_cases h1 : A.kind = 1
  · rw [h1] at a0
    have H1 := hid h1
    clear h1
    cases hb : bareB A
    · have HBB := hid hb
      clear hb
      go_wp2
      go_ret
      exact ⟨by rw [HR.out]; simp [H1.out, HBB.out], HBW.out⟩
    · have HBB := hid hb
      clear hb
      cases z
      · go_wp2_with fail
        refine CZ.out.mono ?_
        rintro e w5 ⟨rfl, hb5⟩
        obtain ⟨c0, c1, c2, c3, c4, c5, c6, c7, c8, c9⟩ := XW.out _ (HBX.out.trans (hb5.mono HBX.out.size))
        go_wp2
        go_ret
        exact ⟨by rw [HR.out]; simp [H1.out, HBB.out, HZ.out], HBW.out.trans (hb5.mono HBW.out.size)⟩
      · go_wp2_with fail
        refine CZ.out.mono ?_
        rintro e w5 ⟨rfl, hb5⟩
        obtain ⟨c0, c1, c2, c3, c4, c5, c6, c7, c8, c9⟩ := XW.out _ (HBX.out.trans (hb5.mono HBX.out.size))
        go_wp2
        go_ret
        exact ⟨by rw [HR.out]; simp [H1.out, HBB.out, HZ.out], HBW.out.trans (hb5.mono HBW.out.size)⟩
  by_cases h2 : A.kind = 2
  · rw [h2] at a0
    have H2 := hid h2
    clear h1 h2
    cases hb : sentB A
    · have HBB := hid hb
      clear hb
      go_wp2
      go_ret
      exact ⟨by rw [HR.out]; simp [H2.out, HBB.out], HBW.out⟩
    · have HBB := hid hb
      clear hb
      cases z
      · go_wp2_with fail
        refine CZ.out.mono ?_
        rintro e w5 ⟨rfl, hb5⟩
        obtain ⟨c0, c1, c2, c3, c4, c5, c6, c7, c8, c9⟩ := XW.out _ (HBX.out.trans (hb5.mono HBX.out.size))
        go_wp2
        go_ret
        exact ⟨by rw [HR.out]; simp [H2.out, HBB.out, HZ.out], HBW.out.trans (hb5.mono HBW.out.size)⟩
      · by_cases hd : 200 < A.data.length
        · have d1 : decide ((A.data.length : Int) > 200) = true := by simp <;> omega
          have d2 : decide ((200 : Int) < (A.data.length : Int)) = true := by simp <;> omega
          have HD := hid hd
          clear hd
          go_wp2_with fail
          refine CZ.out.mono ?_
          rintro e w5 ⟨rfl, hb5⟩
          obtain ⟨c0, c1, c2, c3, c4, c5, c6, c7, c8, c9⟩ := XW.out _ (HBX.out.trans (hb5.mono HBX.out.size))
          go_wp2
          go_ret
          exact ⟨by rw [HR.out]; simp [H2.out, HBB.out, HZ.out, HD.out], HBW.out.trans (hb5.mono HBW.out.size)⟩
        · have d1 : decide ((A.data.length : Int) > 200) = false := by simp <;> omega
          have d2 : decide ((200 : Int) < (A.data.length : Int)) = false := by simp <;> omega
          have HD : Hid (¬ 200 < A.data.length) := hid hd
          clear hd
          go_wp2_with fail
          refine CZ.out.mono ?_
          rintro e w5 ⟨rfl, hb5⟩
          obtain ⟨c0, c1, c2, c3, c4, c5, c6, c7, c8, c9⟩ := XW.out _ (HBX.out.trans (hb5.mono HBX.out.size))
          go_wp2
          go_ret
          exact ⟨by rw [HR.out]; simp [H2.out, HBB.out, HZ.out, HD.out], HBW.out.trans (hb5.mono HBW.out.size)⟩
  by_cases h3 : A.kind = 3
  · rw [h3] at a0
    have H3 := hid h3
    clear h1 h2 h3
    cases hb : bareB A
    · have HBB := hid hb
      clear hb
      go_wp2
      go_ret
      exact ⟨by rw [HR.out]; simp [H3.out, HBB.out], HBW.out⟩
    · have HBB := hid hb
      clear hb
      cases rc
      · go_wp2_with fail
        refine CR.out.mono ?_
        rintro e w5 ⟨rfl, hb5⟩
        obtain ⟨c0, c1, c2, c3, c4, c5, c6, c7, c8, c9⟩ := XW.out _ (HBX.out.trans (hb5.mono HBX.out.size))
        go_wp2
        go_ret
        exact ⟨by rw [HR.out]; simp [H3.out, HBB.out, HRC.out], HBW.out.trans (hb5.mono HBW.out.size)⟩
      · go_wp2_with fail
        refine CR.out.mono ?_
        rintro e w5 ⟨rfl, hb5⟩
        obtain ⟨c0, c1, c2, c3, c4, c5, c6, c7, c8, c9⟩ := XW.out _ (HBX.out.trans (hb5.mono HBX.out.size))
        go_wp2
        go_ret
        exact ⟨by rw [HR.out]; simp [H3.out, HBB.out, HRC.out], HBW.out.trans (hb5.mono HBW.out.size)⟩
  have t1 : (A.kind == 1) = false := by simpa using h1
  have t2 : (A.kind == 2) = false := by simpa using h2
  have t3 : (A.kind == 3) = false := by simpa using h3
  have HK : Hid (¬ A.kind = 1 ∧ ¬ A.kind = 2 ∧ ¬ A.kind = 3) := hid ⟨h1, h2, h3⟩
  clear h1 h2 h3
  go_wp2
  go_ret
  exact ⟨by rw [HR.out]; simp [HK.out.1, HK.out.2.1, HK.out.2.2], HBW.out⟩
end Go.Proofs.YtppapeoainafbaaGreatDoor

