/- Parts of the proof: Z13 Z14. -/
import Derived.Test.YtppapeoainafbaaDoorX45d
namespace Go.Proofs.YtppapeoainafbaaDoor
open Go.RowKit
/-! ### the reference's Text of a command -/
set_option maxRecDepth 100000 in
set_option maxHeartbeats 6400000 in
theorem refText_any {A : CmdD} {da am al ad : Option Addr} {dc cm cl cd : Nat} {w : World} (hA : CmdR w da am al ad A) (hsum : lens A.v.ls ≤ 549755813888) (hwf : WfPids A.v.ms) (hfr : okP A.fr) (hdl : A.data.length ≤ 400) :
    Calls Tryd.prog 13 #[.agg (cmdL da am al ad dc cm cl cd A)] w fun e w' => e = .returned (.string ⟨(textP A).toArray⟩) ∧ Below w.heap.size w w' := by
  obtain ⟨W1, hW1⟩ : ∃ W1, w.alloc (.cells (cmdL da am al ad dc cm cl cd A) 41) = W1 := ⟨_, rfl⟩
  have hb1 : Below w.heap.size w W1 := by rw [← hW1]; exact (Below.refl _ _).alloc (Nat.le_refl _) _
  have xA : CmdBox W1 w.heap.size A da am al ad dc cm cl cd := by rw [← hW1]; exact CmdBox.made (c := A) w
  have hA1 := hA.ext hb1
  have C1 := hid (cmdCheckR_any (da := da) (dc := dc) (cm := cm) (cl := cl) (cd := cd) hA1.v hsum hfr)
  have hl : ∀ (x : CmdD) (da am al ad : Option Addr) (dc cm cl cd : Nat), cmdL da am al ad dc cm cl cd x = #[.int .i64 x.kind, .int .u16 x.fr.1, .int .u32 x.fr.2, .int .u64 x.num, .int .u64 x.vw, .slice da x.data.length dc, .int .u64 x.v.id, .slice am x.v.ms.length cm, .slice al x.v.ls.length cl, .slice ad x.v.ds.length cd] := fun _ _ _ _ _ _ _ _ _ => rfl
  simp only [hl] at C1 hW1 ⊢
  obtain ⟨a0, a1, a2, a3, a4, a5, a6, a7, a8, a9⟩ := id xA
  have HB1 := hid hb1
  have HA1 := hid hA1
  have HX := hid xA
  obtain ⟨ck, hck⟩ : ∃ ck, cmdChk A = ck := ⟨_, rfl⟩
  rw [hck] at C1
  clear hb1 hA hA1 xA hl
  by_cases h0 : ck = 0
  · subst h0
    have HCK := hid hck
    clear hck
    rcases chk_kind HCK.out with hk | hk | hk
    · have HR := hid (text_1 HCK.out hk)
      have k2 : (A.kind == 2) = false := by rw [hk]; rfl
      have k3 : (A.kind == 3) = false := by rw [hk]; rfl
      clear hk
      go_enter Tryd.func13, Tryd.ntmps13
      go_wp2_with fail
      (refine C1.out.mono ?_)
      rintro e w2 ⟨rfl, hb2⟩
      have HB2 := hid (HB1.out.trans (hb2.mono HB1.out.size))
      obtain ⟨a0, -, -, -, -, -, -, -, -, -⟩ := HX.out.ext hb2 HX.out.lt
      clear hb2 C1 hW1
      go_wp2_with fail
      go_ret
      exact ⟨by rw [HR.out]; rfl, HB2.out⟩
    · have HR := hid (text_2 HCK.out hk)
      have k2 : (A.kind == 2) = true := by rw [hk]; rfl
      have hcnt : A.num ≤ 4611686018427387904 ∧ A.vw ≤ 4611686018427387904 := by
        have h := HCK.out
        unfold cmdChk at h
        rw [if_neg (by omega), if_pos hk] at h
        split at h
        · next hc =>
          have h1 := hc.2.1
          have h2 := hc.2.2.1
          unfold cntB at h1 h2
          simp at h1 h2
          omega
        · cases h
      obtain ⟨fx1, fx2, fy1, fy2⟩ := hfr
      have ex : ((A.fr.1.toNat : Nat) : Int) = A.fr.1 := Int.toNat_of_nonneg fx1
      have ey : ((A.fr.2.toNat : Nat) : Int) = A.fr.2 := Int.toNat_of_nonneg fy1
      have hpl : (printP A.fr).length ≤ 50 := by
        obtain ⟨l0, l1⟩ := printP_len (x := A.fr.1.toNat) (y := A.fr.2.toNat) (by omega) (by omega)
        unfold printP; simp only [List.length_append, List.length_cons]; omega
      have hn1 := dec_len A.num 19 (by omega)
      have hn2 := dec_len A.vw 19 (by omega)
      have hhx : (hexP A.data).length ≤ 800 := by rw [hexP_len]; omega
      have hsd : sendP A = [115, 101, 110, 100, 32] ++ printP A.fr ++ [32] ++ Lib.decDigits A.num ++ [32] ++ Lib.decDigits A.vw ++ [32, 120] ++ hexP A.data := rfl
      obtain ⟨PP, hPP⟩ : ∃ PP, printP A.fr = PP := ⟨_, rfl⟩
      obtain ⟨N1, hN1⟩ : ∃ N1, Lib.decDigits A.num = N1 := ⟨_, rfl⟩
      obtain ⟨N2, hN2⟩ : ∃ N2, Lib.decDigits A.vw = N2 := ⟨_, rfl⟩
      obtain ⟨HH, hHH⟩ : ∃ HH, hexP A.data = HH := ⟨_, rfl⟩
      rw [hPP, hN1, hN2, hHH] at hsd
      rw [hPP] at hpl
      rw [hN1] at hn1
      rw [hN2] at hn2
      rw [hHH] at hhx
      have b1 := run_cat [115, 101, 110, 100, 32] PP (by simp) (by omega)
      have b2 := run_cat ([115, 101, 110, 100, 32] ++ PP) [32] (by simp; omega) (by simp)
      have b3 := run_cat ([115, 101, 110, 100, 32] ++ PP ++ [32]) N1 (by simp; omega) (by omega)
      have b4 := run_cat ([115, 101, 110, 100, 32] ++ PP ++ [32] ++ N1) [32] (by simp; omega) (by simp)
      have b5 := run_cat ([115, 101, 110, 100, 32] ++ PP ++ [32] ++ N1 ++ [32]) N2 (by simp; omega) (by omega)
      have b6 := run_cat ([115, 101, 110, 100, 32] ++ PP ++ [32] ++ N1 ++ [32] ++ N2) [32, 120] (by simp; omega) (by simp)
      have b7 := run_cat ([115, 101, 110, 100, 32] ++ PP ++ [32] ++ N1 ++ [32] ++ N2 ++ [32, 120]) HH (by simp; omega) (by omega)
      obtain ⟨T1, hT1⟩ : ∃ T1, [115, 101, 110, 100, 32] ++ PP = T1 := ⟨_, rfl⟩
      rw [hT1] at b1 b2 b3 b4 b5 b6 b7 hsd
      obtain ⟨T2, hT2⟩ : ∃ T2, T1 ++ [32] = T2 := ⟨_, rfl⟩
      rw [hT2] at b2 b3 b4 b5 b6 b7 hsd
      obtain ⟨T3, hT3⟩ : ∃ T3, T2 ++ N1 = T3 := ⟨_, rfl⟩
      rw [hT3] at b3 b4 b5 b6 b7 hsd
      obtain ⟨T4, hT4⟩ : ∃ T4, T3 ++ [32] = T4 := ⟨_, rfl⟩
      rw [hT4] at b4 b5 b6 b7 hsd
      obtain ⟨T5, hT5⟩ : ∃ T5, T4 ++ N2 = T5 := ⟨_, rfl⟩
      rw [hT5] at b5 b6 b7 hsd
      obtain ⟨T6, hT6⟩ : ∃ T6, T5 ++ [32, 120] = T6 := ⟨_, rfl⟩
      rw [hT6] at b6 b7 hsd
      obtain ⟨T7, hT7⟩ : ∃ T7, T6 ++ HH = T7 := ⟨_, rfl⟩
      rw [hT7] at b7 hsd
      rw [hsd] at HR
      have CP : ∀ W2, Below W1.heap.size W1 W2 → ∀ U : ExtW W2, Calls Tryd.prog 9 #[.agg #[.int .u16 A.fr.1, .int .u32 A.fr.2]] U.W fun e w' => e = .returned (.string ⟨PP.toArray⟩) ∧ ∃ U' : ExtW W2, w' = U'.W := fun W2 h U => by
        have := refPrint_any (x := A.fr.1.toNat) (y := A.fr.2.toNat) (by omega) (by omega) U.W
        rw [ex, ey, show (A.fr.1, A.fr.2) = A.fr from rfl, hPP] at this
        exact quiet_of this rfl
      have CF : ∀ W2, Below W1.heap.size W1 W2 → ∀ U : ExtW W2, Calls Tryd.prog 21 #[.int .u64 A.num] U.W fun e w' => e = .returned (.string ⟨N1.toArray⟩) ∧ ∃ U' : ExtW W2, w' = U'.W := fun W2 h U => quiet_of (digits_any A.num (by omega) U.W) (by rw [hN1])
      have CG : ∀ W2, Below W1.heap.size W1 W2 → ∀ U : ExtW W2, Calls Tryd.prog 21 #[.int .u64 A.vw] U.W fun e w' => e = .returned (.string ⟨N2.toArray⟩) ∧ ∃ U' : ExtW W2, w' = U'.W := fun W2 h U => quiet_of (digits_any A.vw (by omega) U.W) (by rw [hN2])
      have CH : ∀ W2, Below W1.heap.size W1 W2 → ∀ U : ExtW W2, Calls Tryd.prog 30 #[.slice da A.data.length dc] U.W fun e w' => e = .returned (.string ⟨HH.toArray⟩) ∧ ∃ U' : ExtW W2, w' = U'.W := fun W2 h U => quiet_of (refHex_any (hid rfl) (by omega) HA1.out.db ((HA1.out.dr.ext h).ext U.h)) (by rw [hHH])
      have HP := hid CP
      have HF := hid CF
      have HG := hid CG
      have HH' := hid CH
      clear hk hcnt hsd hpl hn1 hn2 hhx CP CF CG CH hT1 hT2 hT3 hT4 hT5 hT6 hT7 hPP hN1 hN2 hHH ex ey fx1 fx2 fy1 fy2
      go_enter Tryd.func13, Tryd.ntmps13
      go_wp2_with fail
      (refine C1.out.mono ?_)
      rintro e w2 ⟨rfl, hb2⟩
      have HB2 := hid (HB1.out.trans (hb2.mono HB1.out.size))
      have P2 := hid (HP.out w2 hb2)
      have F2 := hid (HF.out w2 hb2)
      have G2 := hid (HG.out w2 hb2)
      have H2 := hid (HH'.out w2 hb2)
      obtain ⟨a0, a1, a2, a3, a4, a5, -, -, -, -⟩ := HX.out.ext hb2 HX.out.lt
      have f1 := cell_extY a1
      have f2 := cell_extY a2
      have f3 := cell_extY a3
      have f4 := cell_extY a4
      have f5 := cell_extY a5
      clear hb2 C1 hW1 HP HF HG HH' a1 a2 a3 a4 a5
      go_wp2_with fail
      refine wp_region_ext (w := w2) (Below.refl _ _) (by kernel_rfl) (by kernel_rfl) ?_
      repeat (go_big_quiet_step (first | with_reducible exact P2.out _ | with_reducible exact F2.out _ | with_reducible exact G2.out _ | with_reducible exact H2.out _))
      refine wpQuiet_nil ?_
      rintro w9 ⟨⟨_, hb9⟩, rfl⟩
      have HB9 := hid (HB2.out.trans (hb9.mono HB2.out.size))
      clear hb9 f1 f2 f3 f4 f5 b1 b2 b3 b4 b5 b6 b7 P2 F2 G2 H2
      go_wp2_with fail
      go_ret
      exact ⟨by rw [HR.out]; rfl, HB9.out⟩
    · have HR := hid (text_3 HCK.out hk)
      have k2 : (A.kind == 2) = false := by rw [hk]; rfl
      have k3 : (A.kind == 3) = true := by rw [hk]; rfl
      have hcb : checkB A.v = true := by rw [check_eq _ hwf]; exact (chk_3 HCK.out hk).2.2.2.2
      obtain ⟨hid0, -⟩ := check_parts hcb
      have hii : A.v.id = ((A.v.id.toNat : Nat) : Int) := (Int.toNat_of_nonneg hid0).symm
      have hvl : (viewP A.v).length ≤ 8000000 := by have := viewP_len hcb hwf; omega
      have ad1 := run_cat [118, 105, 101, 119, 32] (viewP A.v) (by simp) hvl
      obtain ⟨T, hT⟩ : ∃ T, [118, 105, 101, 119, 32] ++ viewP A.v = T := ⟨_, rfl⟩
      rw [hT] at ad1 HR
      obtain ⟨VP, hVP⟩ : ∃ VP, viewP A.v = VP := ⟨_, rfl⟩
      rw [hVP] at ad1
      have CV : Hid (∀ W, Below W1.heap.size W1 W → Calls Tryd.prog 31 #[.agg #[.int .u64 A.v.id, .slice am A.v.ms.length cm, .slice al A.v.ls.length cl, .slice ad A.v.ds.length cd]] W fun e w' => e = .returned (.string ⟨VP.toArray⟩) ∧ Below W.heap.size W w') := hid fun W h => by
        have := refViewPrint_any (cm := cm) (cl := cl) (cd := cd) hii (HA1.out.ext h).v hwf (hid hcb)
        rw [← hii, hVP] at this
        exact this
      clear hk hcb hid0 hii hvl hT hVP
      go_enter Tryd.func13, Tryd.ntmps13
      go_wp2_with fail
      (refine C1.out.mono ?_)
      rintro e w2 ⟨rfl, hb2⟩
      have HB2 := hid (HB1.out.trans (hb2.mono HB1.out.size))
      have CV2 := hid (CV.out w2 hb2)
      obtain ⟨a0, -, -, -, -, -, a6, a7, a8, a9⟩ := HX.out.ext hb2 HX.out.lt
      clear hb2 C1 hW1 CV
      go_wp2_with fail
      (refine CV2.out.mono ?_)
      rintro e w3 ⟨rfl, hb3⟩
      have HB3 := hid (HB2.out.trans (hb3.mono HB2.out.size))
      clear hb3 CV2 a0 a6 a7 a8 a9
      go_wp2_with fail
      go_ret
      exact ⟨by rw [HR.out]; rfl, HB3.out⟩
  · have HR : Hid (textP A = [63]) := hid (text_no (by rw [hck]; exact h0))
    have i1 : ¬ (ck : Int) = 0 := by omega
    clear hck h0
    go_enter Tryd.func13, Tryd.ntmps13
    go_wp2_with fail
    (refine C1.out.mono ?_)
    rintro e w2 ⟨rfl, hb2⟩
    have HB2 := hid (HB1.out.trans (hb2.mono HB1.out.size))
    clear hb2 C1 hW1 a0 a1 a2 a3 a4 a5 a6 a7 a8 a9
    go_wp2_with fail
    go_ret
    exact ⟨by rw [HR.out]; rfl, HB2.out⟩
end Go.Proofs.YtppapeoainafbaaDoor

namespace Go.Proofs.YtppapeoainafbaaDoor
open Go.RowKit
/-! ### the law CmdTexts -/
set_option maxRecDepth 100000 in
set_option maxHeartbeats 12800000 in
theorem cmdTexts_law {A B : CmdD} {da am al ad db bm bl bd : Option Addr} {dc cm cl cd ec em el ed : Nat} {w : World} (hA : CmdIn w da am al ad A) (hB : CmdIn w db bm bl bd B) (ht : TabOk w) :
    Calls Tryd.prog 4 #[.agg (cmdL da am al ad dc cm cl cd A), .agg (cmdL db bm bl bd ec em el ed B)] w fun e w' => e = .returned (.bool true) ∧ Below w.heap.size w w' := by
  have hl : ∀ (x : CmdD) (da am al ad : Option Addr) (dc cm cl cd : Nat), cmdL da am al ad dc cm cl cd x = #[.int .i64 x.kind, .int .u16 x.fr.1, .int .u32 x.fr.2, .int .u64 x.num, .int .u64 x.vw, .slice da x.data.length dc, .int .u64 x.v.id, .slice am x.v.ms.length cm, .slice al x.v.ls.length cl, .slice ad x.v.ds.length cd] := fun _ _ _ _ _ _ _ _ _ => rfl
  obtain ⟨W2, hW2⟩ : ∃ W2, ((w.alloc (.cells (cmdL da am al ad dc cm cl cd A) 41)).alloc (.cells (cmdL db bm bl bd ec em el ed B) 41)) = W2 := ⟨_, rfl⟩
  have hB2 : Below w.heap.size w W2 := by rw [← hW2]; exact ((Below.refl _ _).alloc (Nat.le_refl _) _).alloc (by simp) _
  have xA : CmdBox W2 w.heap.size A da am al ad dc cm cl cd := by rw [← hW2]; exact (CmdBox.made (c := A) w).ext ((Below.refl _ _).alloc (Nat.le_refl _) _) (by simp)
  have xB : CmdBox W2 (w.heap.size + 1) B db bm bl bd ec em el ed := by
    rw [← hW2]
    have := CmdBox.made (c := B) (da := db) (am := bm) (al := bl) (ad := bd) (dc := ec) (cm := em) (cl := el) (cd := ed) (w.alloc (.cells (cmdL da am al ad dc cm cl cd A) 41))
    simpa using this
  have hA2 := hA.ext hB2
  have hB22 := hB.ext hB2
  have XA : Hid (∀ W, Below W2.heap.size W2 W → CmdBox W w.heap.size A da am al ad dc cm cl cd) := hid fun W h => xA.ext h xA.lt
  have XB : Hid (∀ W, Below W2.heap.size W2 W → CmdBox W (w.heap.size + 1) B db bm bl bd ec em el ed) := hid fun W h => xB.ext h xB.lt
  have HB2 := hid hB2
  have HA2 := hid hA2
  have HB22 := hid hB22
  obtain ⟨ga, hga⟩ : ∃ r, greatC A = r := ⟨_, rfl⟩
  obtain ⟨gb, hgb⟩ : ∃ r, greatC B = r := ⟨_, rfl⟩
  have GA : Hid (∀ W, Below W2.heap.size W2 W → Calls Tryd.prog 10 #[.agg (cmdL da am al ad dc cm cl cd A)] W fun e w' => e = .returned (.bool ga) ∧ Below W2.heap.size W2 w') := hid fun W h => relB h (cmdGreat_is (hid hga) (hA2.v.ext h))
  have GB : Hid (∀ W, Below W2.heap.size W2 W → Calls Tryd.prog 10 #[.agg (cmdL db bm bl bd ec em el ed B)] W fun e w' => e = .returned (.bool gb) ∧ Below W2.heap.size W2 w') := hid fun W h => relB h (cmdGreat_is (hid hgb) (hB22.v.ext h))
  have AW : Hid (∀ W, Below W2.heap.size W2 W → Calls Tryd.prog 11 #[] W fun e w' => e = .returned (.bool true) ∧ Below W2.heap.size W2 w') := hid fun W h => relB h (awakeC_any W)
  obtain ⟨sm, hsm⟩ : ∃ r, sameC A B = r := ⟨_, rfl⟩
  have CS : Hid (greatC A = false → greatC B = false → ∀ W, Below W2.heap.size W2 W → Calls Tryd.prog 14 #[.agg (cmdL da am al ad dc cm cl cd A), .agg (cmdL db bm bl bd ec em el ed B)] W fun e w' => e = .returned (.bool sm) ∧ Below W2.heap.size W2 w') := hid fun g g2 W h => relB h (cmdSameR_is (hid hsm) ((hA2.ext h).r g) ((hB22.ext h).r g2))
  obtain ⟨ta, hta⟩ : ∃ t, textP A = t := ⟨_, rfl⟩
  obtain ⟨tb, htb⟩ : ∃ t, textP B = t := ⟨_, rfl⟩
  have TA : Hid (greatC A = false → ∀ W, Below W2.heap.size W2 W → ∀ U : ExtW W, Calls Tryd.prog 12 #[.agg (cmdL da am al ad dc cm cl cd A)] U.W fun e w' => e = .returned (.string ⟨ta.toArray⟩) ∧ ∃ U' : ExtW W, w' = U'.W) := hid fun g W h U => quiet_of (cmdText_any (((hA2.ext h).ext U.h).r g) (by have := (greatC_no g).2; omega) hA2.wf.ms hA2.fr (greatC_no g).1 (((ht.ext hB2).ext h).ext U.h)) (by rw [hta])
  have TB : Hid (greatC B = false → ∀ W, Below W2.heap.size W2 W → ∀ U : ExtW W, Calls Tryd.prog 12 #[.agg (cmdL db bm bl bd ec em el ed B)] U.W fun e w' => e = .returned (.string ⟨tb.toArray⟩) ∧ ∃ U' : ExtW W, w' = U'.W) := hid fun g W h U => quiet_of (cmdText_any (((hB22.ext h).ext U.h).r g) (by have := (greatC_no g).2; omega) hB22.wf.ms hB22.fr (greatC_no g).1 (((ht.ext hB2).ext h).ext U.h)) (by rw [htb])
  have RA : Hid (greatC A = false → ∀ W, Below W2.heap.size W2 W → Calls Tryd.prog 13 #[.agg (cmdL da am al ad dc cm cl cd A)] W fun e w' => e = .returned (.string ⟨ta.toArray⟩) ∧ Below W2.heap.size W2 w') := hid fun g W h => by
    have := refText_any (dc := dc) (cm := cm) (cl := cl) (cd := cd) ((hA2.ext h).r g) (by have := (greatC_no g).2; omega) hA2.wf.ms hA2.fr (greatC_no g).1
    rw [hta] at this
    exact relB h this
  have RB : Hid (greatC B = false → ∀ W, Below W2.heap.size W2 W → Calls Tryd.prog 13 #[.agg (cmdL db bm bl bd ec em el ed B)] W fun e w' => e = .returned (.string ⟨tb.toArray⟩) ∧ Below W2.heap.size W2 w') := hid fun g W h => by
    have := refText_any (dc := ec) (cm := em) (cl := el) (cd := ed) ((hB22.ext h).r g) (by have := (greatC_no g).2; omega) hB22.wf.ms hB22.fr (greatC_no g).1
    rw [htb] at this
    exact relB h this
  have PL : Hid (greatC A = false → greatC B = false → ta = tb → ta ≠ [63] → sm = true) := hid fun g1 g2 e ne => by
    have := text_inj hA2.fr hB22.fr (hA2.r g1).db (hB22.r g2).db hA2.wf.ms hB22.wf.ms (by rw [hta, htb]; exact e) (by rw [hta]; exact ne)
    rw [← hsm, this]
    exact same_self B
  have H2 := Below.refl W2.heap.size W2
  obtain ⟨a0, a1, a2, a3, a4, a5, a6, a7, a8, a9⟩ := id xA
  obtain ⟨b0, b1, b2, b3, b4, b5, b6, b7, b8, b9⟩ := id xB
  have HGA := hid hga
  have HGB := hid hgb
  have HSM := hid hsm
  have HW2 := hid hW2
  clear hB2 xA xB hA2 hB22 hga hgb hsm hta htb ht
  have fA : ∀ W, Below W2.heap.size W2 W → CmdBox W w.heap.size A da am al ad dc cm cl cd ∧ CmdBox W (w.heap.size + 1) B db bm bl bd ec em el ed := fun W h => ⟨XA.out W h, XB.out W h⟩
  have FA := hid fA
  clear fA
  simp only [hl] at GA GB CS TA TB RA RB hW2 ⊢
  cases ga
  case true =>
    go_enter Tryd.func4, Tryd.ntmps4
    go_wp2_with (first
      | (go_at_call 10; (with_reducible refine (GA.out _ H2).mono ?_); rintro e w3 ⟨rfl, hb3⟩; clear a0 a1 a2 a3 a4 a5 a6 a7 a8 a9 b0 b1 b2 b3 b4 b5 b6 b7 b8 b9; obtain ⟨⟨a0, a1, a2, a3, a4, a5, a6, a7, a8, a9⟩, ⟨b0, b1, b2, b3, b4, b5, b6, b7, b8, b9⟩⟩ := FA.out _ hb3)
      | (go_at_call 11; (with_reducible refine (AW.out _ hb3).mono ?_); rintro e w9 ⟨rfl, hb9⟩))
    go_ret
    exact ⟨rfl, HB2.out.trans (hb9.mono HB2.out.size)⟩
  cases gb
  case true =>
    go_enter Tryd.func4, Tryd.ntmps4
    go_wp2_with (first
      | (go_at_call 10; (with_reducible refine (GA.out _ H2).mono ?_); rintro e w3 ⟨rfl, hb3⟩; clear a0 a1 a2 a3 a4 a5 a6 a7 a8 a9 b0 b1 b2 b3 b4 b5 b6 b7 b8 b9; obtain ⟨⟨a0, a1, a2, a3, a4, a5, a6, a7, a8, a9⟩, ⟨b0, b1, b2, b3, b4, b5, b6, b7, b8, b9⟩⟩ := FA.out _ hb3)
      | (go_at_call 10; (with_reducible refine (GB.out _ hb3).mono ?_); rintro e w4 ⟨rfl, hb4⟩; clear a0 a1 a2 a3 a4 a5 a6 a7 a8 a9 b0 b1 b2 b3 b4 b5 b6 b7 b8 b9; obtain ⟨⟨a0, a1, a2, a3, a4, a5, a6, a7, a8, a9⟩, ⟨b0, b1, b2, b3, b4, b5, b6, b7, b8, b9⟩⟩ := FA.out _ hb4)
      | (go_at_call 11; (with_reducible refine (AW.out _ hb4).mono ?_); rintro e w9 ⟨rfl, hb9⟩))
    go_ret
    exact ⟨rfl, HB2.out.trans (hb9.mono HB2.out.size)⟩
  go_enter Tryd.func4, Tryd.ntmps4
  go_wp2_with (first
    | (go_at_call 10; (with_reducible refine (GA.out _ H2).mono ?_); rintro e w3 ⟨rfl, hb3⟩; clear a0 a1 a2 a3 a4 a5 a6 a7 a8 a9 b0 b1 b2 b3 b4 b5 b6 b7 b8 b9; obtain ⟨⟨a0, a1, a2, a3, a4, a5, a6, a7, a8, a9⟩, ⟨b0, b1, b2, b3, b4, b5, b6, b7, b8, b9⟩⟩ := FA.out _ hb3)
    | (go_at_call 10; (with_reducible refine (GB.out _ hb3).mono ?_); rintro e w4 ⟨rfl, hb4⟩; clear a0 a1 a2 a3 a4 a5 a6 a7 a8 a9 b0 b1 b2 b3 b4 b5 b6 b7 b8 b9; obtain ⟨⟨a0, a1, a2, a3, a4, a5, a6, a7, a8, a9⟩, ⟨b0, b1, b2, b3, b4, b5, b6, b7, b8, b9⟩⟩ := FA.out _ hb4))
  have T4 := hid (TA.out HGA.out w4 hb4)
  have U4 := hid (TB.out HGB.out w4 hb4)
  have fa0 := cell_extY a0
  have fb0 := cell_extY b0
  have fa1 := cell_extY a1
  have fb1 := cell_extY b1
  have fa2 := cell_extY a2
  have fb2 := cell_extY b2
  have fa3 := cell_extY a3
  have fb3 := cell_extY b3
  have fa4 := cell_extY a4
  have fb4 := cell_extY b4
  have fa5 := cell_extY a5
  have fb5 := cell_extY b5
  have fa6 := cell_extY a6
  have fb6 := cell_extY b6
  have fa7 := cell_extY a7
  have fb7 := cell_extY b7
  have fa8 := cell_extY a8
  have fb8 := cell_extY b8
  have fa9 := cell_extY a9
  have fb9 := cell_extY b9
  refine wp_region_ext (w := w4) (Below.refl _ _) (by kernel_rfl) (by kernel_rfl) ?_
  repeat (go_big_quiet_step (first | with_reducible exact T4.out _ | with_reducible exact U4.out _))
  refine wpQuiet_nil ?_
  rintro _ ⟨⟨w5, hb5'⟩, rfl⟩
  have hb5 := hb4.trans (hb5'.mono hb4.size)
  clear fa0 fb0 fa1 fb1 fa2 fb2 fa3 fb3 fa4 fb4 fa5 fb5 fa6 fb6 fa7 fb7 fa8 fb8 fa9 fb9 T4 U4
  clear a0 a1 a2 a3 a4 a5 a6 a7 a8 a9 b0 b1 b2 b3 b4 b5 b6 b7 b8 b9; obtain ⟨⟨a0, a1, a2, a3, a4, a5, a6, a7, a8, a9⟩, ⟨b0, b1, b2, b3, b4, b5, b6, b7, b8, b9⟩⟩ := FA.out _ hb5
  clear hb5' hb3 hb4 TA TB
  by_cases hte : ta = tb
  · have PL2 := hid (PL.out HGA.out HGB.out hte)
    by_cases hq : ta = [63]
    · have u1 : (ta != tb) = false := by simp [hte]
      have u2 : (ta == tb) = true := by simp [hte]
      have u3 : (ta == [63]) = true := by simp [hq]
      have HTE := hid hte
      have HQ := hid hq
      clear hte hq PL PL2
      go_wp2_with (first
        | (go_at_call 13; (with_reducible refine (RA.out HGA.out _ hb5).mono ?_); rintro e w6 ⟨rfl, hb6⟩; clear a0 a1 a2 a3 a4 a5 a6 a7 a8 a9 b0 b1 b2 b3 b4 b5 b6 b7 b8 b9; obtain ⟨⟨a0, a1, a2, a3, a4, a5, a6, a7, a8, a9⟩, ⟨b0, b1, b2, b3, b4, b5, b6, b7, b8, b9⟩⟩ := FA.out _ hb6)
        | (go_at_call 13; (with_reducible refine (RB.out HGB.out _ hb6).mono ?_); rintro e w7 ⟨rfl, hb7⟩; clear a0 a1 a2 a3 a4 a5 a6 a7 a8 a9 b0 b1 b2 b3 b4 b5 b6 b7 b8 b9; obtain ⟨⟨a0, a1, a2, a3, a4, a5, a6, a7, a8, a9⟩, ⟨b0, b1, b2, b3, b4, b5, b6, b7, b8, b9⟩⟩ := FA.out _ hb7)
        | (go_at_call 14; (with_reducible refine (CS.out HGA.out HGB.out _ hb7).mono ?_); rintro e w8 ⟨rfl, hb8⟩)
        | (go_at_call 11; (with_reducible refine (AW.out _ (by assumption)).mono ?_); rintro e w9 ⟨rfl, hb9⟩))
      go_ret
      exact ⟨rfl, HB2.out.trans (hb9.mono HB2.out.size)⟩
    · have hsm := PL2.out hq
      subst hsm
      have u1 : (ta != tb) = false := by simp [hte]
      have u2 : (ta == tb) = true := by simp [hte]
      have u3 : (ta == [63]) = false := by simpa using hq
      have HTE := hid hte
      clear hte hq PL PL2
      go_wp2_with (first
        | (go_at_call 13; (with_reducible refine (RA.out HGA.out _ hb5).mono ?_); rintro e w6 ⟨rfl, hb6⟩; clear a0 a1 a2 a3 a4 a5 a6 a7 a8 a9 b0 b1 b2 b3 b4 b5 b6 b7 b8 b9; obtain ⟨⟨a0, a1, a2, a3, a4, a5, a6, a7, a8, a9⟩, ⟨b0, b1, b2, b3, b4, b5, b6, b7, b8, b9⟩⟩ := FA.out _ hb6)
        | (go_at_call 13; (with_reducible refine (RB.out HGB.out _ hb6).mono ?_); rintro e w7 ⟨rfl, hb7⟩; clear a0 a1 a2 a3 a4 a5 a6 a7 a8 a9 b0 b1 b2 b3 b4 b5 b6 b7 b8 b9; obtain ⟨⟨a0, a1, a2, a3, a4, a5, a6, a7, a8, a9⟩, ⟨b0, b1, b2, b3, b4, b5, b6, b7, b8, b9⟩⟩ := FA.out _ hb7)
        | (go_at_call 14; (with_reducible refine (CS.out HGA.out HGB.out _ hb7).mono ?_); rintro e w8 ⟨rfl, hb8⟩)
        | (go_at_call 11; (with_reducible refine (AW.out _ (by assumption)).mono ?_); rintro e w9 ⟨rfl, hb9⟩))
      go_ret
      exact ⟨rfl, HB2.out.trans (hb9.mono HB2.out.size)⟩
  · have u1 : (ta != tb) = true := by simpa using hte
    have u2 : (ta == tb) = false := by simpa using hte
    clear hte PL
    go_wp2_with (first
      | (go_at_call 13; (with_reducible refine (RA.out HGA.out _ hb5).mono ?_); rintro e w6 ⟨rfl, hb6⟩; clear a0 a1 a2 a3 a4 a5 a6 a7 a8 a9 b0 b1 b2 b3 b4 b5 b6 b7 b8 b9; obtain ⟨⟨a0, a1, a2, a3, a4, a5, a6, a7, a8, a9⟩, ⟨b0, b1, b2, b3, b4, b5, b6, b7, b8, b9⟩⟩ := FA.out _ hb6)
      | (go_at_call 13; (with_reducible refine (RB.out HGB.out _ hb6).mono ?_); rintro e w7 ⟨rfl, hb7⟩; clear a0 a1 a2 a3 a4 a5 a6 a7 a8 a9 b0 b1 b2 b3 b4 b5 b6 b7 b8 b9; obtain ⟨⟨a0, a1, a2, a3, a4, a5, a6, a7, a8, a9⟩, ⟨b0, b1, b2, b3, b4, b5, b6, b7, b8, b9⟩⟩ := FA.out _ hb7)
      | (go_at_call 14; (with_reducible refine (CS.out HGA.out HGB.out _ hb7).mono ?_); rintro e w8 ⟨rfl, hb8⟩)
      | (go_at_call 11; (with_reducible refine (AW.out _ (by assumption)).mono ?_); rintro e w9 ⟨rfl, hb9⟩))
    go_ret
    exact ⟨rfl, HB2.out.trans (hb9.mono HB2.out.size)⟩
end Go.Proofs.YtppapeoainafbaaDoor

