/- Parts of the proof: QF. -/
import Derived.Test.YtehagnbphamjhaaGreatDoorQC
namespace Go.Proofs.YtehagnbphamjhaaGreatDoor
open Go.RowKit
/-! ### the document's Step: its walk -/
theorem kindF_next {w0 : Str} {k : Nat} (h : 1 ≤ k) : kindF w0 k = if wordR (k : Int) = w0 then k else kindF w0 (k - 1) := by
  obtain ⟨j, rfl⟩ : ∃ j, k = j + 1 := ⟨k - 1, by omega⟩
  rfl
set_option maxRecDepth 100000 in
set_option maxHeartbeats 12800000 in
theorem refStep_any {s : Str} {w : World} (hs : s.length ≤ 900000) :
    Calls Tryz.prog 35 #[.string ⟨s.toArray⟩] w fun e w' => StepRes w.heap.size w' e (stepR s) ∧ Below w.heap.size w w' := by
  obtain ⟨r, hr⟩ : ∃ r, stepR s = r := ⟨_, rfl⟩
  rw [hr]
  obtain ⟨L, hL⟩ : ∃ L, Lib.split s [32] = L := ⟨_, rfl⟩
  obtain ⟨w0, rest, hsp⟩ := split_ne s 32
  obtain ⟨hl1, hl2⟩ := split_lens (c := 32) s.length (s := s) (Nat.le_refl _)
  have hL0 : L[0]? = some w0 := by rw [← hL, hsp]; rfl
  have hgd : L.getD 0 [] = w0 := by rw [← hL, hsp]; rfl
  have HK := hid (kindF_13 w0)
  have HH := hid (hasR_Z w0)
  have HXK := hid (shapeZ_kind w0)
  have hr2 := stepR_eq hL (congrArg shapeZ hgd)
  obtain ⟨x, hx⟩ : ∃ x, shapeZ w0 = x := ⟨_, rfl⟩
  rw [hx] at HK HH HXK hr2
  rw [hr] at hr2
  rw [hL] at hl1 hl2
  obtain ⟨n, hn⟩ : ∃ n, L.length = n := ⟨_, rfl⟩
  obtain ⟨W1, hW1⟩ : ∃ W1, w.alloc (.cells #[.int .i64 0, .int .i64 0, .int .i64 0, .slice none 0 0] 62) = W1 := ⟨_, rfl⟩
  have hb1 : Below w.heap.size w W1 := by rw [← hW1]; exact (Below.refl _ _).alloc (Nat.le_refl _) _
  have hx1 : Bx4 W1 w.heap.size (.int .i64 0) (.int .i64 0) (.int .i64 0) (.slice none 0 0) := by rw [← hW1]; exact Bx4.made _ _ _ _ _ _
  have C1 := refParts_any (s := s) (w := W1) (by omega)
  rw [hL, hn] at C1
  have C1 := hid C1
  have HR := hid hr2
  have HL0 := hid hL0
  have HN := hid hn
  have hn0 : 0 < n := by rw [← hn]; exact (List.getElem?_eq_some_iff.1 hL0).1
  have HLE := hid hl1
  have HNL : Hid (n ≤ 900001) := hid (by rw [hn] at hl2; omega)
  have HS := hid hs
  have HB1 := hid hb1
  have HX1 := hid hx1
  have HG1 : Hid (w.heap.size < W1.heap.size) := hid hx1.lt
  clear hr hL hsp hl1 hl2 hL0 hgd hr2 hx hn hs hb1 hx1
  go_enter Tryz.func35, Tryz.ntmps35
  go_wp2_with fail
  refine C1.out.mono ?_
  rintro e w2 ⟨pb, pc, rfl, hrow, hpb, hb2⟩
  obtain ⟨W3, hW3⟩ : ∃ W3, w2.alloc (.cells #[.int .i64 0, .int .i64 0, .int .i64 0, .slice none 0 0] 62) = W3 := ⟨_, rfl⟩
  have hb3 : Below w2.heap.size w2 W3 := by rw [← hW3]; exact (Below.refl _ _).alloc (Nat.le_refl _) _
  have hx3 : Bx4 W3 w2.heap.size (.int .i64 0) (.int .i64 0) (.int .i64 0) (.slice none 0 0) := by rw [← hW3]; exact Bx4.made _ _ _ _ _ _
  obtain ⟨sb, hsb⟩ : ∃ z, w2.heap.size = z := ⟨_, rfl⟩
  have hb23 : Below W1.heap.size W1 W3 := hb2.trans (hb3.mono hb2.size)
  have HB3 := hid (HB1.out.trans (hb23.mono HB1.out.size))
  have HX3 := hid (HX1.out.ext hb23)
  have HP3 := hid (hrow.ext hb3 hrow.1)
  have hg1 := hrow.1
  have hz12 := hb2.size
  rw [hsb] at hx3 hg1 hz12
  have HS3 := hid hx3
  have HG3 : Hid (w.heap.size < pb ∧ pb < sb ∧ sb < W3.heap.size) := hid ⟨by have := HG1.out; omega, hg1, hx3.lt⟩
  have HSB := hid hsb
  have HW3 := hid hW3
  clear hW3 hb3 hx3 hb23 hrow hpb hb2 C1 hW1 HX1 HB1 hg1 hz12 hsb
  go_upto_region 3 with fail
  rw [HW3.out]
  try rw [HSB.out]
  have HC : Hid (∀ W, Mut (fun q => q = sb ∨ W3.heap.size ≤ q) W3 W → W.cell? ⟨pb, 0, none⟩ = some (.string ⟨w0.toArray⟩)) := hid fun W h => (h.cell (p := ⟨pb, 0, none⟩) (by have := HG3.out; simp only; omega) (by have := HG3.out; simp only; omega)).trans (HP3.out.get HL0.out)
  go_wp2_with fail
  go_loopw [6] (fun iv wr => ∃ k : Nat, 1 ≤ k ∧ k ≤ 14 ∧ iv = .int .i64 k ∧ Hid (Bx4 wr sb (.int .i64 (kindF w0 (k - 1) : Nat)) (.int .i64 0) (.int .i64 0) (.slice none 0 0)) ∧ Hid (Mut (fun q => q = sb ∨ W3.heap.size ≤ q) W3 wr)) (fun iv _ => 14 - (intOf iv).toNat)
  case atStart => exact ⟨1, Nat.le_refl _, by omega, rfl, HS3, hid (Mut.refl _ _)⟩
  case round =>
    obtain ⟨k, hk1, hk, rfl, hbx, hmu⟩ := hrel
    by_cases hlt : k ≤ 13
    · have d1 : decide ((k : Int) ≤ 13) = true := decide_eq_true (by omega)
      have d2 : decide (k ≤ 13) = true := decide_eq_true hlt
      have CW := hid (refWord_any (k : Int) wr)
      obtain ⟨wd, hwd⟩ : ∃ wd, wordR (k : Int) = wd := ⟨_, rfl⟩
      rw [hwd] at CW
      have HWD := hid hwd
      clear hwd
      go_wp2_with fail
      refine CW.out.mono ?_
      rintro e w4 ⟨rfl, hb4⟩
      have HM4 : Hid (Mut (fun q => q = sb ∨ W3.heap.size ≤ q) W3 w4) := hid (hmu.out.trans ((Mut.of_below (F := fun q => wr.heap.size ≤ q) hb4).mono fun q _ e => .inr (Nat.le_trans hmu.out.size e)))
      have HB4 := hid (hbx.out.ext hb4)
      have p0 := HC.out w4 HM4.out
      have z0 := HB4.out.c0
      have zf := HB4.out.f
      clear hb4 CW
      by_cases hw : wd = w0
      · have g : (@BEq.beq (List UInt8) List.instBEq wd w0) = true := by simp [hw]
        have HKN : Hid (kindF w0 k = k) := hid (by rw [kindF_next hk1, HWD.out, if_pos hw])
        have HS5 := hid (HB4.out.set0 (.int .i64 (k : Int)))
        have HM5 := hid (mut_set HM4.out sb 0 (.int .i64 (k : Int)) (.inl rfl))
        clear hw
        go_wp2_with fail
        go_roundw
        case rel => exact ⟨k + 1, by omega, by omega, by go_num, hid (by rw [Nat.add_sub_cancel, HKN.out]; exact HS5.out), HM5⟩
        case measure => simp [intOf]; omega
      · have g : (@BEq.beq (List UInt8) List.instBEq wd w0) = false := by simpa using hw
        have HKN : Hid (kindF w0 k = kindF w0 (k - 1)) := hid (by rw [kindF_next hk1, HWD.out, if_neg hw])
        clear hw
        go_wp2_with fail
        go_roundw
        case rel => exact ⟨k + 1, by omega, by omega, by go_num, hid (by rw [Nat.add_sub_cancel, HKN.out]; exact HB4.out), HM4⟩
        case measure => simp [intOf]; omega
    · obtain rfl : k = 14 := by omega
      obtain ⟨xk, word, two, bytes⟩ := x
      simp only at HK HH HXK
      have HX6 : Hid (Bx4 wr sb (.int .i64 xk) (.int .i64 0) (.int .i64 0) (.slice none 0 0)) := hid (by have h := hbx.out; rw [show 14 - 1 = 13 from rfl, HK.out] at h; exact h)
      have HPC : Hid (∀ W j t, Mut (fun q => q = sb ∨ W3.heap.size ≤ q) W3 W → L[j]? = some t → W.cell? ⟨pb, j, none⟩ = some (.string ⟨t.toArray⟩)) := hid fun W j t h ht => (h.cell (p := ⟨pb, j, none⟩) (by have := HG3.out; simp only; omega) (by have := HG3.out; simp only; omega)).trans (HP3.out.get ht)
      have CW := refWord_any xk wr
      rw [HH.out] at CW
      obtain ⟨wd, hwd⟩ : ∃ wd, wordR xk = wd := ⟨_, rfl⟩
      rw [hwd] at CW
      clear hwd HC
      cases two <;> cases bytes
      · have CWH : Hid (Calls Tryz.prog 59 #[.int .i64 xk] wr fun e w' => e = .returned (.tuple #[.string ⟨wd.toArray⟩, .string ⟨([] : List UInt8).toArray⟩]) ∧ Below wr.heap.size wr w') := hid CW
        have HR : Hid (r = if L.length = 2 then (if lineP (readR ⟨xk, word, false, false⟩ L) = some (s ++ [10]) then some (readR ⟨xk, word, false, false⟩ L) else none) else none) := hid HR.out
        clear HH HK hbx CW
        have z0 := HX6.out.c0
        go_wp2_with fail
        refine CWH.out.mono ?_
        rintro e w4 ⟨rfl, hb4⟩
        have HM4 : Hid (Mut (fun q => q = sb ∨ W3.heap.size ≤ q) W3 w4) := hid (hmu.out.trans ((Mut.of_below (F := fun q => wr.heap.size ≤ q) hb4).mono fun q _ e => .inr (Nat.le_trans hmu.out.size e)))
        have HX4 := hid (HX6.out.ext hb4)
        clear hb4 CWH hmu HX6 z0
        by_cases hlen : n = 2
        · subst hlen
          have HRR : Hid (r = if lineP (readR ⟨xk, word, false, false⟩ L) = some (s ++ [10]) then some (readR ⟨xk, word, false, false⟩ L) else none) := hid (by rw [HR.out, if_pos HN.out])
          clear HR
          obtain ⟨t1, ht1⟩ : ∃ t, L[1]? = some t := ⟨L[1]'(by rw [HN.out]; decide), List.getElem?_eq_getElem _⟩
          have CV := hid (refValue_any (s := t1) (w := w4) (by have := HLE.out t1 (List.mem_of_getElem? ht1); have := HS.out; omega))
          obtain ⟨v1, hv1⟩ : ∃ v, valR t1 = v := ⟨_, rfl⟩
          rw [hv1] at CV
          have HV1 : Hid (valR (L.getD 1 []) = v1) := hid (by rw [List.getD_eq_getElem?_getD, ht1]; exact hv1)
          have p1 := HPC.out w4 1 t1 HM4.out ht1
          clear hv1 ht1
          go_wp2_with fail
          refine CV.out.mono ?_
          rintro e w5 ⟨rfl, hb5⟩
          clear CV p1
          have HM5 : Hid (Mut (fun q => q = sb ∨ W3.heap.size ≤ q) W3 w5) := hid (HM4.out.trans ((Mut.of_below (F := fun q => w4.heap.size ≤ q) hb5).mono fun q _ e => .inr (Nat.le_trans HM4.out.size e)))
          have HX5 := hid (HX4.out.ext hb5)
          clear hb5 HM4 HX4
          have z1 := HX5.out.c1
          have zf := HX5.out.f
          go_upto_region 13 with fail
          have HX6 := hid (HX5.out.set1 (.int .i64 v1))
          have HM6 := hid (mut_set HM5.out sb 1 (.int .i64 v1) (.inl rfl))
          obtain ⟨w6, hw6⟩ : ∃ z, w5.setCell ⟨sb, 1, none⟩ (.int .i64 v1) = z := ⟨_, rfl⟩
          rw [hw6] at HX6 HM6
          rw [hw6]
          clear hw6 z1 zf HX5 HM5
          have HEX : Hid (readR ⟨xk, word, false, false⟩ L = ⟨xk, v1, 0, []⟩) := hid (by
            show (⟨xk, valR (L.getD 1 []), 0, []⟩ : StepD) = _
            rw [HV1.out])
          have HRX : Hid (r = if lineP ⟨xk, v1, 0, []⟩ = some (s ++ [10]) then some ⟨xk, v1, 0, []⟩ else none) := hid (by rw [HRR.out, HEX.out])
          have HOKX : Hid (StepOk ⟨xk, v1, 0, []⟩) := hid (by rw [← HEX.out]; exact readR_ok _ _)
          have CL := refLine_any (s := ⟨xk, v1, 0, []⟩) (a := none) (c := 0) (n := 0) (w := w6) ⟨by have := HXK.out; exact ⟨by simp only; omega, by simp only; omega⟩, HOKX.out, .inl rfl⟩ (hid rfl) (by first | omega | (have := HQJ.out; omega))
          obtain ⟨lp, hlp⟩ : ∃ lp, lineP ⟨xk, v1, 0, []⟩ = lp := ⟨_, rfl⟩
          rw [hlp] at HRX CL
          have HLP := hid hlp
          clear hlp HRR HEX
          have y0 := HX6.out.c0
          have y1 := HX6.out.c1
          have y2 := HX6.out.c2
          have y3 := HX6.out.c3
          rcases lp with _ | t
          · have HRN : Hid (r = none) := hid (by rw [HRX.out, if_neg (by simp)])
            have CLH : Hid (Calls Tryz.prog 62 #[.agg #[.int .i64 xk, .int .i64 v1, .int .i64 0, .slice none 0 0]] w6 fun e w' => e = .returned (.tuple #[.string ⟨#[]⟩, .bool false]) ∧ Below w6.heap.size w6 w') := hid CL
            clear CL
            go_wp2_with fail
            refine CLH.out.mono ?_
            rintro e w7 ⟨rfl, hb7⟩
            clear CLH
            have HM7 : Hid (Mut (fun q => q = sb ∨ W3.heap.size ≤ q) W3 w7) := hid (HM6.out.trans ((Mut.of_below (F := fun q => w6.heap.size ≤ q) hb7).mono fun q _ e => .inr (Nat.le_trans HM6.out.size e)))
            have HX7 := hid (HX6.out.ext hb7)
            clear hb7 HM6 HX6
            clear y0 y1 y2 y3 HRX HLP
            have HB0 : Hid (Below w.heap.size w w7) := hid (HB3.out.trans (HM7.out.below (B := w.heap.size) (by have := HB3.out.size; omega) fun q e => by have := HG3.out; have := HB3.out.size; rcases e with e | e <;> omega))
            have HX0 := hid (HX3.out.mut HM7.out (fun e => by have := HG3.out; rcases e with e | e <;> omega))
            have z0 := HX0.out.c0
            have z1 := HX0.out.c1
            have z2 := HX0.out.c2
            have z3 := HX0.out.c3
            have zf := HX0.out.f
            go_wp2_with fail
            refine bodyPost_ret (v := .tuple #[.agg ([.int .i64 0, .int .i64 0, .int .i64 0, .slice none 0 0] : List Value).toArray, .bool false]) (results_cell_tmp (p := 2) (q := 3) (ty := 62) rfl _ _ w.heap.size [.int .i64 0, .int .i64 0, .int .i64 0, .slice none 0 0] _ rfl (HX0.out.all _ _ _ _).range Tryz.underlying62 rfl (infoStepL _ _ _ _)) rfl ⟨by rw [HRN.out]; rfl, below_all HB0.out (Nat.le_refl _) _ _ _ _⟩
          · by_cases heq : t = s ++ [10]
            · have HRS : Hid (r = some ⟨xk, v1, 0, []⟩) := hid (by rw [HRX.out, heq, if_pos rfl])
              have u1 : (t != s ++ [10]) = false := by simp [heq]
              have u2 : (t == s ++ [10]) = true := by simp [heq]
              have acat := run_cat s [10] (by have := HS.out; omega) (by simp)
              clear heq HRX HLP
              have CLH : Hid (Calls Tryz.prog 62 #[.agg #[.int .i64 xk, .int .i64 v1, .int .i64 0, .slice none 0 0]] w6 fun e w' => e = .returned (.tuple #[.string ⟨t.toArray⟩, .bool true]) ∧ Below w6.heap.size w6 w') := hid CL
              clear CL
              go_wp2_with fail
              refine CLH.out.mono ?_
              rintro e w7 ⟨rfl, hb7⟩
              clear CLH
              have HM7 : Hid (Mut (fun q => q = sb ∨ W3.heap.size ≤ q) W3 w7) := hid (HM6.out.trans ((Mut.of_below (F := fun q => w6.heap.size ≤ q) hb7).mono fun q _ e => .inr (Nat.le_trans HM6.out.size e)))
              have HX7 := hid (HX6.out.ext hb7)
              clear hb7 HM6 HX6
              clear y0 y1 y2 y3
              have HB0 : Hid (Below w.heap.size w w7) := hid (HB3.out.trans (HM7.out.below (B := w.heap.size) (by have := HB3.out.size; omega) fun q e => by have := HG3.out; have := HB3.out.size; rcases e with e | e <;> omega))
              have HX0 := hid (HX3.out.mut HM7.out (fun e => by have := HG3.out; rcases e with e | e <;> omega))
              have z0 := HX0.out.c0
              have z1 := HX0.out.c1
              have z2 := HX0.out.c2
              have z3 := HX0.out.c3
              have zf := HX0.out.f
              have y0 := HX7.out.c0
              have y1 := HX7.out.c1
              have y2 := HX7.out.c2
              have y3 := HX7.out.c3
              go_wp2_with fail
              refine bodyPost_ret (v := .tuple #[.agg ([.int .i64 xk, .int .i64 v1, .int .i64 0, .slice none 0 0] : List Value).toArray, .bool true]) (results_cell_tmp (p := 2) (q := 3) (ty := 62) rfl _ _ w.heap.size [.int .i64 xk, .int .i64 v1, .int .i64 0, .slice none 0 0] _ rfl (HX0.out.all _ _ _ _).range Tryz.underlying62 rfl (infoStepL _ _ _ _)) rfl ⟨?_, below_all HB0.out (Nat.le_refl _) _ _ _ _⟩
              rw [HRS.out]
              exact ⟨none, 0, rfl, .inl rfl, fun b off e => by cases e⟩
            · have HRN : Hid (r = none) := hid (by rw [HRX.out, if_neg (fun h => heq (Option.some.inj h))])
              have u1 : (t != s ++ [10]) = true := by simpa using heq
              have u2 : (t == s ++ [10]) = false := by simpa using heq
              have acat := run_cat s [10] (by have := HS.out; omega) (by simp)
              clear heq HRX HLP
              have CLH : Hid (Calls Tryz.prog 62 #[.agg #[.int .i64 xk, .int .i64 v1, .int .i64 0, .slice none 0 0]] w6 fun e w' => e = .returned (.tuple #[.string ⟨t.toArray⟩, .bool true]) ∧ Below w6.heap.size w6 w') := hid CL
              clear CL
              go_wp2_with fail
              refine CLH.out.mono ?_
              rintro e w7 ⟨rfl, hb7⟩
              clear CLH
              have HM7 : Hid (Mut (fun q => q = sb ∨ W3.heap.size ≤ q) W3 w7) := hid (HM6.out.trans ((Mut.of_below (F := fun q => w6.heap.size ≤ q) hb7).mono fun q _ e => .inr (Nat.le_trans HM6.out.size e)))
              have HX7 := hid (HX6.out.ext hb7)
              clear hb7 HM6 HX6
              clear y0 y1 y2 y3
              have HB0 : Hid (Below w.heap.size w w7) := hid (HB3.out.trans (HM7.out.below (B := w.heap.size) (by have := HB3.out.size; omega) fun q e => by have := HG3.out; have := HB3.out.size; rcases e with e | e <;> omega))
              have HX0 := hid (HX3.out.mut HM7.out (fun e => by have := HG3.out; rcases e with e | e <;> omega))
              have z0 := HX0.out.c0
              have z1 := HX0.out.c1
              have z2 := HX0.out.c2
              have z3 := HX0.out.c3
              have zf := HX0.out.f
              go_wp2_with fail
              refine bodyPost_ret (v := .tuple #[.agg ([.int .i64 0, .int .i64 0, .int .i64 0, .slice none 0 0] : List Value).toArray, .bool false]) (results_cell_tmp (p := 2) (q := 3) (ty := 62) rfl _ _ w.heap.size [.int .i64 0, .int .i64 0, .int .i64 0, .slice none 0 0] _ rfl (HX0.out.all _ _ _ _).range Tryz.underlying62 rfl (infoStepL _ _ _ _)) rfl ⟨by rw [HRN.out]; rfl, below_all HB0.out (Nat.le_refl _) _ _ _ _⟩
        · have HRN : Hid (r = none) := hid (by rw [HR.out, if_neg (fun e => hlen (by rw [← HN.out]; exact e))])
          have g1 : ((n : Int) != 2) = true := by rw [bne_iff_ne]; omega
          have g2 : (n != 2) = true := by rw [bne_iff_ne]; exact hlen
          have g3 : ((n : Int) == 2) = false := by rw [beq_eq_false_iff_ne]; omega
          clear HR hlen
          have HB0 : Hid (Below w.heap.size w w4) := hid (HB3.out.trans (HM4.out.below (B := w.heap.size) (by have := HB3.out.size; omega) fun q e => by have := HG3.out; have := HB3.out.size; rcases e with e | e <;> omega))
          have HX0 := hid (HX3.out.mut HM4.out (fun e => by have := HG3.out; rcases e with e | e <;> omega))
          have z0 := HX0.out.c0
          have z1 := HX0.out.c1
          have z2 := HX0.out.c2
          have z3 := HX0.out.c3
          have zf := HX0.out.f
          go_wp2_with fail
          refine bodyPost_ret (v := .tuple #[.agg ([.int .i64 0, .int .i64 0, .int .i64 0, .slice none 0 0] : List Value).toArray, .bool false]) (results_cell_tmp (p := 2) (q := 3) (ty := 62) rfl _ _ w.heap.size [.int .i64 0, .int .i64 0, .int .i64 0, .slice none 0 0] _ rfl (HX0.out.all _ _ _ _).range Tryz.underlying62 rfl (infoStepL _ _ _ _)) rfl ⟨by rw [HRN.out]; rfl, below_all HB0.out (Nat.le_refl _) _ _ _ _⟩
      · have CWH : Hid (Calls Tryz.prog 59 #[.int .i64 xk] wr fun e w' => e = .returned (.tuple #[.string ⟨wd.toArray⟩, .string ⟨([120] : List UInt8).toArray⟩]) ∧ Below wr.heap.size wr w') := hid CW
        have HR : Hid (r = if L.length = 3 then (if lineP (readR ⟨xk, word, false, true⟩ L) = some (s ++ [10]) then some (readR ⟨xk, word, false, true⟩ L) else none) else none) := hid HR.out
        clear HH HK hbx CW
        have z0 := HX6.out.c0
        go_wp2_with fail
        refine CWH.out.mono ?_
        rintro e w4 ⟨rfl, hb4⟩
        have HM4 : Hid (Mut (fun q => q = sb ∨ W3.heap.size ≤ q) W3 w4) := hid (hmu.out.trans ((Mut.of_below (F := fun q => wr.heap.size ≤ q) hb4).mono fun q _ e => .inr (Nat.le_trans hmu.out.size e)))
        have HX4 := hid (HX6.out.ext hb4)
        clear hb4 CWH hmu HX6 z0
        by_cases hlen : n = 3
        · subst hlen
          have HRR : Hid (r = if lineP (readR ⟨xk, word, false, true⟩ L) = some (s ++ [10]) then some (readR ⟨xk, word, false, true⟩ L) else none) := hid (by rw [HR.out, if_pos HN.out])
          clear HR
          obtain ⟨t1, ht1⟩ : ∃ t, L[1]? = some t := ⟨L[1]'(by rw [HN.out]; decide), List.getElem?_eq_getElem _⟩
          have CV := hid (refValue_any (s := t1) (w := w4) (by have := HLE.out t1 (List.mem_of_getElem? ht1); have := HS.out; omega))
          obtain ⟨v1, hv1⟩ : ∃ v, valR t1 = v := ⟨_, rfl⟩
          rw [hv1] at CV
          have HV1 : Hid (valR (L.getD 1 []) = v1) := hid (by rw [List.getD_eq_getElem?_getD, ht1]; exact hv1)
          have p1 := HPC.out w4 1 t1 HM4.out ht1
          clear hv1 ht1
          go_wp2_with fail
          refine CV.out.mono ?_
          rintro e w5 ⟨rfl, hb5⟩
          clear CV p1
          have HM5 : Hid (Mut (fun q => q = sb ∨ W3.heap.size ≤ q) W3 w5) := hid (HM4.out.trans ((Mut.of_below (F := fun q => w4.heap.size ≤ q) hb5).mono fun q _ e => .inr (Nat.le_trans HM4.out.size e)))
          have HX5 := hid (HX4.out.ext hb5)
          clear hb5 HM4 HX4
          have z1 := HX5.out.c1
          have zf := HX5.out.f
          go_upto_region 13 with fail
          have HX6 := hid (HX5.out.set1 (.int .i64 v1))
          have HM6 := hid (mut_set HM5.out sb 1 (.int .i64 v1) (.inl rfl))
          obtain ⟨w6, hw6⟩ : ∃ z, w5.setCell ⟨sb, 1, none⟩ (.int .i64 v1) = z := ⟨_, rfl⟩
          rw [hw6] at HX6 HM6
          rw [hw6]
          clear hw6 z1 zf HX5 HM5
          obtain ⟨d, hd⟩ : ∃ t, L[2]? = some t := ⟨L[2]'(by rw [HN.out]; decide), List.getElem?_eq_getElem _⟩
          obtain ⟨dl, hdl⟩ : ∃ z, d.length = z := ⟨_, rfl⟩
          have hzd : (⟨d.toArray⟩ : ByteArray).size = dl := by rw [bszP, hdl]
          have HDE : Hid (unhexR ((L.getD (L.length - 1) []).drop 1) = unhexR (d.drop 1)) := hid (by rw [HN.out, show 3 - 1 = 2 from rfl, List.getD_eq_getElem?_getD, hd]; rfl)
          have hdb : dl ≤ 900000 := by have := HLE.out d (List.mem_of_getElem? hd); have := HS.out; omega
          have pd := HPC.out w6 2 d HM6.out hd
          have HDL := hid hdl
          have HSBA : Hid (sb < w6.heap.size ∧ W3.heap.size ≤ w6.heap.size) := hid ⟨HX6.out.lt, HM6.out.size⟩
          clear hd hdl
          go_upto_region 17 with fail
          clear pd
          go_wp2_with fail
          go_loopw [12] (fun i wz => ∃ (j q : Nat) (da : Option Addr) (dc : Nat) (ds : List Nat), i = .int .i64 j ∧ 1 ≤ j ∧ j ≤ dl + 1 ∧ Hid (2 * q + 1 = j) ∧ Hid (ds.length = q) ∧ Hid (unhexR (d.drop 1) = ds ++ unhexR (d.drop j)) ∧ Hid (Bx4 wz sb (.int .i64 xk) (.int .i64 v1) (.int .i64 0) (.slice da q dc)) ∧ Hid (OwnB wz w6.heap.size (.slice da q dc) ds) ∧ Hid (Mut (fun q => q = sb ∨ W3.heap.size ≤ q) W3 wz) ∧ Hid (w6.heap.size ≤ wz.heap.size)) (fun i _ => dl + 1 - (intOf i).toNat)
          case atStart => exact ⟨1, 0, none, 0, [], rfl, Nat.le_refl _, by omega, hid rfl, hid rfl, hid rfl, HX6, hid (OwnB.nil _ _), HM6, hid (Nat.le_refl _)⟩
          case round =>
            obtain ⟨j, q, da, dc, ds, rfl, hj1, hj, HQJ, HQL, HUN, HXj, HOj, HMj, HSj⟩ := hrel
            rename World => wz
            by_cases hjl : j + 1 < dl
            · obtain ⟨c1, c2, hc1, hc2, hun⟩ := unhexR_drop (d := d) (i := j) (by rw [HDL.out]; exact hjl)
              have UI1 := fun W => str_at hc1 W
              have UI2 := fun W => str_at hc2 W
              rw [show ((j + 1 : Nat) : Int) = (j : Int) + 1 by omega] at UI2
              obtain ⟨x1, hx1⟩ : ∃ x, c1.toNat = x := ⟨_, rfl⟩
              obtain ⟨x2, hx2⟩ : ∃ x, c2.toNat = x := ⟨_, rfl⟩
              rw [digR_n, digR_n, hx1, hx2] at hun
              have hl1 : x1 < 256 := by rw [← hx1]; exact UInt8.toNat_lt c1
              have hl2 : x2 < 256 := by rw [← hx2]; exact UInt8.toNat_lt c2
              rw [hx1] at UI1
              rw [hx2] at UI2
              have CD1 := fun W => refDigit_any x1 hl1 W
              have CD2 := fun W => refDigit_any x2 hl2 W
              obtain ⟨n1, hn1⟩ : ∃ g, digN x1 = g := ⟨_, rfl⟩
              obtain ⟨n2, hn2⟩ : ∃ g, digN x2 = g := ⟨_, rfl⟩
              have e1 := wrap8_16 n1
              have e2 := wrap8_add n1 n2
              rw [hn1] at CD1 hun
              rw [hn2] at CD2 hun
              obtain ⟨M1, hM1⟩ : ∃ g, n1 * 16 % 256 = g := ⟨_, rfl⟩
              obtain ⟨z, hz⟩ : ∃ g, (n1 * 16 + n2) % 256 = g := ⟨_, rfl⟩
              rw [hM1] at e1 e2
              rw [hz] at e2 hun
              have HUJ := hid hun
              have CD1 := hid CD1
              have CD2 := hid CD2
              have e0 : IntKind.i64.wrap ((j : Int) + 1) = (j : Int) + 1 := by rw [IntKind.wrap_i64]; omega
              have d1 : decide ((j : Int) + 1 < (dl : Int)) = true := decide_eq_true (by omega)
              have d2 : decide (j + 1 < dl) = true := decide_eq_true hjl
              have s3 : wz.drew.cell? ⟨sb, 3, none⟩ = some (.slice da q dc) := (HXj.out.ext (Below.refl _ _).drew).c3
              clear hc1 hc2 hun hx1 hx2 hn1 hn2 hM1 hz hl1 hl2
              go_upto_region 20 with fail
              refine wp_region_held_drew (S := fun _ => True) (by kernel_rfl) (trivial) (fun hHeld => ?_)
              refine wpAnyH_take (i := 0) (oi := _) (v := .pointer (some ⟨sb, 3, none⟩)) rfl (by kernel_rfl) (by kernel_rfl) (by kernel_rfl) (fun _ _ _ h => h) (Or.inl ⟨by rfl, ?_⟩) (by assumption) ?_
              · intro W hSw
                try dsimp only at hSw
                go_simp
              try simp only [Act.put, List.getElem_toArray, List.getElem_cons_succ, List.getElem_cons_zero, List.setIfInBounds_toArray, List.set_cons_zero, List.set_cons_succ]
              refine wpAnyH_take (i := 2) (oi := _) (v := .string ⟨d.toArray⟩) rfl (by kernel_rfl) (by kernel_rfl) (by kernel_rfl) (fun _ _ _ h => h) (Or.inl ⟨by rfl, ?_⟩) (by assumption) ?_
              · intro W hSw
                try dsimp only at hSw
                go_simp
              try simp only [Act.put, List.getElem_toArray, List.getElem_cons_succ, List.getElem_cons_zero, List.setIfInBounds_toArray, List.set_cons_zero, List.set_cons_succ]
              refine wpAnyH_take (i := 3) (oi := _) (v := .int .i64 (j : Int)) rfl (by kernel_rfl) (by kernel_rfl) (by kernel_rfl) (fun _ _ _ h => h) (Or.inl ⟨by rfl, ?_⟩) (by assumption) ?_
              · intro W hSw
                try dsimp only at hSw
                go_simp
              try simp only [Act.put, List.getElem_toArray, List.getElem_cons_succ, List.getElem_cons_zero, List.setIfInBounds_toArray, List.set_cons_zero, List.set_cons_succ]
              refine wpAnyH_take (i := 4) (oi := _) (v := .int .u8 (x1 : Int)) rfl (by kernel_rfl) (by kernel_rfl) (by kernel_rfl) (fun _ _ _ h => h) (Or.inl ⟨by rfl, ?_⟩) (by assumption) ?_
              · intro W hSw
                try dsimp only at hSw
                go_simp
              try simp only [Act.put, List.getElem_toArray, List.getElem_cons_succ, List.getElem_cons_zero, List.setIfInBounds_toArray, List.set_cons_zero, List.set_cons_succ]
              refine wpAnyH_take (i := 7) (oi := _) (v := .string ⟨d.toArray⟩) rfl (by kernel_rfl) (by kernel_rfl) (by kernel_rfl) (fun _ _ _ h => h) (Or.inl ⟨by rfl, ?_⟩) (by assumption) ?_
              · intro W hSw
                try dsimp only at hSw
                go_simp
              try simp only [Act.put, List.getElem_toArray, List.getElem_cons_succ, List.getElem_cons_zero, List.setIfInBounds_toArray, List.set_cons_zero, List.set_cons_succ]
              refine wpAnyH_take (i := 8) (oi := _) (v := .int .i64 (j : Int)) rfl (by kernel_rfl) (by kernel_rfl) (by kernel_rfl) (fun _ _ _ h => h) (Or.inl ⟨by rfl, ?_⟩) (by assumption) ?_
              · intro W hSw
                try dsimp only at hSw
                go_simp
              try simp only [Act.put, List.getElem_toArray, List.getElem_cons_succ, List.getElem_cons_zero, List.setIfInBounds_toArray, List.set_cons_zero, List.set_cons_succ]
              refine wpAnyH_take (i := 9) (oi := _) (v := .int .i64 ((j : Int) + 1)) rfl (by kernel_rfl) (by kernel_rfl) (by kernel_rfl) (fun _ _ _ h => h) (Or.inl ⟨by rfl, ?_⟩) (by assumption) ?_
              · intro W hSw
                try dsimp only at hSw
                go_simp
              try simp only [Act.put, List.getElem_toArray, List.getElem_cons_succ, List.getElem_cons_zero, List.setIfInBounds_toArray, List.set_cons_zero, List.set_cons_succ]
              refine wpAnyH_take (i := 10) (oi := _) (v := .int .u8 (x2 : Int)) rfl (by kernel_rfl) (by kernel_rfl) (by kernel_rfl) (fun _ _ _ h => h) (Or.inl ⟨by rfl, ?_⟩) (by assumption) ?_
              · intro W hSw
                try dsimp only at hSw
                go_simp
              try simp only [Act.put, List.getElem_toArray, List.getElem_cons_succ, List.getElem_cons_zero, List.setIfInBounds_toArray, List.set_cons_zero, List.set_cons_succ]
              refine wpAnyH_ready (rs := [1, 5]) (by kernel_rfl) (by simp) ?_
              refine AllReadyH.cons (o := _) rfl (fun K hK => ?_) (AllReadyH.cons (o := _) rfl (fun K hK => ?_) AllReadyH.nil)
              · go_simp
                refine hK.out _ _ (trivial) (fun hHeld => ?_)
                clear hK K
                try simp only [Act.put, List.getElem_toArray, List.getElem_cons_succ, List.getElem_cons_zero, List.setIfInBounds_toArray, List.set_cons_zero, List.set_cons_succ]
                refine wpAnyH_ready (rs := [5]) (by kernel_rfl) (by simp) ?_
                refine AllReadyH.cons (o := _) rfl (fun K hK => ?_) AllReadyH.nil
                go_simp
                refine (CD1.out _).mono ?_
                rintro e wa ⟨rfl, rfl⟩
                refine hK.out _ _ (trivial) (fun hHeld => ?_)
                clear hK K
                try simp only [Act.put, List.getElem_toArray, List.getElem_cons_succ, List.getElem_cons_zero, List.setIfInBounds_toArray, List.set_cons_zero, List.set_cons_succ]
                refine wpAnyH_take (i := 6) (oi := _) (v := .int .u8 (M1 : Int)) rfl (by kernel_rfl) (by kernel_rfl) (by kernel_rfl) (fun _ _ _ h => h) (Or.inl ⟨by rfl, ?_⟩) (by assumption) ?_
                · intro W hSw
                  try dsimp only at hSw
                  go_simp
                try simp only [Act.put, List.getElem_toArray, List.getElem_cons_succ, List.getElem_cons_zero, List.setIfInBounds_toArray, List.set_cons_zero, List.set_cons_succ]
                refine wpAnyH_ready (rs := [11]) (by kernel_rfl) (by simp) ?_
                refine AllReadyH.cons (o := _) rfl (fun K hK => ?_) AllReadyH.nil
                go_simp
                refine (CD2.out _).mono ?_
                rintro e wa ⟨rfl, rfl⟩
                refine hK.out _ _ (trivial) (fun hHeld => ?_)
                clear hK K
                try simp only [Act.put, List.getElem_toArray, List.getElem_cons_succ, List.getElem_cons_zero, List.setIfInBounds_toArray, List.set_cons_zero, List.set_cons_succ]
                refine wpAnyH_take (i := 12) (oi := _) (v := .int .u8 (z : Int)) rfl (by kernel_rfl) (by kernel_rfl) (by kernel_rfl) (fun _ _ _ h => h) (Or.inl ⟨by rfl, ?_⟩) (by assumption) ?_
                · intro W hSw
                  try dsimp only at hSw
                  go_simp
                try simp only [Act.put, List.getElem_toArray, List.getElem_cons_succ, List.getElem_cons_zero, List.setIfInBounds_toArray, List.set_cons_zero, List.set_cons_succ]
                refine wpAnyH_ready (rs := [13]) (by kernel_rfl) (by simp) ?_
                refine AllReadyH.cons (o := _) rfl (fun K hK => ?_) AllReadyH.nil
                go_simp
                obtain ⟨wb, hwb⟩ : ∃ g, (wz.alloc (.cells #[.int .u8 (z : Int)] 5)).drew = g := ⟨_, rfl⟩
                try rw [e2]
                rw [hwb]
                have hbb : Below wz.heap.size wz wb := by rw [← hwb]; exact ((Below.refl _ _).alloc (Nat.le_refl _) _).drew
                have HRb : Hid (ByteRow wb (some ⟨wz.heap.size, 0, none⟩) [z]) := hid (by rw [← hwb]; exact (ByteRow.one wz z).ext (Below.refl _ _).drew)
                have HXb := hid (HXj.out.ext hbb)
                have HOb := hid (HOj.out.ext hbb)
                have HMb : Hid (Mut (fun q => q = sb ∨ W3.heap.size ≤ q) W3 wb) := hid (HMj.out.trans ((Mut.of_below (F := fun g => wz.heap.size ≤ g) hbb).mono fun g _ e => .inr (Nat.le_trans HMj.out.size e)))
                have HSb : Hid (w6.heap.size ≤ wb.heap.size) := hid (by have h1 := HSj.out; have h2 := hbb.size; omega)
                have b3 : wb.cell? ⟨sb, 3, none⟩ = some (.slice da q dc) := HXb.out.c3
                clear hwb hbb
                refine hK.out _ _ (trivial) (fun hHeld => ?_)
                clear hK K
                try simp only [Act.put, List.getElem_toArray, List.getElem_cons_succ, List.getElem_cons_zero, List.setIfInBounds_toArray, List.set_cons_zero, List.set_cons_succ]
                refine wpAnyH_ready (rs := [14]) (by kernel_rfl) (by simp) ?_
                refine AllReadyH.cons (o := _) rfl (fun K hK => ?_) AllReadyH.nil
                refine step_appendBz (n := 1) (base := w6.heap.size) (by rfl) HOb.out HRb.out (hid rfl) (by have := HQL.out; have := HQJ.out; omega) HSb.out rfl rfl rfl ?_
                intro v8 wc hown8 hg8
                have hmg := grown_mutD hg8
                obtain ⟨ua, uc, hu, -, -⟩ := id hown8.row
                have hul : (ds ++ [z]).length = q + 1 := by have := HQL.out; simp; omega
                rw [hul] at hu
                subst hu
                have hog : ∀ g, (Value.slice da q dc).ownBlock = some g → w6.heap.size ≤ g := fun g e => (HOb.out.blkD e).1
                have HXc := hid (HXb.out.mut hmg (fun e => by have h1 := hog _ e; have h2 := HSBA.out.1; omega))
                have HMc : Hid (Mut (fun q => q = sb ∨ W3.heap.size ≤ q) W3 wc) := hid (HMb.out.trans (hmg.mono fun g _ e => .inr (by have h1 := hog _ e; have h2 := HSBA.out.2; omega)))
                have HSc : Hid (w6.heap.size ≤ wc.heap.size) := hid (Nat.le_trans HSb.out hmg.size)
                have HOc := hid hown8
                have c3 : wc.cell? ⟨sb, 3, none⟩ = some (.slice da q dc) := HXc.out.c3
                have fzc := HXc.out.f
                clear hown8 hg8 hmg hul hog
                refine hK.out _ _ (trivial) (fun hHeld => ?_)
                clear hK K
                try simp only [Act.put, List.getElem_toArray, List.getElem_cons_succ, List.getElem_cons_zero, List.setIfInBounds_toArray, List.set_cons_zero, List.set_cons_succ]
                refine wpAnyH_ready (rs := [15]) (by kernel_rfl) (by simp) ?_
                refine AllReadyH.cons (o := _) rfl (fun K hK => ?_) AllReadyH.nil
                go_simp
                refine hK.out _ _ (trivial) (fun hHeld => ?_)
                clear hK K
                try simp only [Act.put, List.getElem_toArray, List.getElem_cons_succ, List.getElem_cons_zero, List.setIfInBounds_toArray, List.set_cons_zero, List.set_cons_succ]
                refine wpAnyH_ready (rs := [16]) (by kernel_rfl) (by simp) ?_
                refine AllReadyH.cons (o := _) rfl (fun K hK => ?_) AllReadyH.nil
                go_simp
                refine hK.out _ _ (trivial) (fun hHeld => ?_)
                clear hK K
                try simp only [Act.put, List.getElem_toArray, List.getElem_cons_succ, List.getElem_cons_zero, List.setIfInBounds_toArray, List.set_cons_zero, List.set_cons_succ]
                refine wpAnyH_done (by kernel_rfl) ?_ _
                obtain ⟨wd2, hwd⟩ : ∃ g, wc.setCell ⟨sb, 3, none⟩ (.slice ua (q + 1) uc) = g := ⟨_, rfl⟩
                have HXd := hid (HXc.out.set3 (.slice ua (q + 1) uc))
                have HMd := hid (mut_set HMc.out sb 3 (.slice ua (q + 1) uc) (.inl rfl))
                have HOd := hid (OwnB.mutD HOc.out (mut1 (w := wc) (s := sb) (i := 3) (v := .slice ua (q + 1) uc)) (fun g e1 e2 => by have h1 := (HOc.out.blkD e1).1; have h2 := HSBA.out.1; omega))
                have HSd : Hid (w6.heap.size ≤ (wc.setCell ⟨sb, 3, none⟩ (.slice ua (q + 1) uc)).heap.size) := hid (by rw [World.size_setCell]; exact HSc.out)
                rw [hwd] at HXd HMd HOd HSd
                clear HXb HMb HOb HRb HSb b3 c3 fzc HXc HMc HSc HOc
                go_wp2_with fail
                try rw [hwd]
                go_roundw
                case rel => exact ⟨j + 2, q + 1, ua, uc, ds ++ [z], by go_num, by omega, by omega, hid (by have := HQJ.out; omega), hid (by have := HQL.out; simp; omega), hid (by rw [HUN.out, HUJ.out, List.append_assoc]; rfl), HXd, HOd, HMd, HSd⟩
                case measure => simp [intOf]; omega
              · go_simp
                refine (CD1.out _).mono ?_
                rintro e wa ⟨rfl, rfl⟩
                refine hK.out _ _ (trivial) (fun hHeld => ?_)
                clear hK K
                try simp only [Act.put, List.getElem_toArray, List.getElem_cons_succ, List.getElem_cons_zero, List.setIfInBounds_toArray, List.set_cons_zero, List.set_cons_succ]
                refine wpAnyH_take (i := 6) (oi := _) (v := .int .u8 (M1 : Int)) rfl (by kernel_rfl) (by kernel_rfl) (by kernel_rfl) (fun _ _ _ h => h) (Or.inl ⟨by rfl, ?_⟩) (by assumption) ?_
                · intro W hSw
                  try dsimp only at hSw
                  go_simp
                try simp only [Act.put, List.getElem_toArray, List.getElem_cons_succ, List.getElem_cons_zero, List.setIfInBounds_toArray, List.set_cons_zero, List.set_cons_succ]
                refine wpAnyH_ready (rs := [1, 11]) (by kernel_rfl) (by simp) ?_
                refine AllReadyH.cons (o := _) rfl (fun K hK => ?_) (AllReadyH.cons (o := _) rfl (fun K hK => ?_) AllReadyH.nil)
                · go_simp
                  refine hK.out _ _ (trivial) (fun hHeld => ?_)
                  clear hK K
                  try simp only [Act.put, List.getElem_toArray, List.getElem_cons_succ, List.getElem_cons_zero, List.setIfInBounds_toArray, List.set_cons_zero, List.set_cons_succ]
                  refine wpAnyH_ready (rs := [11]) (by kernel_rfl) (by simp) ?_
                  refine AllReadyH.cons (o := _) rfl (fun K hK => ?_) AllReadyH.nil
                  go_simp
                  refine (CD2.out _).mono ?_
                  rintro e wa ⟨rfl, rfl⟩
                  refine hK.out _ _ (trivial) (fun hHeld => ?_)
                  clear hK K
                  try simp only [Act.put, List.getElem_toArray, List.getElem_cons_succ, List.getElem_cons_zero, List.setIfInBounds_toArray, List.set_cons_zero, List.set_cons_succ]
                  refine wpAnyH_take (i := 12) (oi := _) (v := .int .u8 (z : Int)) rfl (by kernel_rfl) (by kernel_rfl) (by kernel_rfl) (fun _ _ _ h => h) (Or.inl ⟨by rfl, ?_⟩) (by assumption) ?_
                  · intro W hSw
                    try dsimp only at hSw
                    go_simp
                  try simp only [Act.put, List.getElem_toArray, List.getElem_cons_succ, List.getElem_cons_zero, List.setIfInBounds_toArray, List.set_cons_zero, List.set_cons_succ]
                  refine wpAnyH_ready (rs := [13]) (by kernel_rfl) (by simp) ?_
                  refine AllReadyH.cons (o := _) rfl (fun K hK => ?_) AllReadyH.nil
                  go_simp
                  obtain ⟨wb, hwb⟩ : ∃ g, (wz.alloc (.cells #[.int .u8 (z : Int)] 5)).drew = g := ⟨_, rfl⟩
                  try rw [e2]
                  rw [hwb]
                  have hbb : Below wz.heap.size wz wb := by rw [← hwb]; exact ((Below.refl _ _).alloc (Nat.le_refl _) _).drew
                  have HRb : Hid (ByteRow wb (some ⟨wz.heap.size, 0, none⟩) [z]) := hid (by rw [← hwb]; exact (ByteRow.one wz z).ext (Below.refl _ _).drew)
                  have HXb := hid (HXj.out.ext hbb)
                  have HOb := hid (HOj.out.ext hbb)
                  have HMb : Hid (Mut (fun q => q = sb ∨ W3.heap.size ≤ q) W3 wb) := hid (HMj.out.trans ((Mut.of_below (F := fun g => wz.heap.size ≤ g) hbb).mono fun g _ e => .inr (Nat.le_trans HMj.out.size e)))
                  have HSb : Hid (w6.heap.size ≤ wb.heap.size) := hid (by have h1 := HSj.out; have h2 := hbb.size; omega)
                  have b3 : wb.cell? ⟨sb, 3, none⟩ = some (.slice da q dc) := HXb.out.c3
                  clear hwb hbb
                  refine hK.out _ _ (trivial) (fun hHeld => ?_)
                  clear hK K
                  try simp only [Act.put, List.getElem_toArray, List.getElem_cons_succ, List.getElem_cons_zero, List.setIfInBounds_toArray, List.set_cons_zero, List.set_cons_succ]
                  refine wpAnyH_ready (rs := [14]) (by kernel_rfl) (by simp) ?_
                  refine AllReadyH.cons (o := _) rfl (fun K hK => ?_) AllReadyH.nil
                  refine step_appendBz (n := 1) (base := w6.heap.size) (by rfl) HOb.out HRb.out (hid rfl) (by have := HQL.out; have := HQJ.out; omega) HSb.out rfl rfl rfl ?_
                  intro v8 wc hown8 hg8
                  have hmg := grown_mutD hg8
                  obtain ⟨ua, uc, hu, -, -⟩ := id hown8.row
                  have hul : (ds ++ [z]).length = q + 1 := by have := HQL.out; simp; omega
                  rw [hul] at hu
                  subst hu
                  have hog : ∀ g, (Value.slice da q dc).ownBlock = some g → w6.heap.size ≤ g := fun g e => (HOb.out.blkD e).1
                  have HXc := hid (HXb.out.mut hmg (fun e => by have h1 := hog _ e; have h2 := HSBA.out.1; omega))
                  have HMc : Hid (Mut (fun q => q = sb ∨ W3.heap.size ≤ q) W3 wc) := hid (HMb.out.trans (hmg.mono fun g _ e => .inr (by have h1 := hog _ e; have h2 := HSBA.out.2; omega)))
                  have HSc : Hid (w6.heap.size ≤ wc.heap.size) := hid (Nat.le_trans HSb.out hmg.size)
                  have HOc := hid hown8
                  have c3 : wc.cell? ⟨sb, 3, none⟩ = some (.slice da q dc) := HXc.out.c3
                  have fzc := HXc.out.f
                  clear hown8 hg8 hmg hul hog
                  refine hK.out _ _ (trivial) (fun hHeld => ?_)
                  clear hK K
                  try simp only [Act.put, List.getElem_toArray, List.getElem_cons_succ, List.getElem_cons_zero, List.setIfInBounds_toArray, List.set_cons_zero, List.set_cons_succ]
                  refine wpAnyH_ready (rs := [15]) (by kernel_rfl) (by simp) ?_
                  refine AllReadyH.cons (o := _) rfl (fun K hK => ?_) AllReadyH.nil
                  go_simp
                  refine hK.out _ _ (trivial) (fun hHeld => ?_)
                  clear hK K
                  try simp only [Act.put, List.getElem_toArray, List.getElem_cons_succ, List.getElem_cons_zero, List.setIfInBounds_toArray, List.set_cons_zero, List.set_cons_succ]
                  refine wpAnyH_ready (rs := [16]) (by kernel_rfl) (by simp) ?_
                  refine AllReadyH.cons (o := _) rfl (fun K hK => ?_) AllReadyH.nil
                  go_simp
                  refine hK.out _ _ (trivial) (fun hHeld => ?_)
                  clear hK K
                  try simp only [Act.put, List.getElem_toArray, List.getElem_cons_succ, List.getElem_cons_zero, List.setIfInBounds_toArray, List.set_cons_zero, List.set_cons_succ]
                  refine wpAnyH_done (by kernel_rfl) ?_ _
                  obtain ⟨wd2, hwd⟩ : ∃ g, wc.setCell ⟨sb, 3, none⟩ (.slice ua (q + 1) uc) = g := ⟨_, rfl⟩
                  have HXd := hid (HXc.out.set3 (.slice ua (q + 1) uc))
                  have HMd := hid (mut_set HMc.out sb 3 (.slice ua (q + 1) uc) (.inl rfl))
                  have HOd := hid (OwnB.mutD HOc.out (mut1 (w := wc) (s := sb) (i := 3) (v := .slice ua (q + 1) uc)) (fun g e1 e2 => by have h1 := (HOc.out.blkD e1).1; have h2 := HSBA.out.1; omega))
                  have HSd : Hid (w6.heap.size ≤ (wc.setCell ⟨sb, 3, none⟩ (.slice ua (q + 1) uc)).heap.size) := hid (by rw [World.size_setCell]; exact HSc.out)
                  rw [hwd] at HXd HMd HOd HSd
                  clear HXb HMb HOb HRb HSb b3 c3 fzc HXc HMc HSc HOc
                  go_wp2_with fail
                  try rw [hwd]
                  go_roundw
                  case rel => exact ⟨j + 2, q + 1, ua, uc, ds ++ [z], by go_num, by omega, by omega, hid (by have := HQJ.out; omega), hid (by have := HQL.out; simp; omega), hid (by rw [HUN.out, HUJ.out, List.append_assoc]; rfl), HXd, HOd, HMd, HSd⟩
                  case measure => simp [intOf]; omega
                · go_simp
                  refine (CD2.out _).mono ?_
                  rintro e wa ⟨rfl, rfl⟩
                  refine hK.out _ _ (trivial) (fun hHeld => ?_)
                  clear hK K
                  try simp only [Act.put, List.getElem_toArray, List.getElem_cons_succ, List.getElem_cons_zero, List.setIfInBounds_toArray, List.set_cons_zero, List.set_cons_succ]
                  refine wpAnyH_take (i := 12) (oi := _) (v := .int .u8 (z : Int)) rfl (by kernel_rfl) (by kernel_rfl) (by kernel_rfl) (fun _ _ _ h => h) (Or.inl ⟨by rfl, ?_⟩) (by assumption) ?_
                  · intro W hSw
                    try dsimp only at hSw
                    go_simp
                  try simp only [Act.put, List.getElem_toArray, List.getElem_cons_succ, List.getElem_cons_zero, List.setIfInBounds_toArray, List.set_cons_zero, List.set_cons_succ]
                  refine wpAnyH_ready (rs := [1, 13]) (by kernel_rfl) (by simp) ?_
                  refine AllReadyH.cons (o := _) rfl (fun K hK => ?_) (AllReadyH.cons (o := _) rfl (fun K hK => ?_) AllReadyH.nil)
                  · go_simp
                    refine hK.out _ _ (trivial) (fun hHeld => ?_)
                    clear hK K
                    try simp only [Act.put, List.getElem_toArray, List.getElem_cons_succ, List.getElem_cons_zero, List.setIfInBounds_toArray, List.set_cons_zero, List.set_cons_succ]
                    refine wpAnyH_ready (rs := [13]) (by kernel_rfl) (by simp) ?_
                    refine AllReadyH.cons (o := _) rfl (fun K hK => ?_) AllReadyH.nil
                    go_simp
                    obtain ⟨wb, hwb⟩ : ∃ g, (wz.alloc (.cells #[.int .u8 (z : Int)] 5)).drew = g := ⟨_, rfl⟩
                    try rw [e2]
                    rw [hwb]
                    have hbb : Below wz.heap.size wz wb := by rw [← hwb]; exact ((Below.refl _ _).alloc (Nat.le_refl _) _).drew
                    have HRb : Hid (ByteRow wb (some ⟨wz.heap.size, 0, none⟩) [z]) := hid (by rw [← hwb]; exact (ByteRow.one wz z).ext (Below.refl _ _).drew)
                    have HXb := hid (HXj.out.ext hbb)
                    have HOb := hid (HOj.out.ext hbb)
                    have HMb : Hid (Mut (fun q => q = sb ∨ W3.heap.size ≤ q) W3 wb) := hid (HMj.out.trans ((Mut.of_below (F := fun g => wz.heap.size ≤ g) hbb).mono fun g _ e => .inr (Nat.le_trans HMj.out.size e)))
                    have HSb : Hid (w6.heap.size ≤ wb.heap.size) := hid (by have h1 := HSj.out; have h2 := hbb.size; omega)
                    have b3 : wb.cell? ⟨sb, 3, none⟩ = some (.slice da q dc) := HXb.out.c3
                    clear hwb hbb
                    refine hK.out _ _ (trivial) (fun hHeld => ?_)
                    clear hK K
                    try simp only [Act.put, List.getElem_toArray, List.getElem_cons_succ, List.getElem_cons_zero, List.setIfInBounds_toArray, List.set_cons_zero, List.set_cons_succ]
                    refine wpAnyH_ready (rs := [14]) (by kernel_rfl) (by simp) ?_
                    refine AllReadyH.cons (o := _) rfl (fun K hK => ?_) AllReadyH.nil
                    refine step_appendBz (n := 1) (base := w6.heap.size) (by rfl) HOb.out HRb.out (hid rfl) (by have := HQL.out; have := HQJ.out; omega) HSb.out rfl rfl rfl ?_
                    intro v8 wc hown8 hg8
                    have hmg := grown_mutD hg8
                    obtain ⟨ua, uc, hu, -, -⟩ := id hown8.row
                    have hul : (ds ++ [z]).length = q + 1 := by have := HQL.out; simp; omega
                    rw [hul] at hu
                    subst hu
                    have hog : ∀ g, (Value.slice da q dc).ownBlock = some g → w6.heap.size ≤ g := fun g e => (HOb.out.blkD e).1
                    have HXc := hid (HXb.out.mut hmg (fun e => by have h1 := hog _ e; have h2 := HSBA.out.1; omega))
                    have HMc : Hid (Mut (fun q => q = sb ∨ W3.heap.size ≤ q) W3 wc) := hid (HMb.out.trans (hmg.mono fun g _ e => .inr (by have h1 := hog _ e; have h2 := HSBA.out.2; omega)))
                    have HSc : Hid (w6.heap.size ≤ wc.heap.size) := hid (Nat.le_trans HSb.out hmg.size)
                    have HOc := hid hown8
                    have c3 : wc.cell? ⟨sb, 3, none⟩ = some (.slice da q dc) := HXc.out.c3
                    have fzc := HXc.out.f
                    clear hown8 hg8 hmg hul hog
                    refine hK.out _ _ (trivial) (fun hHeld => ?_)
                    clear hK K
                    try simp only [Act.put, List.getElem_toArray, List.getElem_cons_succ, List.getElem_cons_zero, List.setIfInBounds_toArray, List.set_cons_zero, List.set_cons_succ]
                    refine wpAnyH_ready (rs := [15]) (by kernel_rfl) (by simp) ?_
                    refine AllReadyH.cons (o := _) rfl (fun K hK => ?_) AllReadyH.nil
                    go_simp
                    refine hK.out _ _ (trivial) (fun hHeld => ?_)
                    clear hK K
                    try simp only [Act.put, List.getElem_toArray, List.getElem_cons_succ, List.getElem_cons_zero, List.setIfInBounds_toArray, List.set_cons_zero, List.set_cons_succ]
                    refine wpAnyH_ready (rs := [16]) (by kernel_rfl) (by simp) ?_
                    refine AllReadyH.cons (o := _) rfl (fun K hK => ?_) AllReadyH.nil
                    go_simp
                    refine hK.out _ _ (trivial) (fun hHeld => ?_)
                    clear hK K
                    try simp only [Act.put, List.getElem_toArray, List.getElem_cons_succ, List.getElem_cons_zero, List.setIfInBounds_toArray, List.set_cons_zero, List.set_cons_succ]
                    refine wpAnyH_done (by kernel_rfl) ?_ _
                    obtain ⟨wd2, hwd⟩ : ∃ g, wc.setCell ⟨sb, 3, none⟩ (.slice ua (q + 1) uc) = g := ⟨_, rfl⟩
                    have HXd := hid (HXc.out.set3 (.slice ua (q + 1) uc))
                    have HMd := hid (mut_set HMc.out sb 3 (.slice ua (q + 1) uc) (.inl rfl))
                    have HOd := hid (OwnB.mutD HOc.out (mut1 (w := wc) (s := sb) (i := 3) (v := .slice ua (q + 1) uc)) (fun g e1 e2 => by have h1 := (HOc.out.blkD e1).1; have h2 := HSBA.out.1; omega))
                    have HSd : Hid (w6.heap.size ≤ (wc.setCell ⟨sb, 3, none⟩ (.slice ua (q + 1) uc)).heap.size) := hid (by rw [World.size_setCell]; exact HSc.out)
                    rw [hwd] at HXd HMd HOd HSd
                    clear HXb HMb HOb HRb HSb b3 c3 fzc HXc HMc HSc HOc
                    go_wp2_with fail
                    try rw [hwd]
                    go_roundw
                    case rel => exact ⟨j + 2, q + 1, ua, uc, ds ++ [z], by go_num, by omega, by omega, hid (by have := HQJ.out; omega), hid (by have := HQL.out; simp; omega), hid (by rw [HUN.out, HUJ.out, List.append_assoc]; rfl), HXd, HOd, HMd, HSd⟩
                    case measure => simp [intOf]; omega
                  · go_simp
                    obtain ⟨wb, hwb⟩ : ∃ g, (wz.alloc (.cells #[.int .u8 (z : Int)] 5)).drew = g := ⟨_, rfl⟩
                    try rw [e2]
                    rw [hwb]
                    have hbb : Below wz.heap.size wz wb := by rw [← hwb]; exact ((Below.refl _ _).alloc (Nat.le_refl _) _).drew
                    have HRb : Hid (ByteRow wb (some ⟨wz.heap.size, 0, none⟩) [z]) := hid (by rw [← hwb]; exact (ByteRow.one wz z).ext (Below.refl _ _).drew)
                    have HXb := hid (HXj.out.ext hbb)
                    have HOb := hid (HOj.out.ext hbb)
                    have HMb : Hid (Mut (fun q => q = sb ∨ W3.heap.size ≤ q) W3 wb) := hid (HMj.out.trans ((Mut.of_below (F := fun g => wz.heap.size ≤ g) hbb).mono fun g _ e => .inr (Nat.le_trans HMj.out.size e)))
                    have HSb : Hid (w6.heap.size ≤ wb.heap.size) := hid (by have h1 := HSj.out; have h2 := hbb.size; omega)
                    have b3 : wb.cell? ⟨sb, 3, none⟩ = some (.slice da q dc) := HXb.out.c3
                    clear hwb hbb
                    refine hK.out _ _ (trivial) (fun hHeld => ?_)
                    clear hK K
                    try simp only [Act.put, List.getElem_toArray, List.getElem_cons_succ, List.getElem_cons_zero, List.setIfInBounds_toArray, List.set_cons_zero, List.set_cons_succ]
                    refine wpAnyH_ready (rs := [1]) (by kernel_rfl) (by simp) ?_
                    refine AllReadyH.cons (o := _) rfl (fun K hK => ?_) AllReadyH.nil
                    go_simp
                    refine hK.out _ _ (trivial) (fun hHeld => ?_)
                    clear hK K
                    try simp only [Act.put, List.getElem_toArray, List.getElem_cons_succ, List.getElem_cons_zero, List.setIfInBounds_toArray, List.set_cons_zero, List.set_cons_succ]
                    refine wpAnyH_ready (rs := [14]) (by kernel_rfl) (by simp) ?_
                    refine AllReadyH.cons (o := _) rfl (fun K hK => ?_) AllReadyH.nil
                    refine step_appendBz (n := 1) (base := w6.heap.size) (by rfl) HOb.out HRb.out (hid rfl) (by have := HQL.out; have := HQJ.out; omega) HSb.out rfl rfl rfl ?_
                    intro v8 wc hown8 hg8
                    have hmg := grown_mutD hg8
                    obtain ⟨ua, uc, hu, -, -⟩ := id hown8.row
                    have hul : (ds ++ [z]).length = q + 1 := by have := HQL.out; simp; omega
                    rw [hul] at hu
                    subst hu
                    have hog : ∀ g, (Value.slice da q dc).ownBlock = some g → w6.heap.size ≤ g := fun g e => (HOb.out.blkD e).1
                    have HXc := hid (HXb.out.mut hmg (fun e => by have h1 := hog _ e; have h2 := HSBA.out.1; omega))
                    have HMc : Hid (Mut (fun q => q = sb ∨ W3.heap.size ≤ q) W3 wc) := hid (HMb.out.trans (hmg.mono fun g _ e => .inr (by have h1 := hog _ e; have h2 := HSBA.out.2; omega)))
                    have HSc : Hid (w6.heap.size ≤ wc.heap.size) := hid (Nat.le_trans HSb.out hmg.size)
                    have HOc := hid hown8
                    have c3 : wc.cell? ⟨sb, 3, none⟩ = some (.slice da q dc) := HXc.out.c3
                    have fzc := HXc.out.f
                    clear hown8 hg8 hmg hul hog
                    refine hK.out _ _ (trivial) (fun hHeld => ?_)
                    clear hK K
                    try simp only [Act.put, List.getElem_toArray, List.getElem_cons_succ, List.getElem_cons_zero, List.setIfInBounds_toArray, List.set_cons_zero, List.set_cons_succ]
                    refine wpAnyH_ready (rs := [15]) (by kernel_rfl) (by simp) ?_
                    refine AllReadyH.cons (o := _) rfl (fun K hK => ?_) AllReadyH.nil
                    go_simp
                    refine hK.out _ _ (trivial) (fun hHeld => ?_)
                    clear hK K
                    try simp only [Act.put, List.getElem_toArray, List.getElem_cons_succ, List.getElem_cons_zero, List.setIfInBounds_toArray, List.set_cons_zero, List.set_cons_succ]
                    refine wpAnyH_ready (rs := [16]) (by kernel_rfl) (by simp) ?_
                    refine AllReadyH.cons (o := _) rfl (fun K hK => ?_) AllReadyH.nil
                    go_simp
                    refine hK.out _ _ (trivial) (fun hHeld => ?_)
                    clear hK K
                    try simp only [Act.put, List.getElem_toArray, List.getElem_cons_succ, List.getElem_cons_zero, List.setIfInBounds_toArray, List.set_cons_zero, List.set_cons_succ]
                    refine wpAnyH_done (by kernel_rfl) ?_ _
                    obtain ⟨wd2, hwd⟩ : ∃ g, wc.setCell ⟨sb, 3, none⟩ (.slice ua (q + 1) uc) = g := ⟨_, rfl⟩
                    have HXd := hid (HXc.out.set3 (.slice ua (q + 1) uc))
                    have HMd := hid (mut_set HMc.out sb 3 (.slice ua (q + 1) uc) (.inl rfl))
                    have HOd := hid (OwnB.mutD HOc.out (mut1 (w := wc) (s := sb) (i := 3) (v := .slice ua (q + 1) uc)) (fun g e1 e2 => by have h1 := (HOc.out.blkD e1).1; have h2 := HSBA.out.1; omega))
                    have HSd : Hid (w6.heap.size ≤ (wc.setCell ⟨sb, 3, none⟩ (.slice ua (q + 1) uc)).heap.size) := hid (by rw [World.size_setCell]; exact HSc.out)
                    rw [hwd] at HXd HMd HOd HSd
                    clear HXb HMb HOb HRb HSb b3 c3 fzc HXc HMc HSc HOc
                    go_wp2_with fail
                    try rw [hwd]
                    go_roundw
                    case rel => exact ⟨j + 2, q + 1, ua, uc, ds ++ [z], by go_num, by omega, by omega, hid (by have := HQJ.out; omega), hid (by have := HQL.out; simp; omega), hid (by rw [HUN.out, HUJ.out, List.append_assoc]; rfl), HXd, HOd, HMd, HSd⟩
                    case measure => simp [intOf]; omega
            · have d1 : decide ((j : Int) + 1 < (dl : Int)) = false := decide_eq_false (by omega)
              have d2 : decide (j + 1 < dl) = false := decide_eq_false (by omega)
              have e0 : IntKind.i64.wrap ((j : Int) + 1) = (j : Int) + 1 := by rw [IntKind.wrap_i64]; omega
              have HDD : Hid (unhexR ((L.getD (L.length - 1) []).drop 1) = ds) := hid (by rw [HDE.out, HUN.out, unhexR_end (i := j) (by rw [HDL.out]; omega), List.append_nil])
              obtain ⟨ua, uc, hu, hrw, -⟩ := id HOj.out.row
              injection hu with hu1 hu2 hu3
              have HRW : Hid (ByteRow wz da ds) := hid (by rw [hu1]; exact hrw)
              have HDG : Hid (∀ b off, da = some ⟨b, off, none⟩ → w.heap.size < b ∧ b < wz.heap.size) := hid fun b off e => by
                have h1 : w6.heap.size ≤ b ∧ b < wz.heap.size := HOj.out.blkD (by rw [e]; rfl)
                have h2 := HSBA.out.2
                have h3 := HG3.out
                clear hj1 hj HQJ HQL d1 d2 e0
                exact ⟨by omega, h1.2⟩
              rename World => w30
              have HX30 := HXj
              have HM30 := HMj
              clear hu1 hu2 hu3 hrw HXj HMj HOj HUN HDE
              have HEX : Hid (readR ⟨xk, word, false, true⟩ L = ⟨xk, v1, 0, ds⟩) := hid (by
                show (⟨xk, valR (L.getD 1 []), 0, unhexR ((L.getD (L.length - 1) []).drop 1)⟩ : StepD) = _
                rw [HV1.out, HDD.out])
              have HRX : Hid (r = if lineP ⟨xk, v1, 0, ds⟩ = some (s ++ [10]) then some ⟨xk, v1, 0, ds⟩ else none) := hid (by rw [HRR.out, HEX.out])
              have HOKX : Hid (StepOk ⟨xk, v1, 0, ds⟩) := hid (by rw [← HEX.out]; exact readR_ok _ _)
              have CL := refLine_any (s := ⟨xk, v1, 0, ds⟩) (a := da) (c := dc) (n := q) (w := w30) ⟨by have := HXK.out; exact ⟨by simp only; omega, by simp only; omega⟩, HOKX.out, HRW.out⟩ HQL (by first | omega | (have := HQJ.out; omega))
              obtain ⟨lp, hlp⟩ : ∃ lp, lineP ⟨xk, v1, 0, ds⟩ = lp := ⟨_, rfl⟩
              rw [hlp] at HRX CL
              have HLP := hid hlp
              clear hlp HRR HEX
              have y0 := HX30.out.c0
              have y1 := HX30.out.c1
              have y2 := HX30.out.c2
              have y3 := HX30.out.c3
              rcases lp with _ | t
              · have HRN : Hid (r = none) := hid (by rw [HRX.out, if_neg (by simp)])
                have CLH : Hid (Calls Tryz.prog 62 #[.agg #[.int .i64 xk, .int .i64 v1, .int .i64 0, .slice da q dc]] w30 fun e w' => e = .returned (.tuple #[.string ⟨#[]⟩, .bool false]) ∧ Below w30.heap.size w30 w') := hid CL
                clear CL
                go_wp2_with fail
                refine CLH.out.mono ?_
                rintro e w31 ⟨rfl, hb31⟩
                clear CLH
                have HRWb := hid (HRW.out.ext hb31)
                have HSZb : Hid (w30.heap.size ≤ w31.heap.size) := hid hb31.size
                clear HRW
                have HM31 : Hid (Mut (fun q => q = sb ∨ W3.heap.size ≤ q) W3 w31) := hid (HM30.out.trans ((Mut.of_below (F := fun q => w30.heap.size ≤ q) hb31).mono fun q _ e => .inr (Nat.le_trans HM30.out.size e)))
                have HX31 := hid (HX30.out.ext hb31)
                clear hb31 HM30 HX30
                clear y0 y1 y2 y3 HRX HLP
                have HB0 : Hid (Below w.heap.size w w31) := hid (HB3.out.trans (HM31.out.below (B := w.heap.size) (by have := HB3.out.size; omega) fun q e => by have := HG3.out; have := HB3.out.size; rcases e with e | e <;> omega))
                have HX0 := hid (HX3.out.mut HM31.out (fun e => by have := HG3.out; rcases e with e | e <;> omega))
                have z0 := HX0.out.c0
                have z1 := HX0.out.c1
                have z2 := HX0.out.c2
                have z3 := HX0.out.c3
                have zf := HX0.out.f
                go_wp2_with fail
                refine bodyPost_ret (v := .tuple #[.agg ([.int .i64 0, .int .i64 0, .int .i64 0, .slice none 0 0] : List Value).toArray, .bool false]) (results_cell_tmp (p := 2) (q := 3) (ty := 62) rfl _ _ w.heap.size [.int .i64 0, .int .i64 0, .int .i64 0, .slice none 0 0] _ rfl (HX0.out.all _ _ _ _).range Tryz.underlying62 rfl (infoStepL _ _ _ _)) rfl ⟨by rw [HRN.out]; rfl, below_all HB0.out (Nat.le_refl _) _ _ _ _⟩
              · by_cases heq : t = s ++ [10]
                · have HRS : Hid (r = some ⟨xk, v1, 0, ds⟩) := hid (by rw [HRX.out, heq, if_pos rfl])
                  have u1 : (t != s ++ [10]) = false := by simp [heq]
                  have u2 : (t == s ++ [10]) = true := by simp [heq]
                  have acat := run_cat s [10] (by have := HS.out; omega) (by simp)
                  clear heq HRX HLP
                  have CLH : Hid (Calls Tryz.prog 62 #[.agg #[.int .i64 xk, .int .i64 v1, .int .i64 0, .slice da q dc]] w30 fun e w' => e = .returned (.tuple #[.string ⟨t.toArray⟩, .bool true]) ∧ Below w30.heap.size w30 w') := hid CL
                  clear CL
                  go_wp2_with fail
                  refine CLH.out.mono ?_
                  rintro e w31 ⟨rfl, hb31⟩
                  clear CLH
                  have HRWb := hid (HRW.out.ext hb31)
                  have HSZb : Hid (w30.heap.size ≤ w31.heap.size) := hid hb31.size
                  clear HRW
                  have HM31 : Hid (Mut (fun q => q = sb ∨ W3.heap.size ≤ q) W3 w31) := hid (HM30.out.trans ((Mut.of_below (F := fun q => w30.heap.size ≤ q) hb31).mono fun q _ e => .inr (Nat.le_trans HM30.out.size e)))
                  have HX31 := hid (HX30.out.ext hb31)
                  clear hb31 HM30 HX30
                  clear y0 y1 y2 y3
                  have HB0 : Hid (Below w.heap.size w w31) := hid (HB3.out.trans (HM31.out.below (B := w.heap.size) (by have := HB3.out.size; omega) fun q e => by have := HG3.out; have := HB3.out.size; rcases e with e | e <;> omega))
                  have HX0 := hid (HX3.out.mut HM31.out (fun e => by have := HG3.out; rcases e with e | e <;> omega))
                  have z0 := HX0.out.c0
                  have z1 := HX0.out.c1
                  have z2 := HX0.out.c2
                  have z3 := HX0.out.c3
                  have zf := HX0.out.f
                  have y0 := HX31.out.c0
                  have y1 := HX31.out.c1
                  have y2 := HX31.out.c2
                  have y3 := HX31.out.c3
                  go_wp2_with fail
                  refine bodyPost_ret (v := .tuple #[.agg ([.int .i64 xk, .int .i64 v1, .int .i64 0, .slice da q dc] : List Value).toArray, .bool true]) (results_cell_tmp (p := 2) (q := 3) (ty := 62) rfl _ _ w.heap.size [.int .i64 xk, .int .i64 v1, .int .i64 0, .slice da q dc] _ rfl (HX0.out.all _ _ _ _).range Tryz.underlying62 rfl (infoStepL _ _ _ _)) rfl ⟨?_, below_all HB0.out (Nat.le_refl _) _ _ _ _⟩
                  rw [HRS.out]
                  refine ⟨da, dc, by rw [HQL.out], ?_, fun b off e => by have := HDG.out b off e; have := HSZb.out; simp only [World.size_setCell]; omega⟩
                  exact HRWb.out.mutT (mut_all _ _ _ _ _ _) fun b off e hne h => by have := HDG.out b off e; omega
                · have HRN : Hid (r = none) := hid (by rw [HRX.out, if_neg (fun h => heq (Option.some.inj h))])
                  have u1 : (t != s ++ [10]) = true := by simpa using heq
                  have u2 : (t == s ++ [10]) = false := by simpa using heq
                  have acat := run_cat s [10] (by have := HS.out; omega) (by simp)
                  clear heq HRX HLP
                  have CLH : Hid (Calls Tryz.prog 62 #[.agg #[.int .i64 xk, .int .i64 v1, .int .i64 0, .slice da q dc]] w30 fun e w' => e = .returned (.tuple #[.string ⟨t.toArray⟩, .bool true]) ∧ Below w30.heap.size w30 w') := hid CL
                  clear CL
                  go_wp2_with fail
                  refine CLH.out.mono ?_
                  rintro e w31 ⟨rfl, hb31⟩
                  clear CLH
                  have HRWb := hid (HRW.out.ext hb31)
                  have HSZb : Hid (w30.heap.size ≤ w31.heap.size) := hid hb31.size
                  clear HRW
                  have HM31 : Hid (Mut (fun q => q = sb ∨ W3.heap.size ≤ q) W3 w31) := hid (HM30.out.trans ((Mut.of_below (F := fun q => w30.heap.size ≤ q) hb31).mono fun q _ e => .inr (Nat.le_trans HM30.out.size e)))
                  have HX31 := hid (HX30.out.ext hb31)
                  clear hb31 HM30 HX30
                  clear y0 y1 y2 y3
                  have HB0 : Hid (Below w.heap.size w w31) := hid (HB3.out.trans (HM31.out.below (B := w.heap.size) (by have := HB3.out.size; omega) fun q e => by have := HG3.out; have := HB3.out.size; rcases e with e | e <;> omega))
                  have HX0 := hid (HX3.out.mut HM31.out (fun e => by have := HG3.out; rcases e with e | e <;> omega))
                  have z0 := HX0.out.c0
                  have z1 := HX0.out.c1
                  have z2 := HX0.out.c2
                  have z3 := HX0.out.c3
                  have zf := HX0.out.f
                  go_wp2_with fail
                  refine bodyPost_ret (v := .tuple #[.agg ([.int .i64 0, .int .i64 0, .int .i64 0, .slice none 0 0] : List Value).toArray, .bool false]) (results_cell_tmp (p := 2) (q := 3) (ty := 62) rfl _ _ w.heap.size [.int .i64 0, .int .i64 0, .int .i64 0, .slice none 0 0] _ rfl (HX0.out.all _ _ _ _).range Tryz.underlying62 rfl (infoStepL _ _ _ _)) rfl ⟨by rw [HRN.out]; rfl, below_all HB0.out (Nat.le_refl _) _ _ _ _⟩
        · have HRN : Hid (r = none) := hid (by rw [HR.out, if_neg (fun e => hlen (by rw [← HN.out]; exact e))])
          have g1 : ((n : Int) != 3) = true := by rw [bne_iff_ne]; omega
          have g2 : (n != 3) = true := by rw [bne_iff_ne]; exact hlen
          have g3 : ((n : Int) == 3) = false := by rw [beq_eq_false_iff_ne]; omega
          clear HR hlen
          have HB0 : Hid (Below w.heap.size w w4) := hid (HB3.out.trans (HM4.out.below (B := w.heap.size) (by have := HB3.out.size; omega) fun q e => by have := HG3.out; have := HB3.out.size; rcases e with e | e <;> omega))
          have HX0 := hid (HX3.out.mut HM4.out (fun e => by have := HG3.out; rcases e with e | e <;> omega))
          have z0 := HX0.out.c0
          have z1 := HX0.out.c1
          have z2 := HX0.out.c2
          have z3 := HX0.out.c3
          have zf := HX0.out.f
          go_wp2_with fail
          refine bodyPost_ret (v := .tuple #[.agg ([.int .i64 0, .int .i64 0, .int .i64 0, .slice none 0 0] : List Value).toArray, .bool false]) (results_cell_tmp (p := 2) (q := 3) (ty := 62) rfl _ _ w.heap.size [.int .i64 0, .int .i64 0, .int .i64 0, .slice none 0 0] _ rfl (HX0.out.all _ _ _ _).range Tryz.underlying62 rfl (infoStepL _ _ _ _)) rfl ⟨by rw [HRN.out]; rfl, below_all HB0.out (Nat.le_refl _) _ _ _ _⟩
      · have CWH : Hid (Calls Tryz.prog 59 #[.int .i64 xk] wr fun e w' => e = .returned (.tuple #[.string ⟨wd.toArray⟩, .string ⟨([98] : List UInt8).toArray⟩]) ∧ Below wr.heap.size wr w') := hid CW
        have HR : Hid (r = if L.length = 3 then (if lineP (readR ⟨xk, word, true, false⟩ L) = some (s ++ [10]) then some (readR ⟨xk, word, true, false⟩ L) else none) else none) := hid HR.out
        clear HH HK hbx CW
        have z0 := HX6.out.c0
        go_wp2_with fail
        refine CWH.out.mono ?_
        rintro e w4 ⟨rfl, hb4⟩
        have HM4 : Hid (Mut (fun q => q = sb ∨ W3.heap.size ≤ q) W3 w4) := hid (hmu.out.trans ((Mut.of_below (F := fun q => wr.heap.size ≤ q) hb4).mono fun q _ e => .inr (Nat.le_trans hmu.out.size e)))
        have HX4 := hid (HX6.out.ext hb4)
        clear hb4 CWH hmu HX6 z0
        by_cases hlen : n = 3
        · subst hlen
          have HRR : Hid (r = if lineP (readR ⟨xk, word, true, false⟩ L) = some (s ++ [10]) then some (readR ⟨xk, word, true, false⟩ L) else none) := hid (by rw [HR.out, if_pos HN.out])
          clear HR
          obtain ⟨t1, ht1⟩ : ∃ t, L[1]? = some t := ⟨L[1]'(by rw [HN.out]; decide), List.getElem?_eq_getElem _⟩
          have CV := hid (refValue_any (s := t1) (w := w4) (by have := HLE.out t1 (List.mem_of_getElem? ht1); have := HS.out; omega))
          obtain ⟨v1, hv1⟩ : ∃ v, valR t1 = v := ⟨_, rfl⟩
          rw [hv1] at CV
          have HV1 : Hid (valR (L.getD 1 []) = v1) := hid (by rw [List.getD_eq_getElem?_getD, ht1]; exact hv1)
          have p1 := HPC.out w4 1 t1 HM4.out ht1
          clear hv1 ht1
          go_wp2_with fail
          refine CV.out.mono ?_
          rintro e w5 ⟨rfl, hb5⟩
          clear CV p1
          have HM5 : Hid (Mut (fun q => q = sb ∨ W3.heap.size ≤ q) W3 w5) := hid (HM4.out.trans ((Mut.of_below (F := fun q => w4.heap.size ≤ q) hb5).mono fun q _ e => .inr (Nat.le_trans HM4.out.size e)))
          have HX5 := hid (HX4.out.ext hb5)
          clear hb5 HM4 HX4
          have z1 := HX5.out.c1
          have zf := HX5.out.f
          go_upto_region 13 with fail
          have HX6 := hid (HX5.out.set1 (.int .i64 v1))
          have HM6 := hid (mut_set HM5.out sb 1 (.int .i64 v1) (.inl rfl))
          obtain ⟨w6, hw6⟩ : ∃ z, w5.setCell ⟨sb, 1, none⟩ (.int .i64 v1) = z := ⟨_, rfl⟩
          rw [hw6] at HX6 HM6
          rw [hw6]
          clear hw6 z1 zf HX5 HM5
          obtain ⟨t2, ht2⟩ : ∃ t, L[2]? = some t := ⟨L[2]'(by rw [HN.out]; decide), List.getElem?_eq_getElem _⟩
          have CV := hid (refValue_any (s := t2) (w := w6) (by have := HLE.out t2 (List.mem_of_getElem? ht2); have := HS.out; omega))
          obtain ⟨v2, hv2⟩ : ∃ v, valR t2 = v := ⟨_, rfl⟩
          rw [hv2] at CV
          have HV2 : Hid (valR (L.getD 2 []) = v2) := hid (by rw [List.getD_eq_getElem?_getD, ht2]; exact hv2)
          have p2 := HPC.out w6 2 t2 HM6.out ht2
          clear hv2 ht2
          go_wp2_with fail
          refine CV.out.mono ?_
          rintro e w7 ⟨rfl, hb7⟩
          clear CV p2
          have HM7 : Hid (Mut (fun q => q = sb ∨ W3.heap.size ≤ q) W3 w7) := hid (HM6.out.trans ((Mut.of_below (F := fun q => w6.heap.size ≤ q) hb7).mono fun q _ e => .inr (Nat.le_trans HM6.out.size e)))
          have HX7 := hid (HX6.out.ext hb7)
          clear hb7 HM6 HX6
          have z2 := HX7.out.c2
          have zf := HX7.out.f
          go_upto_region 15 with fail
          have HX8 := hid (HX7.out.set2 (.int .i64 v2))
          have HM8 := hid (mut_set HM7.out sb 2 (.int .i64 v2) (.inl rfl))
          obtain ⟨w8, hw8⟩ : ∃ z, w7.setCell ⟨sb, 2, none⟩ (.int .i64 v2) = z := ⟨_, rfl⟩
          rw [hw8] at HX8 HM8
          rw [hw8]
          clear hw8 z2 zf HX7 HM7
          have HEX : Hid (readR ⟨xk, word, true, false⟩ L = ⟨xk, v1, v2, []⟩) := hid (by
            show (⟨xk, valR (L.getD 1 []), valR (L.getD 2 []), []⟩ : StepD) = _
            rw [HV1.out, HV2.out])
          have HRX : Hid (r = if lineP ⟨xk, v1, v2, []⟩ = some (s ++ [10]) then some ⟨xk, v1, v2, []⟩ else none) := hid (by rw [HRR.out, HEX.out])
          have HOKX : Hid (StepOk ⟨xk, v1, v2, []⟩) := hid (by rw [← HEX.out]; exact readR_ok _ _)
          have CL := refLine_any (s := ⟨xk, v1, v2, []⟩) (a := none) (c := 0) (n := 0) (w := w8) ⟨by have := HXK.out; exact ⟨by simp only; omega, by simp only; omega⟩, HOKX.out, .inl rfl⟩ (hid rfl) (by first | omega | (have := HQJ.out; omega))
          obtain ⟨lp, hlp⟩ : ∃ lp, lineP ⟨xk, v1, v2, []⟩ = lp := ⟨_, rfl⟩
          rw [hlp] at HRX CL
          have HLP := hid hlp
          clear hlp HRR HEX
          have y0 := HX8.out.c0
          have y1 := HX8.out.c1
          have y2 := HX8.out.c2
          have y3 := HX8.out.c3
          rcases lp with _ | t
          · have HRN : Hid (r = none) := hid (by rw [HRX.out, if_neg (by simp)])
            have CLH : Hid (Calls Tryz.prog 62 #[.agg #[.int .i64 xk, .int .i64 v1, .int .i64 v2, .slice none 0 0]] w8 fun e w' => e = .returned (.tuple #[.string ⟨#[]⟩, .bool false]) ∧ Below w8.heap.size w8 w') := hid CL
            clear CL
            go_wp2_with fail
            refine CLH.out.mono ?_
            rintro e w9 ⟨rfl, hb9⟩
            clear CLH
            have HM9 : Hid (Mut (fun q => q = sb ∨ W3.heap.size ≤ q) W3 w9) := hid (HM8.out.trans ((Mut.of_below (F := fun q => w8.heap.size ≤ q) hb9).mono fun q _ e => .inr (Nat.le_trans HM8.out.size e)))
            have HX9 := hid (HX8.out.ext hb9)
            clear hb9 HM8 HX8
            clear y0 y1 y2 y3 HRX HLP
            have HB0 : Hid (Below w.heap.size w w9) := hid (HB3.out.trans (HM9.out.below (B := w.heap.size) (by have := HB3.out.size; omega) fun q e => by have := HG3.out; have := HB3.out.size; rcases e with e | e <;> omega))
            have HX0 := hid (HX3.out.mut HM9.out (fun e => by have := HG3.out; rcases e with e | e <;> omega))
            have z0 := HX0.out.c0
            have z1 := HX0.out.c1
            have z2 := HX0.out.c2
            have z3 := HX0.out.c3
            have zf := HX0.out.f
            go_wp2_with fail
            refine bodyPost_ret (v := .tuple #[.agg ([.int .i64 0, .int .i64 0, .int .i64 0, .slice none 0 0] : List Value).toArray, .bool false]) (results_cell_tmp (p := 2) (q := 3) (ty := 62) rfl _ _ w.heap.size [.int .i64 0, .int .i64 0, .int .i64 0, .slice none 0 0] _ rfl (HX0.out.all _ _ _ _).range Tryz.underlying62 rfl (infoStepL _ _ _ _)) rfl ⟨by rw [HRN.out]; rfl, below_all HB0.out (Nat.le_refl _) _ _ _ _⟩
          · by_cases heq : t = s ++ [10]
            · have HRS : Hid (r = some ⟨xk, v1, v2, []⟩) := hid (by rw [HRX.out, heq, if_pos rfl])
              have u1 : (t != s ++ [10]) = false := by simp [heq]
              have u2 : (t == s ++ [10]) = true := by simp [heq]
              have acat := run_cat s [10] (by have := HS.out; omega) (by simp)
              clear heq HRX HLP
              have CLH : Hid (Calls Tryz.prog 62 #[.agg #[.int .i64 xk, .int .i64 v1, .int .i64 v2, .slice none 0 0]] w8 fun e w' => e = .returned (.tuple #[.string ⟨t.toArray⟩, .bool true]) ∧ Below w8.heap.size w8 w') := hid CL
              clear CL
              go_wp2_with fail
              refine CLH.out.mono ?_
              rintro e w9 ⟨rfl, hb9⟩
              clear CLH
              have HM9 : Hid (Mut (fun q => q = sb ∨ W3.heap.size ≤ q) W3 w9) := hid (HM8.out.trans ((Mut.of_below (F := fun q => w8.heap.size ≤ q) hb9).mono fun q _ e => .inr (Nat.le_trans HM8.out.size e)))
              have HX9 := hid (HX8.out.ext hb9)
              clear hb9 HM8 HX8
              clear y0 y1 y2 y3
              have HB0 : Hid (Below w.heap.size w w9) := hid (HB3.out.trans (HM9.out.below (B := w.heap.size) (by have := HB3.out.size; omega) fun q e => by have := HG3.out; have := HB3.out.size; rcases e with e | e <;> omega))
              have HX0 := hid (HX3.out.mut HM9.out (fun e => by have := HG3.out; rcases e with e | e <;> omega))
              have z0 := HX0.out.c0
              have z1 := HX0.out.c1
              have z2 := HX0.out.c2
              have z3 := HX0.out.c3
              have zf := HX0.out.f
              have y0 := HX9.out.c0
              have y1 := HX9.out.c1
              have y2 := HX9.out.c2
              have y3 := HX9.out.c3
              go_wp2_with fail
              refine bodyPost_ret (v := .tuple #[.agg ([.int .i64 xk, .int .i64 v1, .int .i64 v2, .slice none 0 0] : List Value).toArray, .bool true]) (results_cell_tmp (p := 2) (q := 3) (ty := 62) rfl _ _ w.heap.size [.int .i64 xk, .int .i64 v1, .int .i64 v2, .slice none 0 0] _ rfl (HX0.out.all _ _ _ _).range Tryz.underlying62 rfl (infoStepL _ _ _ _)) rfl ⟨?_, below_all HB0.out (Nat.le_refl _) _ _ _ _⟩
              rw [HRS.out]
              exact ⟨none, 0, rfl, .inl rfl, fun b off e => by cases e⟩
            · have HRN : Hid (r = none) := hid (by rw [HRX.out, if_neg (fun h => heq (Option.some.inj h))])
              have u1 : (t != s ++ [10]) = true := by simpa using heq
              have u2 : (t == s ++ [10]) = false := by simpa using heq
              have acat := run_cat s [10] (by have := HS.out; omega) (by simp)
              clear heq HRX HLP
              have CLH : Hid (Calls Tryz.prog 62 #[.agg #[.int .i64 xk, .int .i64 v1, .int .i64 v2, .slice none 0 0]] w8 fun e w' => e = .returned (.tuple #[.string ⟨t.toArray⟩, .bool true]) ∧ Below w8.heap.size w8 w') := hid CL
              clear CL
              go_wp2_with fail
              refine CLH.out.mono ?_
              rintro e w9 ⟨rfl, hb9⟩
              clear CLH
              have HM9 : Hid (Mut (fun q => q = sb ∨ W3.heap.size ≤ q) W3 w9) := hid (HM8.out.trans ((Mut.of_below (F := fun q => w8.heap.size ≤ q) hb9).mono fun q _ e => .inr (Nat.le_trans HM8.out.size e)))
              have HX9 := hid (HX8.out.ext hb9)
              clear hb9 HM8 HX8
              clear y0 y1 y2 y3
              have HB0 : Hid (Below w.heap.size w w9) := hid (HB3.out.trans (HM9.out.below (B := w.heap.size) (by have := HB3.out.size; omega) fun q e => by have := HG3.out; have := HB3.out.size; rcases e with e | e <;> omega))
              have HX0 := hid (HX3.out.mut HM9.out (fun e => by have := HG3.out; rcases e with e | e <;> omega))
              have z0 := HX0.out.c0
              have z1 := HX0.out.c1
              have z2 := HX0.out.c2
              have z3 := HX0.out.c3
              have zf := HX0.out.f
              go_wp2_with fail
              refine bodyPost_ret (v := .tuple #[.agg ([.int .i64 0, .int .i64 0, .int .i64 0, .slice none 0 0] : List Value).toArray, .bool false]) (results_cell_tmp (p := 2) (q := 3) (ty := 62) rfl _ _ w.heap.size [.int .i64 0, .int .i64 0, .int .i64 0, .slice none 0 0] _ rfl (HX0.out.all _ _ _ _).range Tryz.underlying62 rfl (infoStepL _ _ _ _)) rfl ⟨by rw [HRN.out]; rfl, below_all HB0.out (Nat.le_refl _) _ _ _ _⟩
        · have HRN : Hid (r = none) := hid (by rw [HR.out, if_neg (fun e => hlen (by rw [← HN.out]; exact e))])
          have g1 : ((n : Int) != 3) = true := by rw [bne_iff_ne]; omega
          have g2 : (n != 3) = true := by rw [bne_iff_ne]; exact hlen
          have g3 : ((n : Int) == 3) = false := by rw [beq_eq_false_iff_ne]; omega
          clear HR hlen
          have HB0 : Hid (Below w.heap.size w w4) := hid (HB3.out.trans (HM4.out.below (B := w.heap.size) (by have := HB3.out.size; omega) fun q e => by have := HG3.out; have := HB3.out.size; rcases e with e | e <;> omega))
          have HX0 := hid (HX3.out.mut HM4.out (fun e => by have := HG3.out; rcases e with e | e <;> omega))
          have z0 := HX0.out.c0
          have z1 := HX0.out.c1
          have z2 := HX0.out.c2
          have z3 := HX0.out.c3
          have zf := HX0.out.f
          go_wp2_with fail
          refine bodyPost_ret (v := .tuple #[.agg ([.int .i64 0, .int .i64 0, .int .i64 0, .slice none 0 0] : List Value).toArray, .bool false]) (results_cell_tmp (p := 2) (q := 3) (ty := 62) rfl _ _ w.heap.size [.int .i64 0, .int .i64 0, .int .i64 0, .slice none 0 0] _ rfl (HX0.out.all _ _ _ _).range Tryz.underlying62 rfl (infoStepL _ _ _ _)) rfl ⟨by rw [HRN.out]; rfl, below_all HB0.out (Nat.le_refl _) _ _ _ _⟩
      · have CWH : Hid (Calls Tryz.prog 59 #[.int .i64 xk] wr fun e w' => e = .returned (.tuple #[.string ⟨wd.toArray⟩, .string ⟨([98, 120] : List UInt8).toArray⟩]) ∧ Below wr.heap.size wr w') := hid CW
        have HR : Hid (r = if L.length = 4 then (if lineP (readR ⟨xk, word, true, true⟩ L) = some (s ++ [10]) then some (readR ⟨xk, word, true, true⟩ L) else none) else none) := hid HR.out
        clear HH HK hbx CW
        have z0 := HX6.out.c0
        go_wp2_with fail
        refine CWH.out.mono ?_
        rintro e w4 ⟨rfl, hb4⟩
        have HM4 : Hid (Mut (fun q => q = sb ∨ W3.heap.size ≤ q) W3 w4) := hid (hmu.out.trans ((Mut.of_below (F := fun q => wr.heap.size ≤ q) hb4).mono fun q _ e => .inr (Nat.le_trans hmu.out.size e)))
        have HX4 := hid (HX6.out.ext hb4)
        clear hb4 CWH hmu HX6 z0
        by_cases hlen : n = 4
        · subst hlen
          have HRR : Hid (r = if lineP (readR ⟨xk, word, true, true⟩ L) = some (s ++ [10]) then some (readR ⟨xk, word, true, true⟩ L) else none) := hid (by rw [HR.out, if_pos HN.out])
          clear HR
          obtain ⟨t1, ht1⟩ : ∃ t, L[1]? = some t := ⟨L[1]'(by rw [HN.out]; decide), List.getElem?_eq_getElem _⟩
          have CV := hid (refValue_any (s := t1) (w := w4) (by have := HLE.out t1 (List.mem_of_getElem? ht1); have := HS.out; omega))
          obtain ⟨v1, hv1⟩ : ∃ v, valR t1 = v := ⟨_, rfl⟩
          rw [hv1] at CV
          have HV1 : Hid (valR (L.getD 1 []) = v1) := hid (by rw [List.getD_eq_getElem?_getD, ht1]; exact hv1)
          have p1 := HPC.out w4 1 t1 HM4.out ht1
          clear hv1 ht1
          go_wp2_with fail
          refine CV.out.mono ?_
          rintro e w5 ⟨rfl, hb5⟩
          clear CV p1
          have HM5 : Hid (Mut (fun q => q = sb ∨ W3.heap.size ≤ q) W3 w5) := hid (HM4.out.trans ((Mut.of_below (F := fun q => w4.heap.size ≤ q) hb5).mono fun q _ e => .inr (Nat.le_trans HM4.out.size e)))
          have HX5 := hid (HX4.out.ext hb5)
          clear hb5 HM4 HX4
          have z1 := HX5.out.c1
          have zf := HX5.out.f
          go_upto_region 13 with fail
          have HX6 := hid (HX5.out.set1 (.int .i64 v1))
          have HM6 := hid (mut_set HM5.out sb 1 (.int .i64 v1) (.inl rfl))
          obtain ⟨w6, hw6⟩ : ∃ z, w5.setCell ⟨sb, 1, none⟩ (.int .i64 v1) = z := ⟨_, rfl⟩
          rw [hw6] at HX6 HM6
          rw [hw6]
          clear hw6 z1 zf HX5 HM5
          obtain ⟨t2, ht2⟩ : ∃ t, L[2]? = some t := ⟨L[2]'(by rw [HN.out]; decide), List.getElem?_eq_getElem _⟩
          have CV := hid (refValue_any (s := t2) (w := w6) (by have := HLE.out t2 (List.mem_of_getElem? ht2); have := HS.out; omega))
          obtain ⟨v2, hv2⟩ : ∃ v, valR t2 = v := ⟨_, rfl⟩
          rw [hv2] at CV
          have HV2 : Hid (valR (L.getD 2 []) = v2) := hid (by rw [List.getD_eq_getElem?_getD, ht2]; exact hv2)
          have p2 := HPC.out w6 2 t2 HM6.out ht2
          clear hv2 ht2
          go_wp2_with fail
          refine CV.out.mono ?_
          rintro e w7 ⟨rfl, hb7⟩
          clear CV p2
          have HM7 : Hid (Mut (fun q => q = sb ∨ W3.heap.size ≤ q) W3 w7) := hid (HM6.out.trans ((Mut.of_below (F := fun q => w6.heap.size ≤ q) hb7).mono fun q _ e => .inr (Nat.le_trans HM6.out.size e)))
          have HX7 := hid (HX6.out.ext hb7)
          clear hb7 HM6 HX6
          have z2 := HX7.out.c2
          have zf := HX7.out.f
          go_upto_region 15 with fail
          have HX8 := hid (HX7.out.set2 (.int .i64 v2))
          have HM8 := hid (mut_set HM7.out sb 2 (.int .i64 v2) (.inl rfl))
          obtain ⟨w8, hw8⟩ : ∃ z, w7.setCell ⟨sb, 2, none⟩ (.int .i64 v2) = z := ⟨_, rfl⟩
          rw [hw8] at HX8 HM8
          rw [hw8]
          clear hw8 z2 zf HX7 HM7
          obtain ⟨d, hd⟩ : ∃ t, L[3]? = some t := ⟨L[3]'(by rw [HN.out]; decide), List.getElem?_eq_getElem _⟩
          obtain ⟨dl, hdl⟩ : ∃ z, d.length = z := ⟨_, rfl⟩
          have hzd : (⟨d.toArray⟩ : ByteArray).size = dl := by rw [bszP, hdl]
          have HDE : Hid (unhexR ((L.getD (L.length - 1) []).drop 1) = unhexR (d.drop 1)) := hid (by rw [HN.out, show 4 - 1 = 3 from rfl, List.getD_eq_getElem?_getD, hd]; rfl)
          have hdb : dl ≤ 900000 := by have := HLE.out d (List.mem_of_getElem? hd); have := HS.out; omega
          have pd := HPC.out w8 3 d HM8.out hd
          have HDL := hid hdl
          have HSBA : Hid (sb < w8.heap.size ∧ W3.heap.size ≤ w8.heap.size) := hid ⟨HX8.out.lt, HM8.out.size⟩
          clear hd hdl
          go_upto_region 17 with fail
          clear pd
          go_wp2_with fail
          go_loopw [12] (fun i wz => ∃ (j q : Nat) (da : Option Addr) (dc : Nat) (ds : List Nat), i = .int .i64 j ∧ 1 ≤ j ∧ j ≤ dl + 1 ∧ Hid (2 * q + 1 = j) ∧ Hid (ds.length = q) ∧ Hid (unhexR (d.drop 1) = ds ++ unhexR (d.drop j)) ∧ Hid (Bx4 wz sb (.int .i64 xk) (.int .i64 v1) (.int .i64 v2) (.slice da q dc)) ∧ Hid (OwnB wz w8.heap.size (.slice da q dc) ds) ∧ Hid (Mut (fun q => q = sb ∨ W3.heap.size ≤ q) W3 wz) ∧ Hid (w8.heap.size ≤ wz.heap.size)) (fun i _ => dl + 1 - (intOf i).toNat)
          case atStart => exact ⟨1, 0, none, 0, [], rfl, Nat.le_refl _, by omega, hid rfl, hid rfl, hid rfl, HX8, hid (OwnB.nil _ _), HM8, hid (Nat.le_refl _)⟩
          case round =>
            obtain ⟨j, q, da, dc, ds, rfl, hj1, hj, HQJ, HQL, HUN, HXj, HOj, HMj, HSj⟩ := hrel
            rename World => wz
            by_cases hjl : j + 1 < dl
            · obtain ⟨c1, c2, hc1, hc2, hun⟩ := unhexR_drop (d := d) (i := j) (by rw [HDL.out]; exact hjl)
              have UI1 := fun W => str_at hc1 W
              have UI2 := fun W => str_at hc2 W
              rw [show ((j + 1 : Nat) : Int) = (j : Int) + 1 by omega] at UI2
              obtain ⟨x1, hx1⟩ : ∃ x, c1.toNat = x := ⟨_, rfl⟩
              obtain ⟨x2, hx2⟩ : ∃ x, c2.toNat = x := ⟨_, rfl⟩
              rw [digR_n, digR_n, hx1, hx2] at hun
              have hl1 : x1 < 256 := by rw [← hx1]; exact UInt8.toNat_lt c1
              have hl2 : x2 < 256 := by rw [← hx2]; exact UInt8.toNat_lt c2
              rw [hx1] at UI1
              rw [hx2] at UI2
              have CD1 := fun W => refDigit_any x1 hl1 W
              have CD2 := fun W => refDigit_any x2 hl2 W
              obtain ⟨n1, hn1⟩ : ∃ g, digN x1 = g := ⟨_, rfl⟩
              obtain ⟨n2, hn2⟩ : ∃ g, digN x2 = g := ⟨_, rfl⟩
              have e1 := wrap8_16 n1
              have e2 := wrap8_add n1 n2
              rw [hn1] at CD1 hun
              rw [hn2] at CD2 hun
              obtain ⟨M1, hM1⟩ : ∃ g, n1 * 16 % 256 = g := ⟨_, rfl⟩
              obtain ⟨z, hz⟩ : ∃ g, (n1 * 16 + n2) % 256 = g := ⟨_, rfl⟩
              rw [hM1] at e1 e2
              rw [hz] at e2 hun
              have HUJ := hid hun
              have CD1 := hid CD1
              have CD2 := hid CD2
              have e0 : IntKind.i64.wrap ((j : Int) + 1) = (j : Int) + 1 := by rw [IntKind.wrap_i64]; omega
              have d1 : decide ((j : Int) + 1 < (dl : Int)) = true := decide_eq_true (by omega)
              have d2 : decide (j + 1 < dl) = true := decide_eq_true hjl
              have s3 : wz.drew.cell? ⟨sb, 3, none⟩ = some (.slice da q dc) := (HXj.out.ext (Below.refl _ _).drew).c3
              clear hc1 hc2 hun hx1 hx2 hn1 hn2 hM1 hz hl1 hl2
              go_upto_region 20 with fail
              refine wp_region_held_drew (S := fun _ => True) (by kernel_rfl) (trivial) (fun hHeld => ?_)
              refine wpAnyH_take (i := 0) (oi := _) (v := .pointer (some ⟨sb, 3, none⟩)) rfl (by kernel_rfl) (by kernel_rfl) (by kernel_rfl) (fun _ _ _ h => h) (Or.inl ⟨by rfl, ?_⟩) (by assumption) ?_
              · intro W hSw
                try dsimp only at hSw
                go_simp
              try simp only [Act.put, List.getElem_toArray, List.getElem_cons_succ, List.getElem_cons_zero, List.setIfInBounds_toArray, List.set_cons_zero, List.set_cons_succ]
              refine wpAnyH_take (i := 2) (oi := _) (v := .string ⟨d.toArray⟩) rfl (by kernel_rfl) (by kernel_rfl) (by kernel_rfl) (fun _ _ _ h => h) (Or.inl ⟨by rfl, ?_⟩) (by assumption) ?_
              · intro W hSw
                try dsimp only at hSw
                go_simp
              try simp only [Act.put, List.getElem_toArray, List.getElem_cons_succ, List.getElem_cons_zero, List.setIfInBounds_toArray, List.set_cons_zero, List.set_cons_succ]
              refine wpAnyH_take (i := 3) (oi := _) (v := .int .i64 (j : Int)) rfl (by kernel_rfl) (by kernel_rfl) (by kernel_rfl) (fun _ _ _ h => h) (Or.inl ⟨by rfl, ?_⟩) (by assumption) ?_
              · intro W hSw
                try dsimp only at hSw
                go_simp
              try simp only [Act.put, List.getElem_toArray, List.getElem_cons_succ, List.getElem_cons_zero, List.setIfInBounds_toArray, List.set_cons_zero, List.set_cons_succ]
              refine wpAnyH_take (i := 4) (oi := _) (v := .int .u8 (x1 : Int)) rfl (by kernel_rfl) (by kernel_rfl) (by kernel_rfl) (fun _ _ _ h => h) (Or.inl ⟨by rfl, ?_⟩) (by assumption) ?_
              · intro W hSw
                try dsimp only at hSw
                go_simp
              try simp only [Act.put, List.getElem_toArray, List.getElem_cons_succ, List.getElem_cons_zero, List.setIfInBounds_toArray, List.set_cons_zero, List.set_cons_succ]
              refine wpAnyH_take (i := 7) (oi := _) (v := .string ⟨d.toArray⟩) rfl (by kernel_rfl) (by kernel_rfl) (by kernel_rfl) (fun _ _ _ h => h) (Or.inl ⟨by rfl, ?_⟩) (by assumption) ?_
              · intro W hSw
                try dsimp only at hSw
                go_simp
              try simp only [Act.put, List.getElem_toArray, List.getElem_cons_succ, List.getElem_cons_zero, List.setIfInBounds_toArray, List.set_cons_zero, List.set_cons_succ]
              refine wpAnyH_take (i := 8) (oi := _) (v := .int .i64 (j : Int)) rfl (by kernel_rfl) (by kernel_rfl) (by kernel_rfl) (fun _ _ _ h => h) (Or.inl ⟨by rfl, ?_⟩) (by assumption) ?_
              · intro W hSw
                try dsimp only at hSw
                go_simp
              try simp only [Act.put, List.getElem_toArray, List.getElem_cons_succ, List.getElem_cons_zero, List.setIfInBounds_toArray, List.set_cons_zero, List.set_cons_succ]
              refine wpAnyH_take (i := 9) (oi := _) (v := .int .i64 ((j : Int) + 1)) rfl (by kernel_rfl) (by kernel_rfl) (by kernel_rfl) (fun _ _ _ h => h) (Or.inl ⟨by rfl, ?_⟩) (by assumption) ?_
              · intro W hSw
                try dsimp only at hSw
                go_simp
              try simp only [Act.put, List.getElem_toArray, List.getElem_cons_succ, List.getElem_cons_zero, List.setIfInBounds_toArray, List.set_cons_zero, List.set_cons_succ]
              refine wpAnyH_take (i := 10) (oi := _) (v := .int .u8 (x2 : Int)) rfl (by kernel_rfl) (by kernel_rfl) (by kernel_rfl) (fun _ _ _ h => h) (Or.inl ⟨by rfl, ?_⟩) (by assumption) ?_
              · intro W hSw
                try dsimp only at hSw
                go_simp
              try simp only [Act.put, List.getElem_toArray, List.getElem_cons_succ, List.getElem_cons_zero, List.setIfInBounds_toArray, List.set_cons_zero, List.set_cons_succ]
              refine wpAnyH_ready (rs := [1, 5]) (by kernel_rfl) (by simp) ?_
              refine AllReadyH.cons (o := _) rfl (fun K hK => ?_) (AllReadyH.cons (o := _) rfl (fun K hK => ?_) AllReadyH.nil)
              · go_simp
                refine hK.out _ _ (trivial) (fun hHeld => ?_)
                clear hK K
                try simp only [Act.put, List.getElem_toArray, List.getElem_cons_succ, List.getElem_cons_zero, List.setIfInBounds_toArray, List.set_cons_zero, List.set_cons_succ]
                refine wpAnyH_ready (rs := [5]) (by kernel_rfl) (by simp) ?_
                refine AllReadyH.cons (o := _) rfl (fun K hK => ?_) AllReadyH.nil
                go_simp
                refine (CD1.out _).mono ?_
                rintro e wa ⟨rfl, rfl⟩
                refine hK.out _ _ (trivial) (fun hHeld => ?_)
                clear hK K
                try simp only [Act.put, List.getElem_toArray, List.getElem_cons_succ, List.getElem_cons_zero, List.setIfInBounds_toArray, List.set_cons_zero, List.set_cons_succ]
                refine wpAnyH_take (i := 6) (oi := _) (v := .int .u8 (M1 : Int)) rfl (by kernel_rfl) (by kernel_rfl) (by kernel_rfl) (fun _ _ _ h => h) (Or.inl ⟨by rfl, ?_⟩) (by assumption) ?_
                · intro W hSw
                  try dsimp only at hSw
                  go_simp
                try simp only [Act.put, List.getElem_toArray, List.getElem_cons_succ, List.getElem_cons_zero, List.setIfInBounds_toArray, List.set_cons_zero, List.set_cons_succ]
                refine wpAnyH_ready (rs := [11]) (by kernel_rfl) (by simp) ?_
                refine AllReadyH.cons (o := _) rfl (fun K hK => ?_) AllReadyH.nil
                go_simp
                refine (CD2.out _).mono ?_
                rintro e wa ⟨rfl, rfl⟩
                refine hK.out _ _ (trivial) (fun hHeld => ?_)
                clear hK K
                try simp only [Act.put, List.getElem_toArray, List.getElem_cons_succ, List.getElem_cons_zero, List.setIfInBounds_toArray, List.set_cons_zero, List.set_cons_succ]
                refine wpAnyH_take (i := 12) (oi := _) (v := .int .u8 (z : Int)) rfl (by kernel_rfl) (by kernel_rfl) (by kernel_rfl) (fun _ _ _ h => h) (Or.inl ⟨by rfl, ?_⟩) (by assumption) ?_
                · intro W hSw
                  try dsimp only at hSw
                  go_simp
                try simp only [Act.put, List.getElem_toArray, List.getElem_cons_succ, List.getElem_cons_zero, List.setIfInBounds_toArray, List.set_cons_zero, List.set_cons_succ]
                refine wpAnyH_ready (rs := [13]) (by kernel_rfl) (by simp) ?_
                refine AllReadyH.cons (o := _) rfl (fun K hK => ?_) AllReadyH.nil
                go_simp
                obtain ⟨wb, hwb⟩ : ∃ g, (wz.alloc (.cells #[.int .u8 (z : Int)] 5)).drew = g := ⟨_, rfl⟩
                try rw [e2]
                rw [hwb]
                have hbb : Below wz.heap.size wz wb := by rw [← hwb]; exact ((Below.refl _ _).alloc (Nat.le_refl _) _).drew
                have HRb : Hid (ByteRow wb (some ⟨wz.heap.size, 0, none⟩) [z]) := hid (by rw [← hwb]; exact (ByteRow.one wz z).ext (Below.refl _ _).drew)
                have HXb := hid (HXj.out.ext hbb)
                have HOb := hid (HOj.out.ext hbb)
                have HMb : Hid (Mut (fun q => q = sb ∨ W3.heap.size ≤ q) W3 wb) := hid (HMj.out.trans ((Mut.of_below (F := fun g => wz.heap.size ≤ g) hbb).mono fun g _ e => .inr (Nat.le_trans HMj.out.size e)))
                have HSb : Hid (w8.heap.size ≤ wb.heap.size) := hid (by have h1 := HSj.out; have h2 := hbb.size; omega)
                have b3 : wb.cell? ⟨sb, 3, none⟩ = some (.slice da q dc) := HXb.out.c3
                clear hwb hbb
                refine hK.out _ _ (trivial) (fun hHeld => ?_)
                clear hK K
                try simp only [Act.put, List.getElem_toArray, List.getElem_cons_succ, List.getElem_cons_zero, List.setIfInBounds_toArray, List.set_cons_zero, List.set_cons_succ]
                refine wpAnyH_ready (rs := [14]) (by kernel_rfl) (by simp) ?_
                refine AllReadyH.cons (o := _) rfl (fun K hK => ?_) AllReadyH.nil
                refine step_appendBz (n := 1) (base := w8.heap.size) (by rfl) HOb.out HRb.out (hid rfl) (by have := HQL.out; have := HQJ.out; omega) HSb.out rfl rfl rfl ?_
                intro v8 wc hown8 hg8
                have hmg := grown_mutD hg8
                obtain ⟨ua, uc, hu, -, -⟩ := id hown8.row
                have hul : (ds ++ [z]).length = q + 1 := by have := HQL.out; simp; omega
                rw [hul] at hu
                subst hu
                have hog : ∀ g, (Value.slice da q dc).ownBlock = some g → w8.heap.size ≤ g := fun g e => (HOb.out.blkD e).1
                have HXc := hid (HXb.out.mut hmg (fun e => by have h1 := hog _ e; have h2 := HSBA.out.1; omega))
                have HMc : Hid (Mut (fun q => q = sb ∨ W3.heap.size ≤ q) W3 wc) := hid (HMb.out.trans (hmg.mono fun g _ e => .inr (by have h1 := hog _ e; have h2 := HSBA.out.2; omega)))
                have HSc : Hid (w8.heap.size ≤ wc.heap.size) := hid (Nat.le_trans HSb.out hmg.size)
                have HOc := hid hown8
                have c3 : wc.cell? ⟨sb, 3, none⟩ = some (.slice da q dc) := HXc.out.c3
                have fzc := HXc.out.f
                clear hown8 hg8 hmg hul hog
                refine hK.out _ _ (trivial) (fun hHeld => ?_)
                clear hK K
                try simp only [Act.put, List.getElem_toArray, List.getElem_cons_succ, List.getElem_cons_zero, List.setIfInBounds_toArray, List.set_cons_zero, List.set_cons_succ]
                refine wpAnyH_ready (rs := [15]) (by kernel_rfl) (by simp) ?_
                refine AllReadyH.cons (o := _) rfl (fun K hK => ?_) AllReadyH.nil
                go_simp
                refine hK.out _ _ (trivial) (fun hHeld => ?_)
                clear hK K
                try simp only [Act.put, List.getElem_toArray, List.getElem_cons_succ, List.getElem_cons_zero, List.setIfInBounds_toArray, List.set_cons_zero, List.set_cons_succ]
                refine wpAnyH_ready (rs := [16]) (by kernel_rfl) (by simp) ?_
                refine AllReadyH.cons (o := _) rfl (fun K hK => ?_) AllReadyH.nil
                go_simp
                refine hK.out _ _ (trivial) (fun hHeld => ?_)
                clear hK K
                try simp only [Act.put, List.getElem_toArray, List.getElem_cons_succ, List.getElem_cons_zero, List.setIfInBounds_toArray, List.set_cons_zero, List.set_cons_succ]
                refine wpAnyH_done (by kernel_rfl) ?_ _
                obtain ⟨wd2, hwd⟩ : ∃ g, wc.setCell ⟨sb, 3, none⟩ (.slice ua (q + 1) uc) = g := ⟨_, rfl⟩
                have HXd := hid (HXc.out.set3 (.slice ua (q + 1) uc))
                have HMd := hid (mut_set HMc.out sb 3 (.slice ua (q + 1) uc) (.inl rfl))
                have HOd := hid (OwnB.mutD HOc.out (mut1 (w := wc) (s := sb) (i := 3) (v := .slice ua (q + 1) uc)) (fun g e1 e2 => by have h1 := (HOc.out.blkD e1).1; have h2 := HSBA.out.1; omega))
                have HSd : Hid (w8.heap.size ≤ (wc.setCell ⟨sb, 3, none⟩ (.slice ua (q + 1) uc)).heap.size) := hid (by rw [World.size_setCell]; exact HSc.out)
                rw [hwd] at HXd HMd HOd HSd
                clear HXb HMb HOb HRb HSb b3 c3 fzc HXc HMc HSc HOc
                go_wp2_with fail
                try rw [hwd]
                go_roundw
                case rel => exact ⟨j + 2, q + 1, ua, uc, ds ++ [z], by go_num, by omega, by omega, hid (by have := HQJ.out; omega), hid (by have := HQL.out; simp; omega), hid (by rw [HUN.out, HUJ.out, List.append_assoc]; rfl), HXd, HOd, HMd, HSd⟩
                case measure => simp [intOf]; omega
              · go_simp
                refine (CD1.out _).mono ?_
                rintro e wa ⟨rfl, rfl⟩
                refine hK.out _ _ (trivial) (fun hHeld => ?_)
                clear hK K
                try simp only [Act.put, List.getElem_toArray, List.getElem_cons_succ, List.getElem_cons_zero, List.setIfInBounds_toArray, List.set_cons_zero, List.set_cons_succ]
                refine wpAnyH_take (i := 6) (oi := _) (v := .int .u8 (M1 : Int)) rfl (by kernel_rfl) (by kernel_rfl) (by kernel_rfl) (fun _ _ _ h => h) (Or.inl ⟨by rfl, ?_⟩) (by assumption) ?_
                · intro W hSw
                  try dsimp only at hSw
                  go_simp
                try simp only [Act.put, List.getElem_toArray, List.getElem_cons_succ, List.getElem_cons_zero, List.setIfInBounds_toArray, List.set_cons_zero, List.set_cons_succ]
                refine wpAnyH_ready (rs := [1, 11]) (by kernel_rfl) (by simp) ?_
                refine AllReadyH.cons (o := _) rfl (fun K hK => ?_) (AllReadyH.cons (o := _) rfl (fun K hK => ?_) AllReadyH.nil)
                · go_simp
                  refine hK.out _ _ (trivial) (fun hHeld => ?_)
                  clear hK K
                  try simp only [Act.put, List.getElem_toArray, List.getElem_cons_succ, List.getElem_cons_zero, List.setIfInBounds_toArray, List.set_cons_zero, List.set_cons_succ]
                  refine wpAnyH_ready (rs := [11]) (by kernel_rfl) (by simp) ?_
                  refine AllReadyH.cons (o := _) rfl (fun K hK => ?_) AllReadyH.nil
                  go_simp
                  refine (CD2.out _).mono ?_
                  rintro e wa ⟨rfl, rfl⟩
                  refine hK.out _ _ (trivial) (fun hHeld => ?_)
                  clear hK K
                  try simp only [Act.put, List.getElem_toArray, List.getElem_cons_succ, List.getElem_cons_zero, List.setIfInBounds_toArray, List.set_cons_zero, List.set_cons_succ]
                  refine wpAnyH_take (i := 12) (oi := _) (v := .int .u8 (z : Int)) rfl (by kernel_rfl) (by kernel_rfl) (by kernel_rfl) (fun _ _ _ h => h) (Or.inl ⟨by rfl, ?_⟩) (by assumption) ?_
                  · intro W hSw
                    try dsimp only at hSw
                    go_simp
                  try simp only [Act.put, List.getElem_toArray, List.getElem_cons_succ, List.getElem_cons_zero, List.setIfInBounds_toArray, List.set_cons_zero, List.set_cons_succ]
                  refine wpAnyH_ready (rs := [13]) (by kernel_rfl) (by simp) ?_
                  refine AllReadyH.cons (o := _) rfl (fun K hK => ?_) AllReadyH.nil
                  go_simp
                  obtain ⟨wb, hwb⟩ : ∃ g, (wz.alloc (.cells #[.int .u8 (z : Int)] 5)).drew = g := ⟨_, rfl⟩
                  try rw [e2]
                  rw [hwb]
                  have hbb : Below wz.heap.size wz wb := by rw [← hwb]; exact ((Below.refl _ _).alloc (Nat.le_refl _) _).drew
                  have HRb : Hid (ByteRow wb (some ⟨wz.heap.size, 0, none⟩) [z]) := hid (by rw [← hwb]; exact (ByteRow.one wz z).ext (Below.refl _ _).drew)
                  have HXb := hid (HXj.out.ext hbb)
                  have HOb := hid (HOj.out.ext hbb)
                  have HMb : Hid (Mut (fun q => q = sb ∨ W3.heap.size ≤ q) W3 wb) := hid (HMj.out.trans ((Mut.of_below (F := fun g => wz.heap.size ≤ g) hbb).mono fun g _ e => .inr (Nat.le_trans HMj.out.size e)))
                  have HSb : Hid (w8.heap.size ≤ wb.heap.size) := hid (by have h1 := HSj.out; have h2 := hbb.size; omega)
                  have b3 : wb.cell? ⟨sb, 3, none⟩ = some (.slice da q dc) := HXb.out.c3
                  clear hwb hbb
                  refine hK.out _ _ (trivial) (fun hHeld => ?_)
                  clear hK K
                  try simp only [Act.put, List.getElem_toArray, List.getElem_cons_succ, List.getElem_cons_zero, List.setIfInBounds_toArray, List.set_cons_zero, List.set_cons_succ]
                  refine wpAnyH_ready (rs := [14]) (by kernel_rfl) (by simp) ?_
                  refine AllReadyH.cons (o := _) rfl (fun K hK => ?_) AllReadyH.nil
                  refine step_appendBz (n := 1) (base := w8.heap.size) (by rfl) HOb.out HRb.out (hid rfl) (by have := HQL.out; have := HQJ.out; omega) HSb.out rfl rfl rfl ?_
                  intro v8 wc hown8 hg8
                  have hmg := grown_mutD hg8
                  obtain ⟨ua, uc, hu, -, -⟩ := id hown8.row
                  have hul : (ds ++ [z]).length = q + 1 := by have := HQL.out; simp; omega
                  rw [hul] at hu
                  subst hu
                  have hog : ∀ g, (Value.slice da q dc).ownBlock = some g → w8.heap.size ≤ g := fun g e => (HOb.out.blkD e).1
                  have HXc := hid (HXb.out.mut hmg (fun e => by have h1 := hog _ e; have h2 := HSBA.out.1; omega))
                  have HMc : Hid (Mut (fun q => q = sb ∨ W3.heap.size ≤ q) W3 wc) := hid (HMb.out.trans (hmg.mono fun g _ e => .inr (by have h1 := hog _ e; have h2 := HSBA.out.2; omega)))
                  have HSc : Hid (w8.heap.size ≤ wc.heap.size) := hid (Nat.le_trans HSb.out hmg.size)
                  have HOc := hid hown8
                  have c3 : wc.cell? ⟨sb, 3, none⟩ = some (.slice da q dc) := HXc.out.c3
                  have fzc := HXc.out.f
                  clear hown8 hg8 hmg hul hog
                  refine hK.out _ _ (trivial) (fun hHeld => ?_)
                  clear hK K
                  try simp only [Act.put, List.getElem_toArray, List.getElem_cons_succ, List.getElem_cons_zero, List.setIfInBounds_toArray, List.set_cons_zero, List.set_cons_succ]
                  refine wpAnyH_ready (rs := [15]) (by kernel_rfl) (by simp) ?_
                  refine AllReadyH.cons (o := _) rfl (fun K hK => ?_) AllReadyH.nil
                  go_simp
                  refine hK.out _ _ (trivial) (fun hHeld => ?_)
                  clear hK K
                  try simp only [Act.put, List.getElem_toArray, List.getElem_cons_succ, List.getElem_cons_zero, List.setIfInBounds_toArray, List.set_cons_zero, List.set_cons_succ]
                  refine wpAnyH_ready (rs := [16]) (by kernel_rfl) (by simp) ?_
                  refine AllReadyH.cons (o := _) rfl (fun K hK => ?_) AllReadyH.nil
                  go_simp
                  refine hK.out _ _ (trivial) (fun hHeld => ?_)
                  clear hK K
                  try simp only [Act.put, List.getElem_toArray, List.getElem_cons_succ, List.getElem_cons_zero, List.setIfInBounds_toArray, List.set_cons_zero, List.set_cons_succ]
                  refine wpAnyH_done (by kernel_rfl) ?_ _
                  obtain ⟨wd2, hwd⟩ : ∃ g, wc.setCell ⟨sb, 3, none⟩ (.slice ua (q + 1) uc) = g := ⟨_, rfl⟩
                  have HXd := hid (HXc.out.set3 (.slice ua (q + 1) uc))
                  have HMd := hid (mut_set HMc.out sb 3 (.slice ua (q + 1) uc) (.inl rfl))
                  have HOd := hid (OwnB.mutD HOc.out (mut1 (w := wc) (s := sb) (i := 3) (v := .slice ua (q + 1) uc)) (fun g e1 e2 => by have h1 := (HOc.out.blkD e1).1; have h2 := HSBA.out.1; omega))
                  have HSd : Hid (w8.heap.size ≤ (wc.setCell ⟨sb, 3, none⟩ (.slice ua (q + 1) uc)).heap.size) := hid (by rw [World.size_setCell]; exact HSc.out)
                  rw [hwd] at HXd HMd HOd HSd
                  clear HXb HMb HOb HRb HSb b3 c3 fzc HXc HMc HSc HOc
                  go_wp2_with fail
                  try rw [hwd]
                  go_roundw
                  case rel => exact ⟨j + 2, q + 1, ua, uc, ds ++ [z], by go_num, by omega, by omega, hid (by have := HQJ.out; omega), hid (by have := HQL.out; simp; omega), hid (by rw [HUN.out, HUJ.out, List.append_assoc]; rfl), HXd, HOd, HMd, HSd⟩
                  case measure => simp [intOf]; omega
                · go_simp
                  refine (CD2.out _).mono ?_
                  rintro e wa ⟨rfl, rfl⟩
                  refine hK.out _ _ (trivial) (fun hHeld => ?_)
                  clear hK K
                  try simp only [Act.put, List.getElem_toArray, List.getElem_cons_succ, List.getElem_cons_zero, List.setIfInBounds_toArray, List.set_cons_zero, List.set_cons_succ]
                  refine wpAnyH_take (i := 12) (oi := _) (v := .int .u8 (z : Int)) rfl (by kernel_rfl) (by kernel_rfl) (by kernel_rfl) (fun _ _ _ h => h) (Or.inl ⟨by rfl, ?_⟩) (by assumption) ?_
                  · intro W hSw
                    try dsimp only at hSw
                    go_simp
                  try simp only [Act.put, List.getElem_toArray, List.getElem_cons_succ, List.getElem_cons_zero, List.setIfInBounds_toArray, List.set_cons_zero, List.set_cons_succ]
                  refine wpAnyH_ready (rs := [1, 13]) (by kernel_rfl) (by simp) ?_
                  refine AllReadyH.cons (o := _) rfl (fun K hK => ?_) (AllReadyH.cons (o := _) rfl (fun K hK => ?_) AllReadyH.nil)
                  · go_simp
                    refine hK.out _ _ (trivial) (fun hHeld => ?_)
                    clear hK K
                    try simp only [Act.put, List.getElem_toArray, List.getElem_cons_succ, List.getElem_cons_zero, List.setIfInBounds_toArray, List.set_cons_zero, List.set_cons_succ]
                    refine wpAnyH_ready (rs := [13]) (by kernel_rfl) (by simp) ?_
                    refine AllReadyH.cons (o := _) rfl (fun K hK => ?_) AllReadyH.nil
                    go_simp
                    obtain ⟨wb, hwb⟩ : ∃ g, (wz.alloc (.cells #[.int .u8 (z : Int)] 5)).drew = g := ⟨_, rfl⟩
                    try rw [e2]
                    rw [hwb]
                    have hbb : Below wz.heap.size wz wb := by rw [← hwb]; exact ((Below.refl _ _).alloc (Nat.le_refl _) _).drew
                    have HRb : Hid (ByteRow wb (some ⟨wz.heap.size, 0, none⟩) [z]) := hid (by rw [← hwb]; exact (ByteRow.one wz z).ext (Below.refl _ _).drew)
                    have HXb := hid (HXj.out.ext hbb)
                    have HOb := hid (HOj.out.ext hbb)
                    have HMb : Hid (Mut (fun q => q = sb ∨ W3.heap.size ≤ q) W3 wb) := hid (HMj.out.trans ((Mut.of_below (F := fun g => wz.heap.size ≤ g) hbb).mono fun g _ e => .inr (Nat.le_trans HMj.out.size e)))
                    have HSb : Hid (w8.heap.size ≤ wb.heap.size) := hid (by have h1 := HSj.out; have h2 := hbb.size; omega)
                    have b3 : wb.cell? ⟨sb, 3, none⟩ = some (.slice da q dc) := HXb.out.c3
                    clear hwb hbb
                    refine hK.out _ _ (trivial) (fun hHeld => ?_)
                    clear hK K
                    try simp only [Act.put, List.getElem_toArray, List.getElem_cons_succ, List.getElem_cons_zero, List.setIfInBounds_toArray, List.set_cons_zero, List.set_cons_succ]
                    refine wpAnyH_ready (rs := [14]) (by kernel_rfl) (by simp) ?_
                    refine AllReadyH.cons (o := _) rfl (fun K hK => ?_) AllReadyH.nil
                    refine step_appendBz (n := 1) (base := w8.heap.size) (by rfl) HOb.out HRb.out (hid rfl) (by have := HQL.out; have := HQJ.out; omega) HSb.out rfl rfl rfl ?_
                    intro v8 wc hown8 hg8
                    have hmg := grown_mutD hg8
                    obtain ⟨ua, uc, hu, -, -⟩ := id hown8.row
                    have hul : (ds ++ [z]).length = q + 1 := by have := HQL.out; simp; omega
                    rw [hul] at hu
                    subst hu
                    have hog : ∀ g, (Value.slice da q dc).ownBlock = some g → w8.heap.size ≤ g := fun g e => (HOb.out.blkD e).1
                    have HXc := hid (HXb.out.mut hmg (fun e => by have h1 := hog _ e; have h2 := HSBA.out.1; omega))
                    have HMc : Hid (Mut (fun q => q = sb ∨ W3.heap.size ≤ q) W3 wc) := hid (HMb.out.trans (hmg.mono fun g _ e => .inr (by have h1 := hog _ e; have h2 := HSBA.out.2; omega)))
                    have HSc : Hid (w8.heap.size ≤ wc.heap.size) := hid (Nat.le_trans HSb.out hmg.size)
                    have HOc := hid hown8
                    have c3 : wc.cell? ⟨sb, 3, none⟩ = some (.slice da q dc) := HXc.out.c3
                    have fzc := HXc.out.f
                    clear hown8 hg8 hmg hul hog
                    refine hK.out _ _ (trivial) (fun hHeld => ?_)
                    clear hK K
                    try simp only [Act.put, List.getElem_toArray, List.getElem_cons_succ, List.getElem_cons_zero, List.setIfInBounds_toArray, List.set_cons_zero, List.set_cons_succ]
                    refine wpAnyH_ready (rs := [15]) (by kernel_rfl) (by simp) ?_
                    refine AllReadyH.cons (o := _) rfl (fun K hK => ?_) AllReadyH.nil
                    go_simp
                    refine hK.out _ _ (trivial) (fun hHeld => ?_)
                    clear hK K
                    try simp only [Act.put, List.getElem_toArray, List.getElem_cons_succ, List.getElem_cons_zero, List.setIfInBounds_toArray, List.set_cons_zero, List.set_cons_succ]
                    refine wpAnyH_ready (rs := [16]) (by kernel_rfl) (by simp) ?_
                    refine AllReadyH.cons (o := _) rfl (fun K hK => ?_) AllReadyH.nil
                    go_simp
                    refine hK.out _ _ (trivial) (fun hHeld => ?_)
                    clear hK K
                    try simp only [Act.put, List.getElem_toArray, List.getElem_cons_succ, List.getElem_cons_zero, List.setIfInBounds_toArray, List.set_cons_zero, List.set_cons_succ]
                    refine wpAnyH_done (by kernel_rfl) ?_ _
                    obtain ⟨wd2, hwd⟩ : ∃ g, wc.setCell ⟨sb, 3, none⟩ (.slice ua (q + 1) uc) = g := ⟨_, rfl⟩
                    have HXd := hid (HXc.out.set3 (.slice ua (q + 1) uc))
                    have HMd := hid (mut_set HMc.out sb 3 (.slice ua (q + 1) uc) (.inl rfl))
                    have HOd := hid (OwnB.mutD HOc.out (mut1 (w := wc) (s := sb) (i := 3) (v := .slice ua (q + 1) uc)) (fun g e1 e2 => by have h1 := (HOc.out.blkD e1).1; have h2 := HSBA.out.1; omega))
                    have HSd : Hid (w8.heap.size ≤ (wc.setCell ⟨sb, 3, none⟩ (.slice ua (q + 1) uc)).heap.size) := hid (by rw [World.size_setCell]; exact HSc.out)
                    rw [hwd] at HXd HMd HOd HSd
                    clear HXb HMb HOb HRb HSb b3 c3 fzc HXc HMc HSc HOc
                    go_wp2_with fail
                    try rw [hwd]
                    go_roundw
                    case rel => exact ⟨j + 2, q + 1, ua, uc, ds ++ [z], by go_num, by omega, by omega, hid (by have := HQJ.out; omega), hid (by have := HQL.out; simp; omega), hid (by rw [HUN.out, HUJ.out, List.append_assoc]; rfl), HXd, HOd, HMd, HSd⟩
                    case measure => simp [intOf]; omega
                  · go_simp
                    obtain ⟨wb, hwb⟩ : ∃ g, (wz.alloc (.cells #[.int .u8 (z : Int)] 5)).drew = g := ⟨_, rfl⟩
                    try rw [e2]
                    rw [hwb]
                    have hbb : Below wz.heap.size wz wb := by rw [← hwb]; exact ((Below.refl _ _).alloc (Nat.le_refl _) _).drew
                    have HRb : Hid (ByteRow wb (some ⟨wz.heap.size, 0, none⟩) [z]) := hid (by rw [← hwb]; exact (ByteRow.one wz z).ext (Below.refl _ _).drew)
                    have HXb := hid (HXj.out.ext hbb)
                    have HOb := hid (HOj.out.ext hbb)
                    have HMb : Hid (Mut (fun q => q = sb ∨ W3.heap.size ≤ q) W3 wb) := hid (HMj.out.trans ((Mut.of_below (F := fun g => wz.heap.size ≤ g) hbb).mono fun g _ e => .inr (Nat.le_trans HMj.out.size e)))
                    have HSb : Hid (w8.heap.size ≤ wb.heap.size) := hid (by have h1 := HSj.out; have h2 := hbb.size; omega)
                    have b3 : wb.cell? ⟨sb, 3, none⟩ = some (.slice da q dc) := HXb.out.c3
                    clear hwb hbb
                    refine hK.out _ _ (trivial) (fun hHeld => ?_)
                    clear hK K
                    try simp only [Act.put, List.getElem_toArray, List.getElem_cons_succ, List.getElem_cons_zero, List.setIfInBounds_toArray, List.set_cons_zero, List.set_cons_succ]
                    refine wpAnyH_ready (rs := [1]) (by kernel_rfl) (by simp) ?_
                    refine AllReadyH.cons (o := _) rfl (fun K hK => ?_) AllReadyH.nil
                    go_simp
                    refine hK.out _ _ (trivial) (fun hHeld => ?_)
                    clear hK K
                    try simp only [Act.put, List.getElem_toArray, List.getElem_cons_succ, List.getElem_cons_zero, List.setIfInBounds_toArray, List.set_cons_zero, List.set_cons_succ]
                    refine wpAnyH_ready (rs := [14]) (by kernel_rfl) (by simp) ?_
                    refine AllReadyH.cons (o := _) rfl (fun K hK => ?_) AllReadyH.nil
                    refine step_appendBz (n := 1) (base := w8.heap.size) (by rfl) HOb.out HRb.out (hid rfl) (by have := HQL.out; have := HQJ.out; omega) HSb.out rfl rfl rfl ?_
                    intro v8 wc hown8 hg8
                    have hmg := grown_mutD hg8
                    obtain ⟨ua, uc, hu, -, -⟩ := id hown8.row
                    have hul : (ds ++ [z]).length = q + 1 := by have := HQL.out; simp; omega
                    rw [hul] at hu
                    subst hu
                    have hog : ∀ g, (Value.slice da q dc).ownBlock = some g → w8.heap.size ≤ g := fun g e => (HOb.out.blkD e).1
                    have HXc := hid (HXb.out.mut hmg (fun e => by have h1 := hog _ e; have h2 := HSBA.out.1; omega))
                    have HMc : Hid (Mut (fun q => q = sb ∨ W3.heap.size ≤ q) W3 wc) := hid (HMb.out.trans (hmg.mono fun g _ e => .inr (by have h1 := hog _ e; have h2 := HSBA.out.2; omega)))
                    have HSc : Hid (w8.heap.size ≤ wc.heap.size) := hid (Nat.le_trans HSb.out hmg.size)
                    have HOc := hid hown8
                    have c3 : wc.cell? ⟨sb, 3, none⟩ = some (.slice da q dc) := HXc.out.c3
                    have fzc := HXc.out.f
                    clear hown8 hg8 hmg hul hog
                    refine hK.out _ _ (trivial) (fun hHeld => ?_)
                    clear hK K
                    try simp only [Act.put, List.getElem_toArray, List.getElem_cons_succ, List.getElem_cons_zero, List.setIfInBounds_toArray, List.set_cons_zero, List.set_cons_succ]
                    refine wpAnyH_ready (rs := [15]) (by kernel_rfl) (by simp) ?_
                    refine AllReadyH.cons (o := _) rfl (fun K hK => ?_) AllReadyH.nil
                    go_simp
                    refine hK.out _ _ (trivial) (fun hHeld => ?_)
                    clear hK K
                    try simp only [Act.put, List.getElem_toArray, List.getElem_cons_succ, List.getElem_cons_zero, List.setIfInBounds_toArray, List.set_cons_zero, List.set_cons_succ]
                    refine wpAnyH_ready (rs := [16]) (by kernel_rfl) (by simp) ?_
                    refine AllReadyH.cons (o := _) rfl (fun K hK => ?_) AllReadyH.nil
                    go_simp
                    refine hK.out _ _ (trivial) (fun hHeld => ?_)
                    clear hK K
                    try simp only [Act.put, List.getElem_toArray, List.getElem_cons_succ, List.getElem_cons_zero, List.setIfInBounds_toArray, List.set_cons_zero, List.set_cons_succ]
                    refine wpAnyH_done (by kernel_rfl) ?_ _
                    obtain ⟨wd2, hwd⟩ : ∃ g, wc.setCell ⟨sb, 3, none⟩ (.slice ua (q + 1) uc) = g := ⟨_, rfl⟩
                    have HXd := hid (HXc.out.set3 (.slice ua (q + 1) uc))
                    have HMd := hid (mut_set HMc.out sb 3 (.slice ua (q + 1) uc) (.inl rfl))
                    have HOd := hid (OwnB.mutD HOc.out (mut1 (w := wc) (s := sb) (i := 3) (v := .slice ua (q + 1) uc)) (fun g e1 e2 => by have h1 := (HOc.out.blkD e1).1; have h2 := HSBA.out.1; omega))
                    have HSd : Hid (w8.heap.size ≤ (wc.setCell ⟨sb, 3, none⟩ (.slice ua (q + 1) uc)).heap.size) := hid (by rw [World.size_setCell]; exact HSc.out)
                    rw [hwd] at HXd HMd HOd HSd
                    clear HXb HMb HOb HRb HSb b3 c3 fzc HXc HMc HSc HOc
                    go_wp2_with fail
                    try rw [hwd]
                    go_roundw
                    case rel => exact ⟨j + 2, q + 1, ua, uc, ds ++ [z], by go_num, by omega, by omega, hid (by have := HQJ.out; omega), hid (by have := HQL.out; simp; omega), hid (by rw [HUN.out, HUJ.out, List.append_assoc]; rfl), HXd, HOd, HMd, HSd⟩
                    case measure => simp [intOf]; omega
            · have d1 : decide ((j : Int) + 1 < (dl : Int)) = false := decide_eq_false (by omega)
              have d2 : decide (j + 1 < dl) = false := decide_eq_false (by omega)
              have e0 : IntKind.i64.wrap ((j : Int) + 1) = (j : Int) + 1 := by rw [IntKind.wrap_i64]; omega
              have HDD : Hid (unhexR ((L.getD (L.length - 1) []).drop 1) = ds) := hid (by rw [HDE.out, HUN.out, unhexR_end (i := j) (by rw [HDL.out]; omega), List.append_nil])
              obtain ⟨ua, uc, hu, hrw, -⟩ := id HOj.out.row
              injection hu with hu1 hu2 hu3
              have HRW : Hid (ByteRow wz da ds) := hid (by rw [hu1]; exact hrw)
              have HDG : Hid (∀ b off, da = some ⟨b, off, none⟩ → w.heap.size < b ∧ b < wz.heap.size) := hid fun b off e => by
                have h1 : w8.heap.size ≤ b ∧ b < wz.heap.size := HOj.out.blkD (by rw [e]; rfl)
                have h2 := HSBA.out.2
                have h3 := HG3.out
                clear hj1 hj HQJ HQL d1 d2 e0
                exact ⟨by omega, h1.2⟩
              rename World => w30
              have HX30 := HXj
              have HM30 := HMj
              clear hu1 hu2 hu3 hrw HXj HMj HOj HUN HDE
              have HEX : Hid (readR ⟨xk, word, true, true⟩ L = ⟨xk, v1, v2, ds⟩) := hid (by
                show (⟨xk, valR (L.getD 1 []), valR (L.getD 2 []), unhexR ((L.getD (L.length - 1) []).drop 1)⟩ : StepD) = _
                rw [HV1.out, HV2.out, HDD.out])
              have HRX : Hid (r = if lineP ⟨xk, v1, v2, ds⟩ = some (s ++ [10]) then some ⟨xk, v1, v2, ds⟩ else none) := hid (by rw [HRR.out, HEX.out])
              have HOKX : Hid (StepOk ⟨xk, v1, v2, ds⟩) := hid (by rw [← HEX.out]; exact readR_ok _ _)
              have CL := refLine_any (s := ⟨xk, v1, v2, ds⟩) (a := da) (c := dc) (n := q) (w := w30) ⟨by have := HXK.out; exact ⟨by simp only; omega, by simp only; omega⟩, HOKX.out, HRW.out⟩ HQL (by first | omega | (have := HQJ.out; omega))
              obtain ⟨lp, hlp⟩ : ∃ lp, lineP ⟨xk, v1, v2, ds⟩ = lp := ⟨_, rfl⟩
              rw [hlp] at HRX CL
              have HLP := hid hlp
              clear hlp HRR HEX
              have y0 := HX30.out.c0
              have y1 := HX30.out.c1
              have y2 := HX30.out.c2
              have y3 := HX30.out.c3
              rcases lp with _ | t
              · have HRN : Hid (r = none) := hid (by rw [HRX.out, if_neg (by simp)])
                have CLH : Hid (Calls Tryz.prog 62 #[.agg #[.int .i64 xk, .int .i64 v1, .int .i64 v2, .slice da q dc]] w30 fun e w' => e = .returned (.tuple #[.string ⟨#[]⟩, .bool false]) ∧ Below w30.heap.size w30 w') := hid CL
                clear CL
                go_wp2_with fail
                refine CLH.out.mono ?_
                rintro e w31 ⟨rfl, hb31⟩
                clear CLH
                have HRWb := hid (HRW.out.ext hb31)
                have HSZb : Hid (w30.heap.size ≤ w31.heap.size) := hid hb31.size
                clear HRW
                have HM31 : Hid (Mut (fun q => q = sb ∨ W3.heap.size ≤ q) W3 w31) := hid (HM30.out.trans ((Mut.of_below (F := fun q => w30.heap.size ≤ q) hb31).mono fun q _ e => .inr (Nat.le_trans HM30.out.size e)))
                have HX31 := hid (HX30.out.ext hb31)
                clear hb31 HM30 HX30
                clear y0 y1 y2 y3 HRX HLP
                have HB0 : Hid (Below w.heap.size w w31) := hid (HB3.out.trans (HM31.out.below (B := w.heap.size) (by have := HB3.out.size; omega) fun q e => by have := HG3.out; have := HB3.out.size; rcases e with e | e <;> omega))
                have HX0 := hid (HX3.out.mut HM31.out (fun e => by have := HG3.out; rcases e with e | e <;> omega))
                have z0 := HX0.out.c0
                have z1 := HX0.out.c1
                have z2 := HX0.out.c2
                have z3 := HX0.out.c3
                have zf := HX0.out.f
                go_wp2_with fail
                refine bodyPost_ret (v := .tuple #[.agg ([.int .i64 0, .int .i64 0, .int .i64 0, .slice none 0 0] : List Value).toArray, .bool false]) (results_cell_tmp (p := 2) (q := 3) (ty := 62) rfl _ _ w.heap.size [.int .i64 0, .int .i64 0, .int .i64 0, .slice none 0 0] _ rfl (HX0.out.all _ _ _ _).range Tryz.underlying62 rfl (infoStepL _ _ _ _)) rfl ⟨by rw [HRN.out]; rfl, below_all HB0.out (Nat.le_refl _) _ _ _ _⟩
              · by_cases heq : t = s ++ [10]
                · have HRS : Hid (r = some ⟨xk, v1, v2, ds⟩) := hid (by rw [HRX.out, heq, if_pos rfl])
                  have u1 : (t != s ++ [10]) = false := by simp [heq]
                  have u2 : (t == s ++ [10]) = true := by simp [heq]
                  have acat := run_cat s [10] (by have := HS.out; omega) (by simp)
                  clear heq HRX HLP
                  have CLH : Hid (Calls Tryz.prog 62 #[.agg #[.int .i64 xk, .int .i64 v1, .int .i64 v2, .slice da q dc]] w30 fun e w' => e = .returned (.tuple #[.string ⟨t.toArray⟩, .bool true]) ∧ Below w30.heap.size w30 w') := hid CL
                  clear CL
                  go_wp2_with fail
                  refine CLH.out.mono ?_
                  rintro e w31 ⟨rfl, hb31⟩
                  clear CLH
                  have HRWb := hid (HRW.out.ext hb31)
                  have HSZb : Hid (w30.heap.size ≤ w31.heap.size) := hid hb31.size
                  clear HRW
                  have HM31 : Hid (Mut (fun q => q = sb ∨ W3.heap.size ≤ q) W3 w31) := hid (HM30.out.trans ((Mut.of_below (F := fun q => w30.heap.size ≤ q) hb31).mono fun q _ e => .inr (Nat.le_trans HM30.out.size e)))
                  have HX31 := hid (HX30.out.ext hb31)
                  clear hb31 HM30 HX30
                  clear y0 y1 y2 y3
                  have HB0 : Hid (Below w.heap.size w w31) := hid (HB3.out.trans (HM31.out.below (B := w.heap.size) (by have := HB3.out.size; omega) fun q e => by have := HG3.out; have := HB3.out.size; rcases e with e | e <;> omega))
                  have HX0 := hid (HX3.out.mut HM31.out (fun e => by have := HG3.out; rcases e with e | e <;> omega))
                  have z0 := HX0.out.c0
                  have z1 := HX0.out.c1
                  have z2 := HX0.out.c2
                  have z3 := HX0.out.c3
                  have zf := HX0.out.f
                  have y0 := HX31.out.c0
                  have y1 := HX31.out.c1
                  have y2 := HX31.out.c2
                  have y3 := HX31.out.c3
                  go_wp2_with fail
                  refine bodyPost_ret (v := .tuple #[.agg ([.int .i64 xk, .int .i64 v1, .int .i64 v2, .slice da q dc] : List Value).toArray, .bool true]) (results_cell_tmp (p := 2) (q := 3) (ty := 62) rfl _ _ w.heap.size [.int .i64 xk, .int .i64 v1, .int .i64 v2, .slice da q dc] _ rfl (HX0.out.all _ _ _ _).range Tryz.underlying62 rfl (infoStepL _ _ _ _)) rfl ⟨?_, below_all HB0.out (Nat.le_refl _) _ _ _ _⟩
                  rw [HRS.out]
                  refine ⟨da, dc, by rw [HQL.out], ?_, fun b off e => by have := HDG.out b off e; have := HSZb.out; simp only [World.size_setCell]; omega⟩
                  exact HRWb.out.mutT (mut_all _ _ _ _ _ _) fun b off e hne h => by have := HDG.out b off e; omega
                · have HRN : Hid (r = none) := hid (by rw [HRX.out, if_neg (fun h => heq (Option.some.inj h))])
                  have u1 : (t != s ++ [10]) = true := by simpa using heq
                  have u2 : (t == s ++ [10]) = false := by simpa using heq
                  have acat := run_cat s [10] (by have := HS.out; omega) (by simp)
                  clear heq HRX HLP
                  have CLH : Hid (Calls Tryz.prog 62 #[.agg #[.int .i64 xk, .int .i64 v1, .int .i64 v2, .slice da q dc]] w30 fun e w' => e = .returned (.tuple #[.string ⟨t.toArray⟩, .bool true]) ∧ Below w30.heap.size w30 w') := hid CL
                  clear CL
                  go_wp2_with fail
                  refine CLH.out.mono ?_
                  rintro e w31 ⟨rfl, hb31⟩
                  clear CLH
                  have HRWb := hid (HRW.out.ext hb31)
                  have HSZb : Hid (w30.heap.size ≤ w31.heap.size) := hid hb31.size
                  clear HRW
                  have HM31 : Hid (Mut (fun q => q = sb ∨ W3.heap.size ≤ q) W3 w31) := hid (HM30.out.trans ((Mut.of_below (F := fun q => w30.heap.size ≤ q) hb31).mono fun q _ e => .inr (Nat.le_trans HM30.out.size e)))
                  have HX31 := hid (HX30.out.ext hb31)
                  clear hb31 HM30 HX30
                  clear y0 y1 y2 y3
                  have HB0 : Hid (Below w.heap.size w w31) := hid (HB3.out.trans (HM31.out.below (B := w.heap.size) (by have := HB3.out.size; omega) fun q e => by have := HG3.out; have := HB3.out.size; rcases e with e | e <;> omega))
                  have HX0 := hid (HX3.out.mut HM31.out (fun e => by have := HG3.out; rcases e with e | e <;> omega))
                  have z0 := HX0.out.c0
                  have z1 := HX0.out.c1
                  have z2 := HX0.out.c2
                  have z3 := HX0.out.c3
                  have zf := HX0.out.f
                  go_wp2_with fail
                  refine bodyPost_ret (v := .tuple #[.agg ([.int .i64 0, .int .i64 0, .int .i64 0, .slice none 0 0] : List Value).toArray, .bool false]) (results_cell_tmp (p := 2) (q := 3) (ty := 62) rfl _ _ w.heap.size [.int .i64 0, .int .i64 0, .int .i64 0, .slice none 0 0] _ rfl (HX0.out.all _ _ _ _).range Tryz.underlying62 rfl (infoStepL _ _ _ _)) rfl ⟨by rw [HRN.out]; rfl, below_all HB0.out (Nat.le_refl _) _ _ _ _⟩
        · have HRN : Hid (r = none) := hid (by rw [HR.out, if_neg (fun e => hlen (by rw [← HN.out]; exact e))])
          have g1 : ((n : Int) != 4) = true := by rw [bne_iff_ne]; omega
          have g2 : (n != 4) = true := by rw [bne_iff_ne]; exact hlen
          have g3 : ((n : Int) == 4) = false := by rw [beq_eq_false_iff_ne]; omega
          clear HR hlen
          have HB0 : Hid (Below w.heap.size w w4) := hid (HB3.out.trans (HM4.out.below (B := w.heap.size) (by have := HB3.out.size; omega) fun q e => by have := HG3.out; have := HB3.out.size; rcases e with e | e <;> omega))
          have HX0 := hid (HX3.out.mut HM4.out (fun e => by have := HG3.out; rcases e with e | e <;> omega))
          have z0 := HX0.out.c0
          have z1 := HX0.out.c1
          have z2 := HX0.out.c2
          have z3 := HX0.out.c3
          have zf := HX0.out.f
          go_wp2_with fail
          refine bodyPost_ret (v := .tuple #[.agg ([.int .i64 0, .int .i64 0, .int .i64 0, .slice none 0 0] : List Value).toArray, .bool false]) (results_cell_tmp (p := 2) (q := 3) (ty := 62) rfl _ _ w.heap.size [.int .i64 0, .int .i64 0, .int .i64 0, .slice none 0 0] _ rfl (HX0.out.all _ _ _ _).range Tryz.underlying62 rfl (infoStepL _ _ _ _)) rfl ⟨by rw [HRN.out]; rfl, below_all HB0.out (Nat.le_refl _) _ _ _ _⟩
end Go.Proofs.YtehagnbphamjhaaGreatDoor

