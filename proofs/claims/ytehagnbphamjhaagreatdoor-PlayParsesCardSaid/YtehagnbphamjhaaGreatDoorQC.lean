/- Parts of the proof: QC. -/
import Derived.Test.YtehagnbphamjhaaGreatDoorPPn
namespace Go.Proofs.YtehagnbphamjhaaGreatDoor
open Go.RowKit
/-! ### the document's Line -/
set_option maxRecDepth 100000 in
set_option maxHeartbeats 12800000 in
theorem refLine_any {s : StepD} {a : Option Addr} {c n : Nat} {w : World} (hs : StepR w a s) (hn : Hid (s.data.length = n)) (hnl : n ≤ 1000000) :
    Calls Tryz.prog 62 #[.agg #[.int .i64 s.kind, .int .i64 s.a, .int .i64 s.b, .slice a n c]] w fun e w' => e = .returned (lineV (lineP s)) ∧ Below w.heap.size w w' := by
  obtain ⟨kd, av, bv, data⟩ := s
  obtain ⟨-, hok, hrow⟩ := hs
  obtain ⟨a1, a2, b1, b2, hd⟩ := hok
  simp only at a1 a2 b1 b2 hd hn hrow ⊢
  obtain ⟨r, hr⟩ : ∃ r, lineP ⟨kd, av, bv, data⟩ = r := ⟨_, rfl⟩
  rw [hr]
  have HR := hid hr
  clear hr
  obtain ⟨W1, hW1⟩ : ∃ W1, w.alloc (.cells #[.int .i64 kd, .int .i64 av, .int .i64 bv, .slice a n c] 62) = W1 := ⟨_, rfl⟩
  have hb1 : Below w.heap.size w W1 := by rw [← hW1]; exact (Below.refl _ _).alloc (Nat.le_refl _) _
  have c0 : W1.cell? ⟨w.heap.size, 0, none⟩ = some (.int .i64 kd) := by rw [← hW1]; simp
  have c1 : W1.cell? ⟨w.heap.size, 1, none⟩ = some (.int .i64 av) := by rw [← hW1]; simp
  have c2 : W1.cell? ⟨w.heap.size, 2, none⟩ = some (.int .i64 bv) := by rw [← hW1]; simp
  have c3 : W1.cell? ⟨w.heap.size, 3, none⟩ = some (.slice a n c) := by rw [← hW1]; simp
  have HA := hid (And.intro a1 a2)
  have HBV := hid (And.intro b1 b2)
  have HD := hid hd
  have HR1 := hid (hrow.ext hb1)
  have HB1 := hid hb1
  have C1 := refWord_any kd W1
  clear a1 a2 b1 b2 hd hrow hb1
  rcases word_shape kd with ⟨h0, -, hw, hh⟩ | ⟨x, h0, hxk, hw, hwne, hh⟩
  · have HRN : Hid (r = none) := hid (by rw [← HR.out]; unfold lineP; rw [h0])
    rw [hw, hh] at C1
    have C1 := hid C1
    clear h0 hw hh HA HBV HD HR HR1
    go_enter Tryz.func62, Tryz.ntmps62
    go_wp2_with fail
    refine C1.out.mono ?_
    rintro e w2 ⟨rfl, hb2⟩
    have HB2 := hid (HB1.out.trans (hb2.mono HB1.out.size))
    clear hb2 C1 hW1 HB1 c1 c2 c3 c0
    go_wp2_with fail
    refine bodyPost_ret (v := .tuple #[.string ⟨#[]⟩, .bool false]) (by simp [results, Tryz.results62, go_sem]) rfl ⟨by rw [HRN.out]; rfl, HB2.out⟩
  · obtain ⟨xk, word, two, bytes⟩ := x
    simp only at hxk hw hwne hh
    subst hxk
    have hlp : lineP ⟨xk, av, bv, data⟩ = if (two = false ∧ bv ≠ 0) ∨ (bytes = false ∧ data ≠ []) then none else some (lineS ⟨xk, word, two, bytes⟩ ⟨xk, av, bv, data⟩ ++ [10]) := by
      unfold lineP; rw [h0]
    have hwl : word.length ≤ 7 := (shapes_ok _ (shapeK_some h0).1).2.2.2.1
    have u1 : (word == []) = false := by simpa using hwne
    have u2 : word.isEmpty = false := by simpa using hwne
    rw [hw] at C1
    clear h0 hw hwne
    cases two <;> cases bytes
    · have hh : hasR xk = [] := hh
      rw [hh] at C1
      have C1 := hid C1
      clear hh
      by_cases hb0 : bv = 0
      · have gb : (bv != 0) = false := by simp [hb0]
        by_cases hd0 : n = 0
        · have gn : decide ((n : Int) > 0) = false := decide_eq_false (by omega)
          have gn1 : decide ((0 : Int) < (n : Int)) = false := decide_eq_false (by omega)
          have gn2 : decide (0 < n) = false := decide_eq_false (by omega)
          have hdn : data = [] := List.eq_nil_of_length_eq_zero (by rw [hn.out]; exact hd0)
          have HRR : Hid (r = some (lineS ⟨xk, word, false, false⟩ ⟨xk, av, bv, data⟩ ++ [10])) := hid (by rw [← HR.out, hlp, if_neg (by simp [hdn, hb0])])
          clear hlp HR hdn hd0 hb0
          go_enter Tryz.func62, Tryz.ntmps62
          go_wp2_with fail
          refine C1.out.mono ?_
          rintro e w2 ⟨rfl, hb2⟩
          have c1 := cell_toB c1 hb2
          have c2 := cell_toB c2 hb2
          have c3 := cell_toB c3 hb2
          have HB2 := hid (HB1.out.trans (hb2.mono HB1.out.size))
          have HR2 := hid (HR1.out.ext hb2)
          clear hb2 C1 hW1 HR1 HB1 c0
          have l1 := itoa_len av HA.out.1 HA.out.2
          have C2 := hid (refNumber_any av HA.out.1 HA.out.2 w2)
          obtain ⟨IA, hIA⟩ : ∃ I, Lib.itoa av = I := ⟨_, rfl⟩
          rw [hIA] at C2 l1
          have a0 := run_cat word [32] (by omega) (by simp)
          have a1 := run_cat (word ++ [32]) IA (by simp; omega) (by omega)
          obtain ⟨T1, hT1⟩ : ∃ T, word ++ [32] = T := ⟨_, rfl⟩
          rw [hT1] at a0 a1
          obtain ⟨T2, hT2⟩ : ∃ T, T1 ++ IA = T := ⟨_, rfl⟩
          rw [hT2] at a1
          have HT2 : Hid (T2 = word ++ [32] ++ Lib.itoa av ∧ T2.length ≤ 40) := hid ⟨by rw [← hT2, ← hT1, hIA], by rw [← hT2, ← hT1]; simp; omega⟩
          clear hT1 hT2 hIA l1 hwl
          go_wp2_with fail
          refine C2.out.mono ?_
          rintro e w3 ⟨rfl, hb3⟩
          have c2 := cell_toB c2 hb3
          have c3 := cell_toB c3 hb3
          have HB3 := hid (HB2.out.trans (hb3.mono HB2.out.size))
          have HR3 := hid (HR2.out.ext hb3)
          clear hb3 C2 HB2 HR2 c1
          have a6 := run_cat T2 [10] (by have := HT2.out.2; omega) (by simp)
          have HFIN : Hid (r = some (T2 ++ [10])) := hid (by rw [HRR.out, HT2.out.1]; simp [lineS])
          go_wp2_with fail
          refine bodyPost_ret (v := .tuple #[.string ⟨(T2 ++ [10]).toArray⟩, .bool true]) (by simp [results, Tryz.results62, go_sem]) rfl ⟨by rw [HFIN.out]; rfl, HB3.out⟩
        · have gn : decide ((n : Int) > 0) = true := decide_eq_true (by omega)
          have gn1 : decide ((0 : Int) < (n : Int)) = true := decide_eq_true (by omega)
          have gn2 : decide (0 < n) = true := decide_eq_true (by omega)
          have hdn : data ≠ [] := fun e => hd0 (by rw [← hn.out, e]; rfl)
          have HRR : Hid (r = none) := hid (by rw [← HR.out, hlp, if_pos (.inr ⟨rfl, hdn⟩)])
          clear hlp HR hdn hd0 hb0
          go_enter Tryz.func62, Tryz.ntmps62
          go_wp2_with fail
          refine C1.out.mono ?_
          rintro e w2 ⟨rfl, hb2⟩
          have c1 := cell_toB c1 hb2
          have c2 := cell_toB c2 hb2
          have c3 := cell_toB c3 hb2
          have HB2 := hid (HB1.out.trans (hb2.mono HB1.out.size))
          have HR2 := hid (HR1.out.ext hb2)
          clear hb2 C1 hW1 HR1 HB1 c0
          go_wp2_with fail
          refine bodyPost_ret (v := .tuple #[.string ⟨#[]⟩, .bool false]) (by simp [results, Tryz.results62, go_sem]) rfl ⟨by rw [HRR.out]; rfl, HB2.out⟩
      · have gb : (bv != 0) = true := by simpa using hb0
        have HRR : Hid (r = none) := hid (by rw [← HR.out, hlp, if_pos (.inl ⟨rfl, hb0⟩)])
        clear hlp HR hb0
        go_enter Tryz.func62, Tryz.ntmps62
        go_wp2_with fail
        refine C1.out.mono ?_
        rintro e w2 ⟨rfl, hb2⟩
        have c1 := cell_toB c1 hb2
        have c2 := cell_toB c2 hb2
        have c3 := cell_toB c3 hb2
        have HB2 := hid (HB1.out.trans (hb2.mono HB1.out.size))
        have HR2 := hid (HR1.out.ext hb2)
        clear hb2 C1 hW1 HR1 HB1 c0
        go_wp2_with fail
        refine bodyPost_ret (v := .tuple #[.string ⟨#[]⟩, .bool false]) (by simp [results, Tryz.results62, go_sem]) rfl ⟨by rw [HRR.out]; rfl, HB2.out⟩
    · have hh : hasR xk = [120] := hh
      rw [hh] at C1
      have C1 := hid C1
      clear hh
      by_cases hb0 : bv = 0
      · have gb : (bv != 0) = false := by simp [hb0]
        have HRR : Hid (r = some (lineS ⟨xk, word, false, true⟩ ⟨xk, av, bv, data⟩ ++ [10])) := hid (by rw [← HR.out, hlp, if_neg (by simp [hb0])])
        clear hlp HR hb0
        go_enter Tryz.func62, Tryz.ntmps62
        go_wp2_with fail
        refine C1.out.mono ?_
        rintro e w2 ⟨rfl, hb2⟩
        have c1 := cell_toB c1 hb2
        have c2 := cell_toB c2 hb2
        have c3 := cell_toB c3 hb2
        have HB2 := hid (HB1.out.trans (hb2.mono HB1.out.size))
        have HR2 := hid (HR1.out.ext hb2)
        clear hb2 C1 hW1 HR1 HB1 c0
        have l1 := itoa_len av HA.out.1 HA.out.2
        have C2 := hid (refNumber_any av HA.out.1 HA.out.2 w2)
        obtain ⟨IA, hIA⟩ : ∃ I, Lib.itoa av = I := ⟨_, rfl⟩
        rw [hIA] at C2 l1
        have a0 := run_cat word [32] (by omega) (by simp)
        have a1 := run_cat (word ++ [32]) IA (by simp; omega) (by omega)
        obtain ⟨T1, hT1⟩ : ∃ T, word ++ [32] = T := ⟨_, rfl⟩
        rw [hT1] at a0 a1
        obtain ⟨T2, hT2⟩ : ∃ T, T1 ++ IA = T := ⟨_, rfl⟩
        rw [hT2] at a1
        have HT2 : Hid (T2 = word ++ [32] ++ Lib.itoa av ∧ T2.length ≤ 40) := hid ⟨by rw [← hT2, ← hT1, hIA], by rw [← hT2, ← hT1]; simp; omega⟩
        clear hT1 hT2 hIA l1 hwl
        go_wp2_with fail
        refine C2.out.mono ?_
        rintro e w3 ⟨rfl, hb3⟩
        have c2 := cell_toB c2 hb3
        have c3 := cell_toB c3 hb3
        have HB3 := hid (HB2.out.trans (hb3.mono HB2.out.size))
        have HR3 := hid (HR2.out.ext hb3)
        clear hb3 C2 HB2 HR2 c1
        have a4 := run_cat T2 [32, 120] (by have := HT2.out.2; omega) (by simp)
        obtain ⟨T5, hT5⟩ : ∃ T, T2 ++ [32, 120] = T := ⟨_, rfl⟩
        rw [hT5] at a4
        have HT5 : Hid (r = some (T5 ++ hexP (data.drop 0) ++ [10]) ∧ T5.length ≤ 100) := hid ⟨by rw [HRR.out, ← hT5, HT2.out.1, List.drop_zero]; simp [lineS], by rw [← hT5]; have := HT2.out.2; simp; omega⟩
        clear hT5
        go_wp2_with fail
        clear a4
        go_loopw [8, 9] (fun vo iv wr => ∃ (out : Str) (k : Nat), vo = .string ⟨out.toArray⟩ ∧ iv = .int .i64 k ∧ k ≤ n ∧ out.length ≤ 100 + 2 * k ∧ Hid (r = some (out ++ hexP (data.drop k) ++ [10])) ∧ Hid (Below w3.heap.size w3 wr)) (fun _ iv _ => n - (intOf iv).toNat)
        case atStart => exact ⟨T5, 0, rfl, rfl, Nat.zero_le _, by have := HT5.out.2; omega, hid HT5.out.1, hid (Below.refl _ _)⟩
        case round =>
          obtain ⟨out, k, rfl, rfl, hk, hol, hf, hbw⟩ := hrel
          have c3 := cell_toB c3 hbw.out
          by_cases hlt : k < n
          · have hk1 : k < data.length := by rw [hn.out]; exact hlt
            obtain ⟨b, o, x, rfl, hxk, q0⟩ := HR3.out.at hbw.out rfl hk1
            have hx256 : x < 256 := by rw [hxk]; exact HD.out _ (List.getElem_mem hk1)
            have HDR := hid (hexP_drop hk1 hxk)
            have U1 := run_hexD (x / 16) (by omega)
            have U2 := run_hexD (x % 16) (by omega)
            have e1 : ((x / 16 : Nat) : Int) = (x : Int) / 16 := by omega
            have e2 : ((x % 16 : Nat) : Int) = (x : Int) % 16 := by omega
            rw [e1] at U1
            rw [e2] at U2
            have a1 := run_cat out [hexD (x / 16)] (by omega) (by simp)
            have a2 := run_cat (out ++ [hexD (x / 16)]) [hexD (x % 16)] (by simp; omega) (by simp)
            have hol2 : (out ++ [hexD (x / 16)] ++ [hexD (x % 16)]).length ≤ 100 + 2 * (k + 1) := by simp; omega
            have HO := hid hol2
            clear hxk e1 e2 hol hol2
            go_wp2_with fail
            refine wp_region_ext (w := wr) (Below.refl _ _) (by kernel_rfl) (by kernel_rfl) ?_
            repeat (go_big_quiet_step (fail))
            refine wpQuiet_nil ?_
            rintro w9 ⟨⟨_, hb9⟩, rfl⟩
            have HB9 := hid (hbw.out.trans (hb9.mono hbw.out.size))
            clear hb9 U1 U2 a1 a2 q0
            go_wp2_with fail
            go_roundw
            case rel => exact ⟨out ++ [hexD (x / 16)] ++ [hexD (x % 16)], k + 1, by simp, by go_num, by omega, HO.out, hid (by rw [hf.out, HDR.out]; simp), HB9⟩
            case measure => simp [intOf]; omega
          · have hke : data.drop k = [] := List.drop_eq_nil_of_le (by rw [hn.out]; omega)
            have HFIN : Hid (r = some (out ++ [10])) := hid (by rw [hf.out, hke]; simp [hexP])
            have a6 := run_cat out [10] (by omega) (by simp)
            have HBF := hid (HB3.out.trans (hbw.out.mono HB3.out.size))
            clear hke
            go_wp2_with fail
            refine bodyPost_ret (v := .tuple #[.string ⟨(out ++ [10]).toArray⟩, .bool true]) (by simp [results, Tryz.results62, go_sem]) rfl ⟨by rw [HFIN.out]; rfl, HBF.out⟩
      · have gb : (bv != 0) = true := by simpa using hb0
        have HRR : Hid (r = none) := hid (by rw [← HR.out, hlp, if_pos (.inl ⟨rfl, hb0⟩)])
        clear hlp HR hb0
        go_enter Tryz.func62, Tryz.ntmps62
        go_wp2_with fail
        refine C1.out.mono ?_
        rintro e w2 ⟨rfl, hb2⟩
        have c1 := cell_toB c1 hb2
        have c2 := cell_toB c2 hb2
        have c3 := cell_toB c3 hb2
        have HB2 := hid (HB1.out.trans (hb2.mono HB1.out.size))
        have HR2 := hid (HR1.out.ext hb2)
        clear hb2 C1 hW1 HR1 HB1 c0
        go_wp2_with fail
        refine bodyPost_ret (v := .tuple #[.string ⟨#[]⟩, .bool false]) (by simp [results, Tryz.results62, go_sem]) rfl ⟨by rw [HRR.out]; rfl, HB2.out⟩
    · have hh : hasR xk = [98] := hh
      rw [hh] at C1
      have C1 := hid C1
      clear hh
      by_cases hd0 : n = 0
      · have gn : decide ((n : Int) > 0) = false := decide_eq_false (by omega)
        have gn1 : decide ((0 : Int) < (n : Int)) = false := decide_eq_false (by omega)
        have gn2 : decide (0 < n) = false := decide_eq_false (by omega)
        have hdn : data = [] := List.eq_nil_of_length_eq_zero (by rw [hn.out]; exact hd0)
        have HRR : Hid (r = some (lineS ⟨xk, word, true, false⟩ ⟨xk, av, bv, data⟩ ++ [10])) := hid (by rw [← HR.out, hlp, if_neg (by simp [hdn])])
        clear hlp HR hdn hd0
        go_enter Tryz.func62, Tryz.ntmps62
        go_wp2_with fail
        refine C1.out.mono ?_
        rintro e w2 ⟨rfl, hb2⟩
        have c1 := cell_toB c1 hb2
        have c2 := cell_toB c2 hb2
        have c3 := cell_toB c3 hb2
        have HB2 := hid (HB1.out.trans (hb2.mono HB1.out.size))
        have HR2 := hid (HR1.out.ext hb2)
        clear hb2 C1 hW1 HR1 HB1 c0
        have l1 := itoa_len av HA.out.1 HA.out.2
        have C2 := hid (refNumber_any av HA.out.1 HA.out.2 w2)
        obtain ⟨IA, hIA⟩ : ∃ I, Lib.itoa av = I := ⟨_, rfl⟩
        rw [hIA] at C2 l1
        have a0 := run_cat word [32] (by omega) (by simp)
        have a1 := run_cat (word ++ [32]) IA (by simp; omega) (by omega)
        obtain ⟨T1, hT1⟩ : ∃ T, word ++ [32] = T := ⟨_, rfl⟩
        rw [hT1] at a0 a1
        obtain ⟨T2, hT2⟩ : ∃ T, T1 ++ IA = T := ⟨_, rfl⟩
        rw [hT2] at a1
        have HT2 : Hid (T2 = word ++ [32] ++ Lib.itoa av ∧ T2.length ≤ 40) := hid ⟨by rw [← hT2, ← hT1, hIA], by rw [← hT2, ← hT1]; simp; omega⟩
        clear hT1 hT2 hIA l1 hwl
        go_wp2_with fail
        refine C2.out.mono ?_
        rintro e w3 ⟨rfl, hb3⟩
        have c2 := cell_toB c2 hb3
        have c3 := cell_toB c3 hb3
        have HB3 := hid (HB2.out.trans (hb3.mono HB2.out.size))
        have HR3 := hid (HR2.out.ext hb3)
        clear hb3 C2 HB2 HR2 c1
        have l2 := itoa_len bv HBV.out.1 HBV.out.2
        have C3 := hid (refNumber_any bv HBV.out.1 HBV.out.2 w3)
        obtain ⟨IB, hIB⟩ : ∃ I, Lib.itoa bv = I := ⟨_, rfl⟩
        rw [hIB] at C3 l2
        have a2 := run_cat T2 [32] (by have := HT2.out.2; omega) (by simp)
        have a3 := run_cat (T2 ++ [32]) IB (by have := HT2.out.2; simp; omega) (by omega)
        obtain ⟨T3, hT3⟩ : ∃ T, T2 ++ [32] = T := ⟨_, rfl⟩
        rw [hT3] at a2 a3
        obtain ⟨T4, hT4⟩ : ∃ T, T3 ++ IB = T := ⟨_, rfl⟩
        rw [hT4] at a3
        have HT4 : Hid (T4 = T2 ++ ([32] ++ Lib.itoa bv) ∧ T4.length ≤ 80) := hid ⟨by rw [← hT4, ← hT3, hIB, List.append_assoc], by rw [← hT4, ← hT3]; have := HT2.out.2; simp; omega⟩
        clear hT3 hT4 hIB l2
        go_wp2_with fail
        refine C3.out.mono ?_
        rintro e w4 ⟨rfl, hb4⟩
        have c3 := cell_toB c3 hb4
        have HB4 := hid (HB3.out.trans (hb4.mono HB3.out.size))
        have HR4 := hid (HR3.out.ext hb4)
        clear hb4 C3 HB3 HR3 c2 a0 a1
        have a6 := run_cat T4 [10] (by have := HT4.out.2; omega) (by simp)
        have HFIN : Hid (r = some (T4 ++ [10])) := hid (by rw [HRR.out, HT4.out.1, HT2.out.1]; simp [lineS])
        go_wp2_with fail
        refine bodyPost_ret (v := .tuple #[.string ⟨(T4 ++ [10]).toArray⟩, .bool true]) (by simp [results, Tryz.results62, go_sem]) rfl ⟨by rw [HFIN.out]; rfl, HB4.out⟩
      · have gn : decide ((n : Int) > 0) = true := decide_eq_true (by omega)
        have gn1 : decide ((0 : Int) < (n : Int)) = true := decide_eq_true (by omega)
        have gn2 : decide (0 < n) = true := decide_eq_true (by omega)
        have hdn : data ≠ [] := fun e => hd0 (by rw [← hn.out, e]; rfl)
        have HRR : Hid (r = none) := hid (by rw [← HR.out, hlp, if_pos (.inr ⟨rfl, hdn⟩)])
        clear hlp HR hdn hd0
        go_enter Tryz.func62, Tryz.ntmps62
        go_wp2_with fail
        refine C1.out.mono ?_
        rintro e w2 ⟨rfl, hb2⟩
        have c1 := cell_toB c1 hb2
        have c2 := cell_toB c2 hb2
        have c3 := cell_toB c3 hb2
        have HB2 := hid (HB1.out.trans (hb2.mono HB1.out.size))
        have HR2 := hid (HR1.out.ext hb2)
        clear hb2 C1 hW1 HR1 HB1 c0
        go_wp2_with fail
        refine bodyPost_ret (v := .tuple #[.string ⟨#[]⟩, .bool false]) (by simp [results, Tryz.results62, go_sem]) rfl ⟨by rw [HRR.out]; rfl, HB2.out⟩
    · have hh : hasR xk = [98, 120] := hh
      rw [hh] at C1
      have C1 := hid C1
      clear hh
      have HRR : Hid (r = some (lineS ⟨xk, word, true, true⟩ ⟨xk, av, bv, data⟩ ++ [10])) := hid (by rw [← HR.out, hlp, if_neg (by simp)])
      clear hlp HR
      go_enter Tryz.func62, Tryz.ntmps62
      go_wp2_with fail
      refine C1.out.mono ?_
      rintro e w2 ⟨rfl, hb2⟩
      have c1 := cell_toB c1 hb2
      have c2 := cell_toB c2 hb2
      have c3 := cell_toB c3 hb2
      have HB2 := hid (HB1.out.trans (hb2.mono HB1.out.size))
      have HR2 := hid (HR1.out.ext hb2)
      clear hb2 C1 hW1 HR1 HB1 c0
      have l1 := itoa_len av HA.out.1 HA.out.2
      have C2 := hid (refNumber_any av HA.out.1 HA.out.2 w2)
      obtain ⟨IA, hIA⟩ : ∃ I, Lib.itoa av = I := ⟨_, rfl⟩
      rw [hIA] at C2 l1
      have a0 := run_cat word [32] (by omega) (by simp)
      have a1 := run_cat (word ++ [32]) IA (by simp; omega) (by omega)
      obtain ⟨T1, hT1⟩ : ∃ T, word ++ [32] = T := ⟨_, rfl⟩
      rw [hT1] at a0 a1
      obtain ⟨T2, hT2⟩ : ∃ T, T1 ++ IA = T := ⟨_, rfl⟩
      rw [hT2] at a1
      have HT2 : Hid (T2 = word ++ [32] ++ Lib.itoa av ∧ T2.length ≤ 40) := hid ⟨by rw [← hT2, ← hT1, hIA], by rw [← hT2, ← hT1]; simp; omega⟩
      clear hT1 hT2 hIA l1 hwl
      go_wp2_with fail
      refine C2.out.mono ?_
      rintro e w3 ⟨rfl, hb3⟩
      have c2 := cell_toB c2 hb3
      have c3 := cell_toB c3 hb3
      have HB3 := hid (HB2.out.trans (hb3.mono HB2.out.size))
      have HR3 := hid (HR2.out.ext hb3)
      clear hb3 C2 HB2 HR2 c1
      have l2 := itoa_len bv HBV.out.1 HBV.out.2
      have C3 := hid (refNumber_any bv HBV.out.1 HBV.out.2 w3)
      obtain ⟨IB, hIB⟩ : ∃ I, Lib.itoa bv = I := ⟨_, rfl⟩
      rw [hIB] at C3 l2
      have a2 := run_cat T2 [32] (by have := HT2.out.2; omega) (by simp)
      have a3 := run_cat (T2 ++ [32]) IB (by have := HT2.out.2; simp; omega) (by omega)
      obtain ⟨T3, hT3⟩ : ∃ T, T2 ++ [32] = T := ⟨_, rfl⟩
      rw [hT3] at a2 a3
      obtain ⟨T4, hT4⟩ : ∃ T, T3 ++ IB = T := ⟨_, rfl⟩
      rw [hT4] at a3
      have HT4 : Hid (T4 = T2 ++ ([32] ++ Lib.itoa bv) ∧ T4.length ≤ 80) := hid ⟨by rw [← hT4, ← hT3, hIB, List.append_assoc], by rw [← hT4, ← hT3]; have := HT2.out.2; simp; omega⟩
      clear hT3 hT4 hIB l2
      go_wp2_with fail
      refine C3.out.mono ?_
      rintro e w4 ⟨rfl, hb4⟩
      have c3 := cell_toB c3 hb4
      have HB4 := hid (HB3.out.trans (hb4.mono HB3.out.size))
      have HR4 := hid (HR3.out.ext hb4)
      clear hb4 C3 HB3 HR3 c2 a0 a1
      have a4 := run_cat T4 [32, 120] (by have := HT4.out.2; omega) (by simp)
      obtain ⟨T5, hT5⟩ : ∃ T, T4 ++ [32, 120] = T := ⟨_, rfl⟩
      rw [hT5] at a4
      have HT5 : Hid (r = some (T5 ++ hexP (data.drop 0) ++ [10]) ∧ T5.length ≤ 100) := hid ⟨by rw [HRR.out, ← hT5, HT4.out.1, HT2.out.1, List.drop_zero]; simp [lineS], by rw [← hT5]; have := HT4.out.2; simp; omega⟩
      clear hT5
      go_wp2_with fail
      clear a4
      go_loopw [8, 9] (fun vo iv wr => ∃ (out : Str) (k : Nat), vo = .string ⟨out.toArray⟩ ∧ iv = .int .i64 k ∧ k ≤ n ∧ out.length ≤ 100 + 2 * k ∧ Hid (r = some (out ++ hexP (data.drop k) ++ [10])) ∧ Hid (Below w4.heap.size w4 wr)) (fun _ iv _ => n - (intOf iv).toNat)
      case atStart => exact ⟨T5, 0, rfl, rfl, Nat.zero_le _, by have := HT5.out.2; omega, hid HT5.out.1, hid (Below.refl _ _)⟩
      case round =>
        obtain ⟨out, k, rfl, rfl, hk, hol, hf, hbw⟩ := hrel
        have c3 := cell_toB c3 hbw.out
        by_cases hlt : k < n
        · have hk1 : k < data.length := by rw [hn.out]; exact hlt
          obtain ⟨b, o, x, rfl, hxk, q0⟩ := HR4.out.at hbw.out rfl hk1
          have hx256 : x < 256 := by rw [hxk]; exact HD.out _ (List.getElem_mem hk1)
          have HDR := hid (hexP_drop hk1 hxk)
          have U1 := run_hexD (x / 16) (by omega)
          have U2 := run_hexD (x % 16) (by omega)
          have e1 : ((x / 16 : Nat) : Int) = (x : Int) / 16 := by omega
          have e2 : ((x % 16 : Nat) : Int) = (x : Int) % 16 := by omega
          rw [e1] at U1
          rw [e2] at U2
          have a1 := run_cat out [hexD (x / 16)] (by omega) (by simp)
          have a2 := run_cat (out ++ [hexD (x / 16)]) [hexD (x % 16)] (by simp; omega) (by simp)
          have hol2 : (out ++ [hexD (x / 16)] ++ [hexD (x % 16)]).length ≤ 100 + 2 * (k + 1) := by simp; omega
          have HO := hid hol2
          clear hxk e1 e2 hol hol2
          go_wp2_with fail
          refine wp_region_ext (w := wr) (Below.refl _ _) (by kernel_rfl) (by kernel_rfl) ?_
          repeat (go_big_quiet_step (fail))
          refine wpQuiet_nil ?_
          rintro w9 ⟨⟨_, hb9⟩, rfl⟩
          have HB9 := hid (hbw.out.trans (hb9.mono hbw.out.size))
          clear hb9 U1 U2 a1 a2 q0
          go_wp2_with fail
          go_roundw
          case rel => exact ⟨out ++ [hexD (x / 16)] ++ [hexD (x % 16)], k + 1, by simp, by go_num, by omega, HO.out, hid (by rw [hf.out, HDR.out]; simp), HB9⟩
          case measure => simp [intOf]; omega
        · have hke : data.drop k = [] := List.drop_eq_nil_of_le (by rw [hn.out]; omega)
          have HFIN : Hid (r = some (out ++ [10])) := hid (by rw [hf.out, hke]; simp [hexP])
          have a6 := run_cat out [10] (by omega) (by simp)
          have HBF := hid (HB4.out.trans (hbw.out.mono HB4.out.size))
          clear hke
          go_wp2_with fail
          refine bodyPost_ret (v := .tuple #[.string ⟨(out ++ [10]).toArray⟩, .bool true]) (by simp [results, Tryz.results62, go_sem]) rfl ⟨by rw [HFIN.out]; rfl, HBF.out⟩
end Go.Proofs.YtehagnbphamjhaaGreatDoor

