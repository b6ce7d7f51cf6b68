/- Parts of the proof: O8. -/
import Derived.Deep.CutBlock
import Derived.Test.YtehagnbphamjhaaGreatDoorGPlayBack13
namespace Go.Proofs.YtehagnbphamjhaaGreatDoor
open Go.RowKit
/-! ### play: line -/
def lineV : Option Str → Value
  | none => .tuple #[.string ⟨#[]⟩, .bool false]
  | some t => .tuple #[.string ⟨t.toArray⟩, .bool true]
theorem shapeK_at {k : Nat} {x : Shape} (h : shapesP[k]? = some x) {kd : Int} (he : x.kind = kd) : shapeK kd = some x := by
  subst he
  exact (shapes_ok x (List.mem_of_getElem? h)).2.2.2.2.1
theorem shapeK_none {kd : Int} (h : ∀ (j : Nat) (x : Shape), shapesP[j]? = some x → x.kind ≠ kd) : shapeK kd = none := by
  unfold shapeK
  rw [List.find?_eq_none]
  intro x hx
  obtain ⟨j, hj⟩ := List.mem_iff_getElem?.1 hx
  have := h j x hj
  simpa using this
theorem itoa_len (n : Int) (h0 : -9223372036854775808 ≤ n) (h1 : n ≤ 9223372036854775807) : (Lib.itoa n).length ≤ 21 := by
  unfold Lib.itoa
  split
  · have := dec_len n.natAbs 19 (by omega); simp; omega
  · have := dec_len n.toNat 19 (by omega); omega
set_option maxRecDepth 100000 in
set_option maxHeartbeats 12800000 in
theorem line_any {s : StepD} {a : Option Addr} {c n : Nat} {w : World} (hs : StepR w a s) (hn : Hid (s.data.length = n)) (hnl : n ≤ 1000000) (ht : TabOk w) :
    Calls Tryz.prog 31 #[.agg #[.int .i64 s.kind, .int .i64 s.a, .int .i64 s.b, .slice a n c]] w fun e w' => e = .returned (lineV (lineP s)) ∧ Below w.heap.size w w' := by
  obtain ⟨kd, av, bv, data⟩ := s
  obtain ⟨-, hok, hrow⟩ := hs
  obtain ⟨a1, a2, b1, b2, hd⟩ := hok
  simp only at a1 a2 b1 b2 hd hn hrow ⊢
  obtain ⟨r, hr⟩ : ∃ r, lineP ⟨kd, av, bv, data⟩ = r := ⟨_, rfl⟩
  rw [hr]
  have HR := hid hr
  clear hr
  obtain ⟨W1, hW1⟩ : ∃ W1, w.alloc (.cells #[.int .i64 kd, .int .i64 av, .int .i64 bv, .slice a n c] 62) = W1 := ⟨_, rfl⟩
  have hb1 : Below w.heap.size w W1 := by rw [← hW1]; exact (Below.refl _ _).alloc (Nat.le_refl _) _
  have c0 : W1.cell? ⟨w.heap.size, 0, none⟩ = some (.int .i64 kd) := by rw [← hW1]; simp
  have c1 : W1.cell? ⟨w.heap.size, 1, none⟩ = some (.int .i64 av) := by rw [← hW1]; simp
  have c2 : W1.cell? ⟨w.heap.size, 2, none⟩ = some (.int .i64 bv) := by rw [← hW1]; simp
  have c3 : W1.cell? ⟨w.heap.size, 3, none⟩ = some (.slice a n c) := by rw [← hW1]; simp
  have HA := hid (And.intro a1 a2)
  have HBV := hid (And.intro b1 b2)
  have HD := hid hd
  have HR1 := hid (hrow.ext hb1)
  have HT1 := hid (ht.ext hb1)
  have HB1 := hid hb1
  have C1 := hid (shapes_any W1)
  clear a1 a2 b1 b2 hd hrow hb1 ht
  go_enter Tryz.func31, Tryz.ntmps31
  go_wp2_with fail
  refine C1.out.mono ?_
  rintro e w2 ⟨rfl, hb2⟩
  have c0 := cell_toB c0 hb2
  have c1 := cell_toB c1 hb2
  have c2 := cell_toB c2 hb2
  have c3 := cell_toB c3 hb2
  have HB2 := hid (HB1.out.trans (hb2.mono HB1.out.size))
  have HR2 := hid (HR1.out.ext hb2)
  have HT2 := hid (HT1.out.ext hb2)
  clear hb2 C1 hW1 HR1 HT1 HB1
  have HC : Hid (∀ W, Below w2.heap.size w2 W → W.cell? ⟨w.heap.size, 0, none⟩ = some (.int .i64 kd) ∧ W.cell? ⟨w.heap.size, 1, none⟩ = some (.int .i64 av) ∧ W.cell? ⟨w.heap.size, 2, none⟩ = some (.int .i64 bv) ∧ W.cell? ⟨w.heap.size, 3, none⟩ = some (.slice a n c)) := hid fun W h => ⟨cell_toB c0 h, cell_toB c1 h, cell_toB c2 h, cell_toB c3 h⟩
  clear c0 c1 c2 c3
  go_wp2_with fail
  go_loopw [8] (fun iv wr => ∃ k : Nat, k ≤ 13 ∧ iv = .int .i64 k ∧ Hid (∀ (j : Nat) (x : Shape), j < k → shapesP[j]? = some x → x.kind ≠ kd) ∧ Hid (Below w2.heap.size w2 wr)) (fun iv _ => 13 - (intOf iv).toNat)
  case atStart => exact ⟨0, by omega, rfl, hid (fun j x h => absurd h (Nat.not_lt_zero _)), hid (Below.refl _ _)⟩
  case round =>
    obtain ⟨k, hk, rfl, hno, hbw⟩ := hrel
    by_cases hlt : k < 13
    · obtain ⟨x, hx⟩ : ∃ x, shapesP[k]? = some x := ⟨shapesP[k]'(by simpa [shapesP] using hlt), List.getElem?_eq_getElem _⟩
      have HXX := hid hx
      have hso := shapes_ok x (List.mem_of_getElem? hx)
      have hwl := hso.2.2.2.1
      have hsk : x.kind = kd → shapeK kd = some x := shapeK_at hx
      have HSK := hid hsk
      have UX := fun W => shape_idx hx W
      clear hx hso hsk
      obtain ⟨xk, word, two, bytes⟩ := x
      simp only [shC] at UX
      simp only at hwl
      obtain ⟨c0, c1, c2, c3⟩ := HC.out wr hbw.out
      obtain ⟨W4, hW4⟩ : ∃ W4, wr.alloc (.cells #[.int .i64 xk, .string ⟨word.toArray⟩, .bool two, .bool bytes] 112) = W4 := ⟨_, rfl⟩
      have hb4 : Below wr.heap.size wr W4 := by rw [← hW4]; exact (Below.refl _ _).alloc (Nat.le_refl _) _
      have s0 : W4.cell? ⟨wr.heap.size, 0, none⟩ = some (.int .i64 xk) := by rw [← hW4]; simp
      have s1 : W4.cell? ⟨wr.heap.size, 1, none⟩ = some (.string ⟨word.toArray⟩) := by rw [← hW4]; simp
      have s2 : W4.cell? ⟨wr.heap.size, 2, none⟩ = some (.bool two) := by rw [← hW4]; simp
      have s3 : W4.cell? ⟨wr.heap.size, 3, none⟩ = some (.bool bytes) := by rw [← hW4]; simp
      have c0 := cell_toB c0 hb4
      have c1 := cell_toB c1 hb4
      have c2 := cell_toB c2 hb4
      have c3 := cell_toB c3 hb4
      have HB4 := hid (hbw.out.trans (hb4.mono hbw.out.size))
      clear hb4
      go_upto_region 4 with fail
      clear hW4
      by_cases he : xk = kd
      · subst he
        have hse := HSK.out rfl
        have hlp : lineP ⟨xk, av, bv, data⟩ = if (two = false ∧ bv ≠ 0) ∨ (bytes = false ∧ data ≠ []) then none else some (lineS ⟨xk, word, two, bytes⟩ ⟨xk, av, bv, data⟩ ++ [10]) := by
          unfold lineP; rw [hse]
        have gk : (xk == xk) = true := by simp
        clear hno HSK HXX hse hbw
        cases two <;> cases bytes
        · by_cases hb0 : bv = 0
          · have gb : (bv != 0) = false := by simp [hb0]
            by_cases h0 : n = 0
            · have hd0 : data = [] := List.eq_nil_of_length_eq_zero (by rw [hn.out]; exact h0)
              have HRR : Hid (r = some (lineS ⟨xk, word, false, false⟩ ⟨xk, av, bv, data⟩ ++ [10])) := hid (by rw [← HR.out, hlp, if_neg (by simp [hd0, hb0])])
              have gn : decide ((0 : Int) < (n : Int)) = false := by simp [h0]
              have gn2 : decide (0 < n) = false := by simp [h0]
              clear hlp hd0 h0 hb0
              have f1 := cell_extY c1
              have fs1 := cell_extY s1
              have l1 := itoa_len av HA.out.1 HA.out.2
              obtain ⟨IA, hIA⟩ : ∃ I, Lib.itoa av = I := ⟨_, rfl⟩
              rw [hIA] at l1
              have CX : ∀ V : ExtW W4, Calls Tryz.prog 37 #[.int .i64 av] V.W fun e w' => e = .returned (.string ⟨IA.toArray⟩) ∧ ∃ V' : ExtW W4, w' = V'.W := fun V => by
                refine (itoaP_any av HA.out.1 HA.out.2 V.W ((HT2.out.ext HB4.out).ext V.h)).mono ?_
                rintro e w' ⟨rfl, hb⟩
                exact ⟨by rw [hIA], ⟨_, V.h.trans (hb.mono V.h.size)⟩, rfl⟩
              have CX := hid CX
              have a0 := run_cat word [32] (by omega) (by simp)
              have a1 := run_cat (word ++ [32]) IA (by simp; omega) (by omega)
              obtain ⟨T1, hT1⟩ : ∃ T, word ++ [32] = T := ⟨_, rfl⟩
              rw [hT1] at a0 a1
              obtain ⟨T2, hT2⟩ : ∃ T, T1 ++ IA = T := ⟨_, rfl⟩
              rw [hT2] at a1
              have HT : Hid (T2 = word ++ [32] ++ Lib.itoa av ∧ T2.length ≤ 40) := hid ⟨by rw [← hT2, ← hT1, hIA], by rw [← hT2, ← hT1]; simp; omega⟩
              clear hT1 hT2 hIA l1 hwl
              go_wp2_with fail
              clear c0 c1 s0 s1
              refine wp_region_ext (w := W4) (Below.refl _ _) (by kernel_rfl) (by kernel_rfl) ?_
              repeat (go_big_quiet_step (first | with_reducible exact CX.out _))
              refine wpQuiet_nil ?_
              rintro w9 ⟨⟨_, hb9⟩, rfl⟩
              have c2 := cell_toB c2 hb9
              have c3 := cell_toB c3 hb9
              have s2 := cell_toB s2 hb9
              have s3 := cell_toB s3 hb9
              have HB9 := hid (HB4.out.trans (hb9.mono HB4.out.size))
              clear hb9 CX a0 a1 f1 fs1
              have a6 := run_cat T2 [10] (by have := HT.out.2; omega) (by simp)
              have HFIN : Hid (r = some (T2 ++ [10])) := hid (by rw [HRR.out, HT.out.1]; simp [lineS])
              have HBF := hid (HB2.out.trans (HB9.out.mono HB2.out.size))
              go_wp2_with fail
              refine bodyPost_ret (v := .tuple #[.string ⟨(T2 ++ [10]).toArray⟩, .bool true]) (by simp [results, Tryz.results31, go_sem]) rfl ⟨by rw [HFIN.out]; rfl, HBF.out⟩
            · have hd0 : data ≠ [] := fun e => h0 (by rw [← hn.out, e]; rfl)
              have HRR : Hid (r = none) := hid (by rw [← HR.out, hlp, if_pos (.inr ⟨rfl, hd0⟩)])
              have gn : decide ((0 : Int) < (n : Int)) = true := by simp; omega
              have gn2 : decide (0 < n) = true := by simp; omega
              clear hlp hd0 h0 hb0
              have HBF := hid (HB2.out.trans (HB4.out.mono HB2.out.size))
              go_wp2_with fail
              refine bodyPost_ret (v := .tuple #[.string ⟨#[]⟩, .bool false]) (by simp [results, Tryz.results31, go_sem]) rfl ⟨by rw [HRR.out]; rfl, HBF.out⟩
          · have HRR : Hid (r = none) := hid (by rw [← HR.out, hlp, if_pos (.inl ⟨rfl, hb0⟩)])
            have gb : (bv != 0) = true := by simp [hb0]
            clear hlp hb0
            have HBF := hid (HB2.out.trans (HB4.out.mono HB2.out.size))
            go_wp2_with fail
            refine bodyPost_ret (v := .tuple #[.string ⟨#[]⟩, .bool false]) (by simp [results, Tryz.results31, go_sem]) rfl ⟨by rw [HRR.out]; rfl, HBF.out⟩
        · by_cases hb0 : bv = 0
          · have HRR : Hid (r = some (lineS ⟨xk, word, false, true⟩ ⟨xk, av, bv, data⟩ ++ [10])) := hid (by rw [← HR.out, hlp, if_neg (by simp [hb0])])
            have gb : (bv != 0) = false := by simp [hb0]
            clear hlp hb0
            have f1 := cell_extY c1
            have fs1 := cell_extY s1
            have l1 := itoa_len av HA.out.1 HA.out.2
            obtain ⟨IA, hIA⟩ : ∃ I, Lib.itoa av = I := ⟨_, rfl⟩
            rw [hIA] at l1
            have CX : ∀ V : ExtW W4, Calls Tryz.prog 37 #[.int .i64 av] V.W fun e w' => e = .returned (.string ⟨IA.toArray⟩) ∧ ∃ V' : ExtW W4, w' = V'.W := fun V => by
              refine (itoaP_any av HA.out.1 HA.out.2 V.W ((HT2.out.ext HB4.out).ext V.h)).mono ?_
              rintro e w' ⟨rfl, hb⟩
              exact ⟨by rw [hIA], ⟨_, V.h.trans (hb.mono V.h.size)⟩, rfl⟩
            have CX := hid CX
            have a0 := run_cat word [32] (by omega) (by simp)
            have a1 := run_cat (word ++ [32]) IA (by simp; omega) (by omega)
            obtain ⟨T1, hT1⟩ : ∃ T, word ++ [32] = T := ⟨_, rfl⟩
            rw [hT1] at a0 a1
            obtain ⟨T2, hT2⟩ : ∃ T, T1 ++ IA = T := ⟨_, rfl⟩
            rw [hT2] at a1
            have HT : Hid (T2 = word ++ [32] ++ Lib.itoa av ∧ T2.length ≤ 40) := hid ⟨by rw [← hT2, ← hT1, hIA], by rw [← hT2, ← hT1]; simp; omega⟩
            clear hT1 hT2 hIA l1 hwl
            go_wp2_with fail
            clear c0 c1 s0 s1
            refine wp_region_ext (w := W4) (Below.refl _ _) (by kernel_rfl) (by kernel_rfl) ?_
            repeat (go_big_quiet_step (first | with_reducible exact CX.out _))
            refine wpQuiet_nil ?_
            rintro w9 ⟨⟨_, hb9⟩, rfl⟩
            have c2 := cell_toB c2 hb9
            have c3 := cell_toB c3 hb9
            have s2 := cell_toB s2 hb9
            have s3 := cell_toB s3 hb9
            have HB9 := hid (HB4.out.trans (hb9.mono HB4.out.size))
            clear hb9 CX a0 a1 f1 fs1
            have C3 := hid (digitsP_any (c := c) hn (by omega) HD.out (HR2.out.ext HB9.out))
            have l3 : (hexP data).length ≤ 2000000 := by rw [hexP_len, hn.out]; omega
            obtain ⟨IX, hIX⟩ : ∃ I, hexP data = I := ⟨_, rfl⟩
            rw [hIX] at C3 l3
            have a4 := run_cat [32, 120] IX (by simp) (by omega)
            obtain ⟨T5, hT5⟩ : ∃ T, [32, 120] ++ IX = T := ⟨_, rfl⟩
            rw [hT5] at a4
            have a5 := run_cat T2 T5 (by have := HT.out.2; omega) (by rw [← hT5]; simp; omega)
            obtain ⟨T6, hT6⟩ : ∃ T, T2 ++ T5 = T := ⟨_, rfl⟩
            rw [hT6] at a5
            have HT6 : Hid (T6 = T2 ++ ([32, 120] ++ hexP data) ∧ T6.length ≤ 2100000) := hid ⟨by rw [← hT6, ← hT5, hIX], by rw [← hT6, ← hT5]; have := HT.out.2; simp; omega⟩
            clear hT5 hT6 hIX l3
            go_wp2_with fail
            refine C3.out.mono ?_
            rintro e w11 ⟨rfl, hb11⟩
            have HB11 := hid (HB9.out.trans (hb11.mono HB9.out.size))
            clear hb11 C3 c3 s3
            have a6 := run_cat T6 [10] (by have := HT6.out.2; omega) (by simp)
            have HFIN : Hid (r = some (T6 ++ [10])) := hid (by rw [HRR.out, HT6.out.1, HT.out.1]; simp [lineS])
            have HBF := hid (HB2.out.trans (HB11.out.mono HB2.out.size))
            go_wp2_with fail
            refine bodyPost_ret (v := .tuple #[.string ⟨(T6 ++ [10]).toArray⟩, .bool true]) (by simp [results, Tryz.results31, go_sem]) rfl ⟨by rw [HFIN.out]; rfl, HBF.out⟩
          · have HRR : Hid (r = none) := hid (by rw [← HR.out, hlp, if_pos (.inl ⟨rfl, hb0⟩)])
            have gb : (bv != 0) = true := by simp [hb0]
            clear hlp hb0
            have HBF := hid (HB2.out.trans (HB4.out.mono HB2.out.size))
            go_wp2_with fail
            refine bodyPost_ret (v := .tuple #[.string ⟨#[]⟩, .bool false]) (by simp [results, Tryz.results31, go_sem]) rfl ⟨by rw [HRR.out]; rfl, HBF.out⟩
        · by_cases h0 : n = 0
          · have hd0 : data = [] := List.eq_nil_of_length_eq_zero (by rw [hn.out]; exact h0)
            have HRR : Hid (r = some (lineS ⟨xk, word, true, false⟩ ⟨xk, av, bv, data⟩ ++ [10])) := hid (by rw [← HR.out, hlp, if_neg (by simp [hd0])])
            have gn : decide ((0 : Int) < (n : Int)) = false := by simp [h0]
            have gn2 : decide (0 < n) = false := by simp [h0]
            clear hlp hd0 h0
            have f1 := cell_extY c1
            have fs1 := cell_extY s1
            have l1 := itoa_len av HA.out.1 HA.out.2
            obtain ⟨IA, hIA⟩ : ∃ I, Lib.itoa av = I := ⟨_, rfl⟩
            rw [hIA] at l1
            have CX : ∀ V : ExtW W4, Calls Tryz.prog 37 #[.int .i64 av] V.W fun e w' => e = .returned (.string ⟨IA.toArray⟩) ∧ ∃ V' : ExtW W4, w' = V'.W := fun V => by
              refine (itoaP_any av HA.out.1 HA.out.2 V.W ((HT2.out.ext HB4.out).ext V.h)).mono ?_
              rintro e w' ⟨rfl, hb⟩
              exact ⟨by rw [hIA], ⟨_, V.h.trans (hb.mono V.h.size)⟩, rfl⟩
            have CX := hid CX
            have a0 := run_cat word [32] (by omega) (by simp)
            have a1 := run_cat (word ++ [32]) IA (by simp; omega) (by omega)
            obtain ⟨T1, hT1⟩ : ∃ T, word ++ [32] = T := ⟨_, rfl⟩
            rw [hT1] at a0 a1
            obtain ⟨T2, hT2⟩ : ∃ T, T1 ++ IA = T := ⟨_, rfl⟩
            rw [hT2] at a1
            have HT : Hid (T2 = word ++ [32] ++ Lib.itoa av ∧ T2.length ≤ 40) := hid ⟨by rw [← hT2, ← hT1, hIA], by rw [← hT2, ← hT1]; simp; omega⟩
            clear hT1 hT2 hIA l1 hwl
            go_wp2_with fail
            clear c0 c1 s0 s1
            refine wp_region_ext (w := W4) (Below.refl _ _) (by kernel_rfl) (by kernel_rfl) ?_
            repeat (go_big_quiet_step (first | with_reducible exact CX.out _))
            refine wpQuiet_nil ?_
            rintro w9 ⟨⟨_, hb9⟩, rfl⟩
            have c2 := cell_toB c2 hb9
            have c3 := cell_toB c3 hb9
            have s2 := cell_toB s2 hb9
            have s3 := cell_toB s3 hb9
            have HB9 := hid (HB4.out.trans (hb9.mono HB4.out.size))
            clear hb9 CX a0 a1 f1 fs1
            have l2 := itoa_len bv HBV.out.1 HBV.out.2
            have C2 := hid (itoaP_any bv HBV.out.1 HBV.out.2 w9 (HT2.out.ext HB9.out))
            obtain ⟨IB, hIB⟩ : ∃ I, Lib.itoa bv = I := ⟨_, rfl⟩
            rw [hIB] at C2 l2
            have a2 := run_cat [32] IB (by simp) (by omega)
            obtain ⟨T3, hT3⟩ : ∃ T, [32] ++ IB = T := ⟨_, rfl⟩
            rw [hT3] at a2
            have a3 := run_cat T2 T3 (by have := HT.out.2; omega) (by rw [← hT3]; simp; omega)
            obtain ⟨T4, hT4⟩ : ∃ T, T2 ++ T3 = T := ⟨_, rfl⟩
            rw [hT4] at a3
            have HT4 : Hid (T4 = T2 ++ ([32] ++ Lib.itoa bv) ∧ T4.length ≤ 80) := hid ⟨by rw [← hT4, ← hT3, hIB], by rw [← hT4, ← hT3]; have := HT.out.2; simp; omega⟩
            clear hT3 hT4 hIB l2
            go_wp2_with fail
            refine C2.out.mono ?_
            rintro e w10 ⟨rfl, hb10⟩
            have c3 := cell_toB c3 hb10
            have s3 := cell_toB s3 hb10
            have HB10 := hid (HB9.out.trans (hb10.mono HB9.out.size))
            clear hb10 C2 c2 s2
            have a6 := run_cat T4 [10] (by have := HT4.out.2; omega) (by simp)
            have HFIN : Hid (r = some (T4 ++ [10])) := hid (by rw [HRR.out, HT4.out.1, HT.out.1]; simp [lineS])
            have HBF := hid (HB2.out.trans (HB10.out.mono HB2.out.size))
            go_wp2_with fail
            refine bodyPost_ret (v := .tuple #[.string ⟨(T4 ++ [10]).toArray⟩, .bool true]) (by simp [results, Tryz.results31, go_sem]) rfl ⟨by rw [HFIN.out]; rfl, HBF.out⟩
          · have hd0 : data ≠ [] := fun e => h0 (by rw [← hn.out, e]; rfl)
            have HRR : Hid (r = none) := hid (by rw [← HR.out, hlp, if_pos (.inr ⟨rfl, hd0⟩)])
            have gn : decide ((0 : Int) < (n : Int)) = true := by simp; omega
            have gn2 : decide (0 < n) = true := by simp; omega
            clear hlp hd0 h0
            have HBF := hid (HB2.out.trans (HB4.out.mono HB2.out.size))
            go_wp2_with fail
            refine bodyPost_ret (v := .tuple #[.string ⟨#[]⟩, .bool false]) (by simp [results, Tryz.results31, go_sem]) rfl ⟨by rw [HRR.out]; rfl, HBF.out⟩
        · have HRR : Hid (r = some (lineS ⟨xk, word, true, true⟩ ⟨xk, av, bv, data⟩ ++ [10])) := hid (by rw [← HR.out, hlp, if_neg (by simp)])
          clear hlp
          have f1 := cell_extY c1
          have fs1 := cell_extY s1
          have l1 := itoa_len av HA.out.1 HA.out.2
          obtain ⟨IA, hIA⟩ : ∃ I, Lib.itoa av = I := ⟨_, rfl⟩
          rw [hIA] at l1
          have CX : ∀ V : ExtW W4, Calls Tryz.prog 37 #[.int .i64 av] V.W fun e w' => e = .returned (.string ⟨IA.toArray⟩) ∧ ∃ V' : ExtW W4, w' = V'.W := fun V => by
            refine (itoaP_any av HA.out.1 HA.out.2 V.W ((HT2.out.ext HB4.out).ext V.h)).mono ?_
            rintro e w' ⟨rfl, hb⟩
            exact ⟨by rw [hIA], ⟨_, V.h.trans (hb.mono V.h.size)⟩, rfl⟩
          have CX := hid CX
          have a0 := run_cat word [32] (by omega) (by simp)
          have a1 := run_cat (word ++ [32]) IA (by simp; omega) (by omega)
          obtain ⟨T1, hT1⟩ : ∃ T, word ++ [32] = T := ⟨_, rfl⟩
          rw [hT1] at a0 a1
          obtain ⟨T2, hT2⟩ : ∃ T, T1 ++ IA = T := ⟨_, rfl⟩
          rw [hT2] at a1
          have HT : Hid (T2 = word ++ [32] ++ Lib.itoa av ∧ T2.length ≤ 40) := hid ⟨by rw [← hT2, ← hT1, hIA], by rw [← hT2, ← hT1]; simp; omega⟩
          clear hT1 hT2 hIA l1 hwl
          go_wp2_with fail
          clear c0 c1 s0 s1
          refine wp_region_ext (w := W4) (Below.refl _ _) (by kernel_rfl) (by kernel_rfl) ?_
          repeat (go_big_quiet_step (first | with_reducible exact CX.out _))
          refine wpQuiet_nil ?_
          rintro w9 ⟨⟨_, hb9⟩, rfl⟩
          have c2 := cell_toB c2 hb9
          have c3 := cell_toB c3 hb9
          have s2 := cell_toB s2 hb9
          have s3 := cell_toB s3 hb9
          have HB9 := hid (HB4.out.trans (hb9.mono HB4.out.size))
          clear hb9 CX a0 a1 f1 fs1
          have l2 := itoa_len bv HBV.out.1 HBV.out.2
          have C2 := hid (itoaP_any bv HBV.out.1 HBV.out.2 w9 (HT2.out.ext HB9.out))
          obtain ⟨IB, hIB⟩ : ∃ I, Lib.itoa bv = I := ⟨_, rfl⟩
          rw [hIB] at C2 l2
          have a2 := run_cat [32] IB (by simp) (by omega)
          obtain ⟨T3, hT3⟩ : ∃ T, [32] ++ IB = T := ⟨_, rfl⟩
          rw [hT3] at a2
          have a3 := run_cat T2 T3 (by have := HT.out.2; omega) (by rw [← hT3]; simp; omega)
          obtain ⟨T4, hT4⟩ : ∃ T, T2 ++ T3 = T := ⟨_, rfl⟩
          rw [hT4] at a3
          have HT4 : Hid (T4 = T2 ++ ([32] ++ Lib.itoa bv) ∧ T4.length ≤ 80) := hid ⟨by rw [← hT4, ← hT3, hIB], by rw [← hT4, ← hT3]; have := HT.out.2; simp; omega⟩
          clear hT3 hT4 hIB l2
          go_wp2_with fail
          refine C2.out.mono ?_
          rintro e w10 ⟨rfl, hb10⟩
          have c3 := cell_toB c3 hb10
          have s3 := cell_toB s3 hb10
          have HB10 := hid (HB9.out.trans (hb10.mono HB9.out.size))
          clear hb10 C2 c2 s2
          have C3 := hid (digitsP_any (c := c) hn (by omega) HD.out (HR2.out.ext HB10.out))
          have l3 : (hexP data).length ≤ 2000000 := by rw [hexP_len, hn.out]; omega
          obtain ⟨IX, hIX⟩ : ∃ I, hexP data = I := ⟨_, rfl⟩
          rw [hIX] at C3 l3
          have a4 := run_cat [32, 120] IX (by simp) (by omega)
          obtain ⟨T5, hT5⟩ : ∃ T, [32, 120] ++ IX = T := ⟨_, rfl⟩
          rw [hT5] at a4
          have a5 := run_cat T4 T5 (by have := HT4.out.2; omega) (by rw [← hT5]; simp; omega)
          obtain ⟨T6, hT6⟩ : ∃ T, T4 ++ T5 = T := ⟨_, rfl⟩
          rw [hT6] at a5
          have HT6 : Hid (T6 = T4 ++ ([32, 120] ++ hexP data) ∧ T6.length ≤ 2100000) := hid ⟨by rw [← hT6, ← hT5, hIX], by rw [← hT6, ← hT5]; have := HT4.out.2; simp; omega⟩
          clear hT5 hT6 hIX l3
          go_wp2_with fail
          refine C3.out.mono ?_
          rintro e w11 ⟨rfl, hb11⟩
          have HB11 := hid (HB10.out.trans (hb11.mono HB10.out.size))
          clear hb11 C3 c3 s3
          have a6 := run_cat T6 [10] (by have := HT6.out.2; omega) (by simp)
          have HFIN : Hid (r = some (T6 ++ [10])) := hid (by rw [HRR.out, HT6.out.1, HT4.out.1, HT.out.1]; simp [lineS])
          have HBF := hid (HB2.out.trans (HB11.out.mono HB2.out.size))
          go_wp2_with fail
          refine bodyPost_ret (v := .tuple #[.string ⟨(T6 ++ [10]).toArray⟩, .bool true]) (by simp [results, Tryz.results31, go_sem]) rfl ⟨by rw [HFIN.out]; rfl, HBF.out⟩
      · have g : (xk == kd) = false := by simpa using he
        have HNO : Hid (∀ (j : Nat) (x : Shape), j < k + 1 → shapesP[j]? = some x → x.kind ≠ kd) := hid fun j x hj hx => by
          by_cases hjk : j < k
          · exact hno.out j x hjk hx
          · obtain rfl : j = k := by omega
            rw [HXX.out] at hx
            have := Option.some.inj hx
            subst this
            exact he
        clear he hwl
        go_wp2_with fail
        go_roundw
        case rel => exact ⟨k + 1, by omega, by go_num, HNO, HB4⟩
        case measure => simp [intOf]; omega
    · have hnone : r = none := by
        rw [← HR.out]
        unfold lineP
        rw [shapeK_none fun j x hj => hno.out j x (by have := (List.getElem?_eq_some_iff.1 hj).1; have h13 : shapesP.length = 13 := rfl; omega) hj]
      have HN := hid hnone
      have HBW := hbw
      clear hnone
      go_wp2_with fail
      refine bodyPost_ret (v := .tuple #[.string ⟨#[]⟩, .bool false]) (by simp [results, Tryz.results31, go_sem]) rfl ⟨by rw [HN.out]; rfl, HB2.out.trans (HBW.out.mono HB2.out.size)⟩
end Go.Proofs.YtehagnbphamjhaaGreatDoor

