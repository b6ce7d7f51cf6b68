/- Parts of the proof: Z7. -/
import Derived.Test.YtppapeoainafbaaGreatDoorGViewTexts11
namespace Go.Proofs.YtppapeoainafbaaGreatDoor
open Go.RowKit
/-! ### the reference's Print of a view -/
set_option maxRecDepth 100000 in
set_option maxHeartbeats 4000000 in
theorem refViewPrint_any {V : View} {i : Nat} {am al ad : Option Addr} {cm cl cd : Nat} {w : World} (hi : V.id = (i : Int)) (hV : ViewR w am al ad V) (hw : WfPids V.ms) (hc : Hid (checkB V = true)) :
    Calls Tryz.prog 19 #[.agg #[.int .u64 i, .slice am V.ms.length cm, .slice al V.ls.length cl, .slice ad V.ds.length cd]] w fun e w' => e = .returned (.string ⟨(viewP V).toArray⟩) ∧ Below w.heap.size w w' := by
  obtain ⟨hml, hid0, hlf⟩ := check_leaf hc.out
  obtain ⟨w2, hw2⟩ : ∃ w2, w.alloc (.cells #[.int .u64 i, .slice am V.ms.length cm, .slice al V.ls.length cl, .slice ad V.ds.length cd] 33) = w2 := ⟨_, rfl⟩
  have hb2 : Below w.heap.size w w2 := by rw [← hw2]; exact (Below.refl _ _).alloc (Nat.le_refl _) _
  have v0 : w2.cell? ⟨w.heap.size, 0, none⟩ = some (.int .u64 i) := by rw [← hw2]; simp
  have v1 : w2.cell? ⟨w.heap.size, 1, none⟩ = some (.slice am V.ms.length cm) := by rw [← hw2]; simp
  have v2 : w2.cell? ⟨w.heap.size, 2, none⟩ = some (.slice al V.ls.length cl) := by rw [← hw2]; simp
  have v3 : w2.cell? ⟨w.heap.size, 3, none⟩ = some (.slice ad V.ds.length cd) := by rw [← hw2]; simp
  have HB2 := hid hb2
  have HV2 := hid (hV.ext hb2)
  have HW := hid hw
  have HLF := hid hlf
  have HI := hid hi
  have HF2 : Hid (∀ W, Below w2.heap.size w2 W → W.cell? ⟨w.heap.size, 0, none⟩ = some (.int .u64 i) ∧ W.cell? ⟨w.heap.size, 1, none⟩ = some (.slice am V.ms.length cm) ∧ W.cell? ⟨w.heap.size, 2, none⟩ = some (.slice al V.ls.length cl) ∧ W.cell? ⟨w.heap.size, 3, none⟩ = some (.slice ad V.ds.length cd)) := hid fun W h => ⟨cell_toB v0 h, cell_toB v1 h, cell_toB v2 h, cell_toB v3 h⟩
  have C1 := hid (digits_any i (by have := hid0.2; omega) w2)
  have hdl := dec_len i 19 (by have := hid0.2; omega)
  have HDL := hid hdl
  clear hb2 hV hw hlf hc v1 v2 v3 hdl
  go_enter Tryz.func19, Tryz.ntmps19
  go_wp2_with fail
  (refine C1.out.mono ?_)
  rintro e w5 ⟨rfl, hb5⟩
  have HB5 := hid hb5
  clear hb5 C1 hw2 v0
  go_wp2_with fail
  go_loopw [3, 4, 5] (fun vo iv u wr => ∃ (k : Nat) (out : Str), vo = .string ⟨out.toArray⟩ ∧ iv = .int .i64 k ∧ k ≤ V.ms.length ∧ out.length ≤ 20 + 100 * k ∧ Hid (out ++ wordsP V (V.ms.drop k) = viewP V) ∧ Hid (Below w2.heap.size w2 wr)) (fun _ iv _ _ => V.ms.length - (intOf iv).toNat)
  case atStart => exact ⟨0, Lib.decDigits i, rfl, rfl, Nat.zero_le _, by have := HDL.out; omega, hid (by unfold viewP; rw [HI.out]; rfl), HB5⟩
  case round =>
    obtain ⟨k, out, rfl, rfl, hk, hol, hf, hbw⟩ := hrel
    clear HB5 HDL
    obtain ⟨v0, v1, v2, v3⟩ := HF2.out _ hbw.out
    by_cases hlt : k < V.ms.length
    · obtain ⟨b, o, x, y, rfl, hxy, q0, q1⟩ := HV2.out.ms.at hbw.out rfl hlt
      have hmem : (x, y) ∈ V.ms := by rw [hxy]; exact List.getElem_mem hlt
      obtain ⟨g1, g2, g3, g4⟩ := HW.out (x, y) hmem
      obtain ⟨kk, hkk, hlx⟩ := HLF.out (x, y) hmem
      simp only at g1 g2 g3 g4
      obtain ⟨x, rfl⟩ := Int.eq_ofNat_of_zero_le g1
      obtain ⟨y, rfl⟩ := Int.eq_ofNat_of_zero_le g3
      have hx : x < 65536 := by omega
      have hy : y < 4294967296 := by omega
      have HD := hid (wordsP_drop V hlt hxy)
      have HWL := hid (wordP_len hx hy hkk hlx)
      obtain ⟨PP, hPP⟩ : ∃ PP, printP ((x : Int), (y : Int)) = PP := ⟨_, rfl⟩
      obtain ⟨DK, hDK⟩ : ∃ DK, Lib.decDigits kk = DK := ⟨_, rfl⟩
      have hpl : PP.length ≤ 50 := by
        obtain ⟨l0, l1⟩ := printP_len hx hy
        rw [← hPP]; unfold printP; simp only [Int.toNat_natCast, List.length_append, List.length_cons]; omega
      have hdl : DK.length ≤ 3 := by rw [← hDK]; exact dec_len kk 2 (by omega)
      have hwd : out ++ wordP V ((x : Int), (y : Int)) = out ++ [32] ++ PP ++ [47] ++ DK ++ (if ((x : Int), (y : Int)) ∈ V.ds then [42] else []) := by
        unfold wordP; rw [hPP, hlx, Int.toNat_natCast, hDK]; simp
      have a1 := run_cat out [32] (by omega) (by simp)
      have a2 := run_cat (out ++ [32]) PP (by simp; omega) (by omega)
      have a3 := run_cat (out ++ [32] ++ PP) [47] (by simp; omega) (by simp)
      have a4 := run_cat (out ++ [32] ++ PP ++ [47]) DK (by simp; omega) (by omega)
      have hl3 : (out ++ [32] ++ PP ++ [47] ++ DK).length ≤ 8000000 := by simp; omega
      obtain ⟨T0, hT0⟩ : ∃ T0, out ++ [32] = T0 := ⟨_, rfl⟩
      rw [hT0] at a1 a2 a3 a4 hwd hl3
      obtain ⟨T1, hT1⟩ : ∃ T1, T0 ++ PP = T1 := ⟨_, rfl⟩
      rw [hT1] at a2 a3 a4 hwd hl3
      obtain ⟨T2, hT2⟩ : ∃ T2, T1 ++ [47] = T2 := ⟨_, rfl⟩
      rw [hT2] at a3 a4 hwd hl3
      obtain ⟨T3, hT3⟩ : ∃ T3, T2 ++ DK = T3 := ⟨_, rfl⟩
      rw [hT3] at a4 hwd hl3
      have a5 := run_cat T3 [42] (by omega) (by simp)
      have HWD := hid hwd
      obtain ⟨w6, hw6⟩ : ∃ w6, wr.alloc (.cells #[.int .u16 x, .int .u32 y] 25) = w6 := ⟨_, rfl⟩
      have hb6 : Below wr.heap.size wr w6 := by rw [← hw6]; exact (Below.refl _ _).alloc (Nat.le_refl _) _
      have p0 : w6.cell? ⟨wr.heap.size, 0, none⟩ = some (.int .u16 x) := by rw [← hw6]; simp
      have p1 : w6.cell? ⟨wr.heap.size, 1, none⟩ = some (.int .u32 y) := by rw [← hw6]; simp
      have HB6 := hid (hbw.out.trans (hb6.mono hbw.out.size))
      obtain ⟨u0, u1, u2, u3⟩ := HF2.out _ HB6.out
      have HV6 := hid (HV2.out.ext HB6.out)
      have f0 := cell_extY p0
      have f1 := cell_extY p1
      have f2 := cell_extY u0
      have f3 := cell_extY u1
      have f4 := cell_extY u2
      have f5 := cell_extY u3
      have CP : Hid (∀ U : ExtW w6, Calls Tryz.prog 35 #[.agg #[.int .u16 x, .int .u32 y]] U.W fun e w' => e = .returned (.string ⟨PP.toArray⟩) ∧ ∃ U' : ExtW w6, w' = U'.W) := hid fun U => quiet_of (refPrint_any hx hy U.W) (by rw [hPP])
      have CL : Hid (∀ U : ExtW w6, Calls Tryz.prog 64 #[.agg #[.int .u64 i, .slice (some ⟨b, o, none⟩) V.ms.length cm, .slice al V.ls.length cl, .slice ad V.ds.length cd], .agg #[.int .u16 x, .int .u32 y]] U.W fun e w' => e = .returned (.int .i64 kk) ∧ ∃ U' : ExtW w6, w' = U'.W) := hid fun U => by
        have := refLeaf_any V (some ⟨b, o, none⟩) al ad cm cl cd x y U.W (HV6.out.ext U.h)
        rw [HI.out] at this
        exact quiet_of this (by rw [hlx])
      have CI : Hid (∀ U : ExtW w6, Calls Tryz.prog 63 #[.int .u64 kk] U.W fun e w' => e = .returned (.string ⟨DK.toArray⟩) ∧ ∃ U' : ExtW w6, w' = U'.W) := hid fun U => quiet_of (digits_any kk (by omega) U.W) (by rw [hDK])
      have i1 : IntKind.u64.wrap (kk : Int) = kk := by rw [IntKind.wrap_u64]; omega
      have HOL : Hid (out.length ≤ 20 + 100 * k) := hid hol
      have HFP : Hid (∀ W, Below w6.heap.size w6 W → W.cell? ⟨wr.heap.size, 0, none⟩ = some (.int .u16 x) ∧ W.cell? ⟨wr.heap.size, 1, none⟩ = some (.int .u32 y)) := hid fun W h => ⟨cell_toB p0 h, cell_toB p1 h⟩
      have HA5 := hid a5
      clear hol hwd hpl hdl hT0 hT1 hT2 hT3 hDK hPP hlx g1 g2 g3 g4 hmem hxy hb6 p0 p1 u0 u1 u2 u3 hl3 a5
      go_wp2_with fail
      clear q0 q1 hw6 v0 v1 v2 v3
      refine wp_region_ext (w := w6) (Below.refl _ _) (by kernel_rfl) (by kernel_rfl) ?_
      repeat (go_big_quiet_step (first | with_reducible exact CP.out _ | with_reducible exact CL.out _ | with_reducible exact CI.out _))
      refine wpQuiet_nil ?_
      rintro w9 ⟨⟨_, hb9⟩, rfl⟩
      have HB9 := hid (HB6.out.trans (hb9.mono HB6.out.size))
      obtain ⟨p0, p1⟩ := HFP.out _ hb9
      obtain ⟨v0, v1, v2, v3⟩ := HF2.out _ HB9.out
      clear hb9 f0 f1 f2 f3 f4 f5 a1 a2 a3 a4 CP CL CI
      have C5 := at_any ad cd V.ds x y w9 (by have := HV2.out.ld; omega) (HV2.out.ext HB9.out).ds
      by_cases hd : ((x : Int), (y : Int)) ∈ V.ds
      · have hge : 0 ≤ atIx V.ds ((x : Int), (y : Int)) := by
          have := atIx_nonneg (p := ((x : Int), (y : Int))) (xs := V.ds)
          rw [decide_eq_true hd] at this
          exact of_decide_eq_true this
        obtain ⟨ax, hax⟩ : ∃ ax, atIx V.ds ((x : Int), (y : Int)) = ax := ⟨_, rfl⟩
        rw [hax] at C5 hge
        have C5 := hid C5
        have HWD2 : Hid (out ++ wordP V ((x : Int), (y : Int)) = T3 ++ [42]) := hid (by rw [HWD.out, if_pos hd])
        have HLL : Hid ((T3 ++ [42]).length ≤ 20 + 100 * (k + 1)) := hid (by
          have h1 := HWL.out
          have h2 := HOL.out
          have h3 := congrArg List.length HWD2.out
          rw [List.length_append] at h3
          omega)
        have i2 : decide (ax ≥ 0) = true := decide_eq_true hge
        clear hd HWD hax
        go_wp2_with fail
        (refine C5.out.mono ?_)
        rintro e wE ⟨rfl, hbE⟩
        have HBE := hid (HB9.out.trans (hbE.mono HB9.out.size))
        have a5 := HA5.out
        clear hbE C5 p0 p1 v0 v1 v2 v3
        go_wp2_with fail
        go_roundw
        case rel => exact ⟨k + 1, T3 ++ [42], by simp, by go_num, by omega, HLL.out, hid (by rw [← hf.out, HD.out, ← List.append_assoc, HWD2.out]), HBE⟩
        case measure => simp [intOf]; omega
      · have hge : ¬ 0 ≤ atIx V.ds ((x : Int), (y : Int)) := by
          have := atIx_nonneg (p := ((x : Int), (y : Int))) (xs := V.ds)
          rw [decide_eq_false hd] at this
          exact of_decide_eq_false this
        obtain ⟨ax, hax⟩ : ∃ ax, atIx V.ds ((x : Int), (y : Int)) = ax := ⟨_, rfl⟩
        rw [hax] at C5 hge
        have C5 := hid C5
        have HWD2 : Hid (out ++ wordP V ((x : Int), (y : Int)) = T3) := hid (by rw [HWD.out, if_neg hd, List.append_nil])
        have HLL : Hid (T3.length ≤ 20 + 100 * (k + 1)) := hid (by
          have h1 := HWL.out
          have h2 := HOL.out
          have h3 := congrArg List.length HWD2.out
          rw [List.length_append] at h3
          omega)
        have i2 : decide (ax ≥ 0) = false := decide_eq_false hge
        clear hd HWD hax
        go_wp2_with fail
        (refine C5.out.mono ?_)
        rintro e wE ⟨rfl, hbE⟩
        have HBE := hid (HB9.out.trans (hbE.mono HB9.out.size))
        clear hbE C5 p0 p1 v0 v1 v2 v3
        go_wp2_with fail
        go_roundw
        case rel => exact ⟨k + 1, T3, rfl, by go_num, by omega, HLL.out, hid (by rw [← hf.out, HD.out, ← List.append_assoc, HWD2.out]), HBE⟩
        case measure => simp [intOf]; omega
    · have hke : V.ms.drop k = [] := List.drop_eq_nil_of_le (by omega)
      have hres : out = viewP V := by rw [← hf.out, hke]; simp [wordsP]
      subst hres
      have HB9 := hid (HB2.out.trans (hbw.out.mono HB2.out.size))
      clear hke hol
      go_wp2_with fail
      go_ret
      exact ⟨rfl, HB9.out⟩
end Go.Proofs.YtppapeoainafbaaGreatDoor

