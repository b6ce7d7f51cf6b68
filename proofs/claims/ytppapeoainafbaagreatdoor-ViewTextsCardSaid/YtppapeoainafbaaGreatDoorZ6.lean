/- Parts of the proof: Z6. -/
import Derived.Test.YtppapeoainafbaaGreatDoorGViewTexts8
namespace Go.Proofs.YtppapeoainafbaaGreatDoor
open Go.RowKit
set_option maxRecDepth 100000 in
set_option maxHeartbeats 4000000 in
theorem viewPrint_any {V : View} {i : Nat} {am al ad : Option Addr} {cm cl cd : Nat} {w : World} (hi : V.id = (i : Int)) (hV : ViewR w am al ad V) (hw : WfPids V.ms) (hsum : lens V.ls ≤ 549755813888) (hc : Hid (checkB V = true)) (ht : TabOk w) :
    Calls Tryz.prog 17 #[.agg #[.int .u64 i, .slice am V.ms.length cm, .slice al V.ls.length cl, .slice ad V.ds.length cd]] w fun e w' => e = .returned (.tuple #[.string ⟨(viewP V).toArray⟩, .int .i64 0]) ∧ Below w.heap.size w w' := by
  obtain ⟨hml, hid0, hlf⟩ := check_leaf hc.out
  obtain ⟨W1, hW1⟩ : ∃ W1, w.alloc (.cells #[.int .u64 i, .slice am V.ms.length cm, .slice al V.ls.length cl, .slice ad V.ds.length cd] 33) = W1 := ⟨_, rfl⟩
  have hb1 : Below w.heap.size w W1 := by rw [← hW1]; exact (Below.refl _ _).alloc (Nat.le_refl _) _
  have v0 : W1.cell? ⟨w.heap.size, 0, none⟩ = some (.int .u64 i) := by rw [← hW1]; simp
  have v1 : W1.cell? ⟨w.heap.size, 1, none⟩ = some (.slice am V.ms.length cm) := by rw [← hW1]; simp
  have v2 : W1.cell? ⟨w.heap.size, 2, none⟩ = some (.slice al V.ls.length cl) := by rw [← hW1]; simp
  have v3 : W1.cell? ⟨w.heap.size, 3, none⟩ = some (.slice ad V.ds.length cd) := by rw [← hW1]; simp
  have HB1 := hid hb1
  have HV1 := hid (hV.ext hb1)
  have HT1 := hid (ht.ext hb1)
  have HW := hid hw
  have HLF := hid hlf
  have C1 := hid (check_is (cm := cm) (cl := cl) (cd := cd) hc (k := 0) rfl (hV.ext hb1) hsum)
  rw [hi] at C1
  have HI := hid hi
  clear hb1 hV ht hw hlf hsum
  go_enter Tryz.func17, Tryz.ntmps17
  go_wp2_with fail
  (refine C1.out.mono ?_)
  rintro e w2 ⟨rfl, hb2⟩
  have HB2 := hid (HB1.out.trans (hb2.mono HB1.out.size))
  have v0 := cell_toB v0 hb2
  have v1 := cell_toB v1 hb2
  have v2 := cell_toB v2 hb2
  have v3 := cell_toB v3 hb2
  have HV2 := hid (HV1.out.ext hb2)
  have HT2 := hid (HT1.out.ext hb2)
  clear hb2 C1 hW1 HV1 HT1 hc
  have lt0 := World.block_lt_of_cell? w2 _ v0
  obtain ⟨w3, hw3⟩ : ∃ w3, w2.alloc (.cells #[.pointer none, .slice none 0 0] 95) = w3 := ⟨_, rfl⟩
  have hbl3 : Bld w2.heap.size w2.heap.size [] w3 := by rw [← hw3]; exact Lib.fresh_isBuilder _ _ w2
  have hb3 : Below w2.heap.size w2 w3 := by rw [← hw3]; exact (Below.refl _ _).alloc (Nat.le_refl _) _
  have HF2 : Hid (∀ W, Below w2.heap.size w2 W → W.cell? ⟨w.heap.size, 0, none⟩ = some (.int .u64 i) ∧ W.cell? ⟨w.heap.size, 1, none⟩ = some (.slice am V.ms.length cm) ∧ W.cell? ⟨w.heap.size, 2, none⟩ = some (.slice al V.ls.length cl) ∧ W.cell? ⟨w.heap.size, 3, none⟩ = some (.slice ad V.ds.length cd)) := hid fun W h => ⟨cell_toB v0 h, cell_toB v1 h, cell_toB v2 h, cell_toB v3 h⟩
  have v0 := cell_toB v0 hb3
  have v1 := cell_toB v1 hb3
  have C2 := hid (fmt_any i (by have := hid0.2; omega) w3 (HT2.out.ext hb3))
  have HB3 := hid hb3
  have HBL3 := hid hbl3
  clear hbl3 hb3 v2 v3
  go_wp2_with fail
  (refine C2.out.mono ?_)
  rintro e w4 ⟨rfl, hb4⟩
  have HB4 := hid (HB3.out.trans (hb4.mono HB3.out.size))
  have hdl := dec_len i 19 (by have := hid0.2; omega)
  have BL4 : Bld w2.heap.size w2.heap.size [] w4 := Bld.extB HBL3.out hb4
  have C3 := hid (bws_any w2.heap.size w2.heap.size [] (Lib.decDigits i) w4 BL4 (by simp; omega) HB4.out.size)
  clear hb4 C2 BL4 HBL3 hw3
  go_wp2_with fail
  (refine C3.out.mono ?_)
  rintro e w5 ⟨rfl, bl5, hb5, -⟩
  have HB5 := hid (HB4.out.trans hb5)
  have HBL5 : Hid (BldU w2.heap.size w2.heap.size (Lib.decDigits i) w5) := hid bl5
  obtain ⟨v0, v1, v2, v3⟩ := HF2.out _ HB5.out
  have HDL := hid hdl
  clear hb5 C3 bl5 hdl v0 v2 v3
  go_wp2_with fail
  clear v1
  go_loopw [6, 17] (fun u iv wr => ∃ (k : Nat) (out : Str), iv = .int .i64 k ∧ k ≤ V.ms.length ∧ out.length ≤ 20 + 100 * k ∧ Hid (out ++ wordsP V (V.ms.drop k) = viewP V) ∧ Hid (BldU w2.heap.size w2.heap.size out wr) ∧ Hid (Below w2.heap.size w2 wr)) (fun _ iv _ => V.ms.length - (intOf iv).toNat)
  case atStart => exact ⟨0, Lib.decDigits i, rfl, Nat.zero_le _, by have := HDL.out; omega, hid (by unfold viewP; rw [HI.out]; rfl), HBL5, HB5⟩
  case round =>
    obtain ⟨k, out, rfl, hk, hol, hf, hbl, hbw⟩ := hrel
    clear HBL5 HB5 HB3 HB4 HDL
    by_cases hlt : k < V.ms.length
    · obtain ⟨b, o, x, y, rfl, hxy, q0, q1⟩ := HV2.out.ms.at hbw.out rfl hlt
      have hmem : (x, y) ∈ V.ms := by rw [hxy]; exact List.getElem_mem hlt
      obtain ⟨g1, g2, g3, g4⟩ := HW.out (x, y) hmem
      obtain ⟨kk, hkk, hlx⟩ := HLF.out (x, y) hmem
      simp only at g1 g2 g3 g4
      obtain ⟨x, rfl⟩ := Int.eq_ofNat_of_zero_le g1
      obtain ⟨y, rfl⟩ := Int.eq_ofNat_of_zero_le g3
      have hx : x < 65536 := by omega
      have hy : y < 4294967296 := by omega
      have HD := hid (wordsP_drop V hlt hxy)
      have HWL := hid (wordP_len hx hy hkk hlx)
      obtain ⟨PP, hPP⟩ : ∃ PP, printP ((x : Int), (y : Int)) = PP := ⟨_, rfl⟩
      obtain ⟨DK, hDK⟩ : ∃ DK, Lib.decDigits kk = DK := ⟨_, rfl⟩
      have hpl : PP.length ≤ 50 := by
        obtain ⟨l0, l1⟩ := printP_len hx hy
        rw [← hPP]; unfold printP; simp only [Int.toNat_natCast, List.length_append, List.length_cons]; omega
      have hdl : DK.length ≤ 3 := by rw [← hDK]; exact dec_len kk 2 (by omega)
      have hwd : wordP V ((x : Int), (y : Int)) = [32] ++ PP ++ [47] ++ DK ++ (if ((x : Int), (y : Int)) ∈ V.ds then [42] else []) := by
        unfold wordP; rw [hPP, hlx, Int.toNat_natCast, hDK]
      have a1 := run_cat [32] PP (by simp) (by omega)
      have a2 := run_cat ([32] ++ PP) [47] (by simp; omega) (by simp)
      have a3 := run_cat ([32] ++ PP ++ [47]) DK (by simp; omega) (by omega)
      obtain ⟨T1, hT1⟩ : ∃ T1, [32] ++ PP = T1 := ⟨_, rfl⟩
      rw [hT1] at a1 a2 a3 hwd
      obtain ⟨T2, hT2⟩ : ∃ T2, T1 ++ [47] = T2 := ⟨_, rfl⟩
      rw [hT2] at a2 a3 hwd
      obtain ⟨T3, hT3⟩ : ∃ T3, T2 ++ DK = T3 := ⟨_, rfl⟩
      rw [hT3] at a3 hwd
      have ht3 : T3.length ≤ 100 := by have := HWL.out; rw [hwd, List.length_append] at this; omega
      have HWD := hid hwd
      obtain ⟨w6, hw6⟩ : ∃ w6, wr.alloc (.cells #[.int .u16 x, .int .u32 y] 25) = w6 := ⟨_, rfl⟩
      have hb6 : Below wr.heap.size wr w6 := by rw [← hw6]; exact (Below.refl _ _).alloc (Nat.le_refl _) _
      have hh6 : w6.heap[wr.heap.size]? = some (.cells #[.int .u16 x, .int .u32 y] 25 (0, 0)) := by rw [← hw6]; exact heap_alloc_new wr _
      have p0 : w6.cell? ⟨wr.heap.size, 0, none⟩ = some (.int .u16 x) := by rw [← hw6]; simp
      have p1 : w6.cell? ⟨wr.heap.size, 1, none⟩ = some (.int .u32 y) := by rw [← hw6]; simp
      have HB6 := hid (hbw.out.trans (hb6.mono hbw.out.size))
      have hbl6 := hbl.out.ext hb6
      have hlt6 : wr.heap.size < w6.heap.size := (Array.getElem?_eq_some_iff.1 hh6).1
      have hne6 : wr.heap.size ≠ w2.heap.size := by
        have h1 := (Array.getElem?_eq_some_iff.1 hbl.out.2.choose_spec.1).1
        omega
      obtain ⟨v0, v1, v2, v3⟩ := HF2.out _ HB6.out
      have HS : Hid (∀ W, Below w6.heap.size w6 W → Below w2.heap.size w2 W ∧ W.cell? ⟨wr.heap.size, 0, none⟩ = some (.int .u16 x) ∧ W.cell? ⟨wr.heap.size, 1, none⟩ = some (.int .u32 y) ∧ W.cell? ⟨w.heap.size, 0, none⟩ = some (.int .u64 i) ∧ W.cell? ⟨w.heap.size, 1, none⟩ = some (.slice (some ⟨b, o, none⟩) V.ms.length cm) ∧ W.cell? ⟨w.heap.size, 2, none⟩ = some (.slice al V.ls.length cl) ∧ W.cell? ⟨w.heap.size, 3, none⟩ = some (.slice ad V.ds.length cd)) := hid fun W h => ⟨HB6.out.trans (h.mono HB6.out.size), cell_toB p0 h, cell_toB p1 h, cell_toB v0 h, cell_toB v1 h, cell_toB v2 h, cell_toB v3 h⟩
      have CP : Hid (∀ W, Below w6.heap.size w6 W → Calls Tryz.prog 27 #[.agg #[.int .u16 x, .int .u32 y]] W fun e w' => e = .returned (.string ⟨PP.toArray⟩) ∧ Below w6.heap.size w6 w') := hid fun W h => by
        refine (print_any hx hy W (HT2.out.ext (HB6.out.trans (h.mono HB6.out.size)))).mono ?_
        rintro e w' ⟨rfl, hb⟩
        exact ⟨by rw [hPP], h.trans (hb.mono h.size)⟩
      have CL : Hid (∀ W, Below w6.heap.size w6 W → Calls Tryz.prog 46 #[.agg #[.int .u64 i, .slice (some ⟨b, o, none⟩) V.ms.length cm, .slice al V.ls.length cl, .slice ad V.ds.length cd], .agg #[.int .u16 x, .int .u32 y]] W fun e w' => e = .returned (.int .i64 kk) ∧ Below w6.heap.size w6 w') := hid fun W h => by
        have := leaf_any V (some ⟨b, o, none⟩) al ad cm cl cd x y W (HV2.out.ext (HB6.out.trans (h.mono HB6.out.size)))
        rw [HI.out, hlx] at this
        refine this.mono ?_
        rintro e w' ⟨rfl, hb⟩
        exact ⟨rfl, h.trans (hb.mono h.size)⟩
      have CI : Hid (∀ W, Below w6.heap.size w6 W → Calls Tryz.prog 57 #[.int .i64 kk] W fun e w' => e = .returned (.string ⟨DK.toArray⟩) ∧ Below w6.heap.size w6 w') := hid fun W h => by
        refine (itoa_any kk hkk W).mono ?_
        rintro e w' ⟨rfl, rfl⟩
        exact ⟨by rw [hDK], h⟩
      have CW : Hid (∀ W, Below w6.heap.size w6 W → Calls Tryz.prog 55 #[.pointer (some ⟨w2.heap.size, 0, none⟩), .string ⟨T3.toArray⟩] W fun e w' => e = .returned (.tuple #[.int .i64 T3.length, .nilIface]) ∧ BldU w2.heap.size w2.heap.size (out ++ T3) w' ∧ Below w2.heap.size w2 w' ∧ w'.heap[wr.heap.size]? = some (.cells #[.int .u16 x, .int .u32 y] 25 (0, 0))) := hid fun W h => by
        have hB := HB6.out.trans (h.mono HB6.out.size)
        refine (bws_any w2.heap.size w2.heap.size out T3 W (.inr (hbl6.ext h)) (by omega) hB.size).mono ?_
        rintro e w' ⟨rfl, h1, h2, h3⟩
        exact ⟨rfl, h1, hB.trans h2, okept h3 ((h.block _ hlt6).trans hh6) hne6 (by decide)⟩
      have H0 : Below w6.heap.size w6 w6.drew := (Below.refl _ _).drew
      have HQ : Hid (∀ W, Below w2.heap.size w2 W → W.heap[wr.heap.size]? = some (.cells #[.int .u16 x, .int .u32 y] 25 (0, 0)) → Below w2.heap.size w2 W ∧ W.cell? ⟨wr.heap.size, 0, none⟩ = some (.int .u16 x) ∧ W.cell? ⟨wr.heap.size, 1, none⟩ = some (.int .u32 y) ∧ W.cell? ⟨w.heap.size, 0, none⟩ = some (.int .u64 i) ∧ W.cell? ⟨w.heap.size, 1, none⟩ = some (.slice (some ⟨b, o, none⟩) V.ms.length cm) ∧ W.cell? ⟨w.heap.size, 2, none⟩ = some (.slice al V.ls.length cl) ∧ W.cell? ⟨w.heap.size, 3, none⟩ = some (.slice ad V.ds.length cd)) := hid fun W h hg => ⟨h, by rw [Lib.cell_of_heap hg]; rfl, by rw [Lib.cell_of_heap hg]; rfl, HF2.out W h⟩
      have HOL : Hid (out.length ≤ 20 + 100 * k) := hid hol
      clear hol hwd ht3 hpl hdl hT1 hT2 hT3 hDK hPP hlx hkk g1 g2 g3 g4 hmem hxy hbl6 hlt6 hne6 hh6 hb6 p0 p1 v0 v1 v2 v3
      go_wp2_with fail
      clear q0 q1 hw6
      go_region_held3 (fun W => Below w2.heap.size w2 W ∧ W.cell? ⟨wr.heap.size, 0, none⟩ = some (.int .u16 x) ∧ W.cell? ⟨wr.heap.size, 1, none⟩ = some (.int .u32 y) ∧ W.cell? ⟨w.heap.size, 0, none⟩ = some (.int .u64 i) ∧ W.cell? ⟨w.heap.size, 1, none⟩ = some (.slice (some ⟨b, o, none⟩) V.ms.length cm) ∧ W.cell? ⟨w.heap.size, 2, none⟩ = some (.slice al V.ls.length cl) ∧ W.cell? ⟨w.heap.size, 3, none⟩ = some (.slice ad V.ds.length cd)) (first | exact HS.out _ H0 | exact HQ.out _ (by assumption) (by assumption) | exact HS.out _ (by assumption)) (first
        | ((go_at_call 27; refine (CP.out _ H0).mono ?_; rintro e wA ⟨rfl, hbA⟩))
        | ((go_at_call 46; refine (CL.out _ hbA).mono ?_; rintro e wB ⟨rfl, hbB⟩))
        | ((go_at_call 57; refine (CI.out _ hbB).mono ?_; rintro e wC ⟨rfl, hbC⟩))
        | ((go_at_call 55; refine (CW.out _ hbC).mono ?_; rintro e wD ⟨rfl, hblD, hbD, hgD⟩)))
      all_goals (
        obtain ⟨-, p0, p1, v0, v1, v2, v3⟩ := HQ.out wD hbD hgD
        have C5 := leads_any V (some ⟨b, o, none⟩) al ad cm cl cd x y wD (HV2.out.ext hbD)
        rw [HI.out] at C5
        have HBL9 : Hid (BldU w2.heap.size w2.heap.size (out ++ T3) wD) := hid hblD
        have HB9 := hid hbD
        clear hbA hbB hbC hblD hbD hgD CP CL CI CW H0 HS a1 a2 a3
        by_cases hd : ((x : Int), (y : Int)) ∈ V.ds
        · rw [decide_eq_true hd] at C5
          have C5 := hid C5
          have HWD2 : Hid (wordP V ((x : Int), (y : Int)) = T3 ++ [42]) := hid (by rw [HWD.out, if_pos hd])
          have HLL : Hid ((out ++ T3 ++ [42]).length ≤ 20 + 100 * (k + 1)) := hid (by
            have h1 := HWL.out
            have h2 := HOL.out
            rw [HWD2.out] at h1
            simp only [List.length_append] at h1 ⊢
            omega)
          clear hd HWD
          go_wp2_with fail
          (refine C5.out.mono ?_)
          rintro e wE ⟨rfl, hbE⟩
          have HBE := hid (HB9.out.trans (hbE.mono HB9.out.size))
          have C6 := hid (bwb_any w2.heap.size w2.heap.size (out ++ T3) 42 wE (.inr (HBL9.out.ext hbE)) (by have := HLL.out; simp only [List.length_append, List.length_cons, List.length_nil] at this ⊢; omega) HBE.out.size)
          rw [show (((42 : UInt8).toNat : Nat) : Int) = 42 from rfl] at C6
          clear hbE C5 p0 p1 v0 v1 v2 v3
          go_wp2_with fail
          (refine C6.out.mono ?_)
          rintro e wF ⟨rfl, hblF, hbF, -⟩
          have HBLF : Hid (BldU w2.heap.size w2.heap.size (out ++ T3 ++ [42]) wF) := hid hblF
          have HBF := hid (HBE.out.trans hbF)
          clear hblF hbF C6
          go_wp2_with fail
          go_roundw
          case rel => exact ⟨k + 1, out ++ T3 ++ [42], by go_num, by omega, HLL.out, hid (by rw [← hf.out, HD.out, HWD2.out]; simp), HBLF, HBF⟩
          case measure => simp [intOf]; omega
        · rw [decide_eq_false hd] at C5
          have C5 := hid C5
          have HWD2 : Hid (wordP V ((x : Int), (y : Int)) = T3) := hid (by rw [HWD.out, if_neg hd, List.append_nil])
          have HLL : Hid ((out ++ T3).length ≤ 20 + 100 * (k + 1)) := hid (by
            have h1 := HWL.out
            have h2 := HOL.out
            rw [HWD2.out] at h1
            simp only [List.length_append] at h1 ⊢
            omega)
          clear hd HWD
          go_wp2_with fail
          (refine C5.out.mono ?_)
          rintro e wE ⟨rfl, hbE⟩
          have HBE := hid (HB9.out.trans (hbE.mono HB9.out.size))
          have HBLE : Hid (BldU w2.heap.size w2.heap.size (out ++ T3) wE) := hid (HBL9.out.ext hbE)
          clear hbE C5 p0 p1 v0 v1 v2 v3
          go_wp2_with fail
          go_roundw
          case rel => exact ⟨k + 1, out ++ T3, by go_num, by omega, HLL.out, hid (by rw [← hf.out, HD.out, HWD2.out]; simp), HBLE, HBE⟩
          case measure => simp [intOf]; omega)
    · have hke : V.ms.drop k = [] := List.drop_eq_nil_of_le (by omega)
      have hres : out = viewP V := by rw [← hf.out, hke]; simp [wordsP]
      have C4 := hid (bst_any w2.heap.size w2.heap.size out wr (.inr hbl.out) hbw.out.size)
      have HR := hid hres
      clear hres hke hol
      go_wp2_with fail
      (refine C4.out.mono ?_)
      rintro e w9 ⟨rfl, hb9⟩
      have HB9 := hid (HB2.out.trans ((hbw.out.trans hb9).mono HB2.out.size))
      clear hb9 C4
      go_wp2_with fail
      rw [HR.out]
      exact bodyPost_ret (v := .tuple #[.string ⟨(viewP V).toArray⟩, .int .i64 0]) (by simp [results, Tryz.results17, go_sem]) rfl ⟨rfl, HB9.out⟩
end Go.Proofs.YtppapeoainafbaaGreatDoor

