/- Parts of the proof: Z6 Z2 Z12 Z13 U2. -/
import Derived.Lib.SlBytesRow
import Derived.Lib.BufferRead
import Derived.Test.YtppapeoainafbaaGreatDoorGMsgTexts17
namespace Go.Proofs.YtppapeoainafbaaGreatDoor
open Go.RowKit
set_option maxRecDepth 100000 in
set_option maxHeartbeats 4000000 in
theorem viewPrint_any {V : View} {i : Nat} {am al ad : Option Addr} {cm cl cd : Nat} {w : World} (hi : V.id = (i : Int)) (hV : ViewR w am al ad V) (hw : WfPids V.ms) (hsum : lens V.ls ≤ 549755813888) (hc : Hid (checkB V = true)) (ht : TabOk w) :
    Calls Tryz.prog 17 #[.agg #[.int .u64 i, .slice am V.ms.length cm, .slice al V.ls.length cl, .slice ad V.ds.length cd]] w fun e w' => e = .returned (.tuple #[.string ⟨(viewP V).toArray⟩, .int .i64 0]) ∧ Below w.heap.size w w' := by
  obtain ⟨hml, hid0, hlf⟩ := check_leaf hc.out
  obtain ⟨W1, hW1⟩ : ∃ W1, w.alloc (.cells #[.int .u64 i, .slice am V.ms.length cm, .slice al V.ls.length cl, .slice ad V.ds.length cd] 33) = W1 := ⟨_, rfl⟩
  have hb1 : Below w.heap.size w W1 := by rw [← hW1]; exact (Below.refl _ _).alloc (Nat.le_refl _) _
  have v0 : W1.cell? ⟨w.heap.size, 0, none⟩ = some (.int .u64 i) := by rw [← hW1]; simp
  have v1 : W1.cell? ⟨w.heap.size, 1, none⟩ = some (.slice am V.ms.length cm) := by rw [← hW1]; simp
  have v2 : W1.cell? ⟨w.heap.size, 2, none⟩ = some (.slice al V.ls.length cl) := by rw [← hW1]; simp
  have v3 : W1.cell? ⟨w.heap.size, 3, none⟩ = some (.slice ad V.ds.length cd) := by rw [← hW1]; simp
  have HB1 := hid hb1
  have HV1 := hid (hV.ext hb1)
  have HT1 := hid (ht.ext hb1)
  have HW := hid hw
  have HLF := hid hlf
  have C1 := hid (check_is (cm := cm) (cl := cl) (cd := cd) hc (k := 0) rfl (hV.ext hb1) hsum)
  rw [hi] at C1
  have HI := hid hi
  clear hb1 hV ht hw hlf hsum
  go_enter Tryz.func17, Tryz.ntmps17
  go_wp2_with fail
  (refine C1.out.mono ?_)
  rintro e w2 ⟨rfl, hb2⟩
  have HB2 := hid (HB1.out.trans (hb2.mono HB1.out.size))
  have v0 := cell_toB v0 hb2
  have v1 := cell_toB v1 hb2
  have v2 := cell_toB v2 hb2
  have v3 := cell_toB v3 hb2
  have HV2 := hid (HV1.out.ext hb2)
  have HT2 := hid (HT1.out.ext hb2)
  clear hb2 C1 hW1 HV1 HT1 hc
  have lt0 := World.block_lt_of_cell? w2 _ v0
  obtain ⟨w3, hw3⟩ : ∃ w3, w2.alloc (.cells #[.pointer none, .slice none 0 0] 95) = w3 := ⟨_, rfl⟩
  have hbl3 : Bld w2.heap.size w2.heap.size [] w3 := by rw [← hw3]; exact Lib.fresh_isBuilder _ _ w2
  have hb3 : Below w2.heap.size w2 w3 := by rw [← hw3]; exact (Below.refl _ _).alloc (Nat.le_refl _) _
  have HF2 : Hid (∀ W, Below w2.heap.size w2 W → W.cell? ⟨w.heap.size, 0, none⟩ = some (.int .u64 i) ∧ W.cell? ⟨w.heap.size, 1, none⟩ = some (.slice am V.ms.length cm) ∧ W.cell? ⟨w.heap.size, 2, none⟩ = some (.slice al V.ls.length cl) ∧ W.cell? ⟨w.heap.size, 3, none⟩ = some (.slice ad V.ds.length cd)) := hid fun W h => ⟨cell_toB v0 h, cell_toB v1 h, cell_toB v2 h, cell_toB v3 h⟩
  have v0 := cell_toB v0 hb3
  have v1 := cell_toB v1 hb3
  have C2 := hid (fmt_any i (by have := hid0.2; omega) w3 (HT2.out.ext hb3))
  have HB3 := hid hb3
  have HBL3 := hid hbl3
  clear hbl3 hb3 v2 v3
  go_wp2_with fail
  (refine C2.out.mono ?_)
  rintro e w4 ⟨rfl, hb4⟩
  have HB4 := hid (HB3.out.trans (hb4.mono HB3.out.size))
  have hdl := dec_len i 19 (by have := hid0.2; omega)
  have BL4 : Bld w2.heap.size w2.heap.size [] w4 := Bld.extB HBL3.out hb4
  have C3 := hid (bws_any w2.heap.size w2.heap.size [] (Lib.decDigits i) w4 BL4 (by simp; omega) HB4.out.size)
  clear hb4 C2 BL4 HBL3 hw3
  go_wp2_with fail
  (refine C3.out.mono ?_)
  rintro e w5 ⟨rfl, bl5, hb5, -⟩
  have HB5 := hid (HB4.out.trans hb5)
  have HBL5 : Hid (BldU w2.heap.size w2.heap.size (Lib.decDigits i) w5) := hid bl5
  obtain ⟨v0, v1, v2, v3⟩ := HF2.out _ HB5.out
  have HDL := hid hdl
  clear hb5 C3 bl5 hdl v0 v2 v3
  go_wp2_with fail
  clear v1
  go_loopw [6, 17] (fun u iv wr => ∃ (k : Nat) (out : Str), iv = .int .i64 k ∧ k ≤ V.ms.length ∧ out.length ≤ 20 + 100 * k ∧ Hid (out ++ wordsP V (V.ms.drop k) = viewP V) ∧ Hid (BldU w2.heap.size w2.heap.size out wr) ∧ Hid (Below w2.heap.size w2 wr)) (fun _ iv _ => V.ms.length - (intOf iv).toNat)
  case atStart => exact ⟨0, Lib.decDigits i, rfl, Nat.zero_le _, by have := HDL.out; omega, hid (by unfold viewP; rw [HI.out]; rfl), HBL5, HB5⟩
  case round =>
    obtain ⟨k, out, rfl, hk, hol, hf, hbl, hbw⟩ := hrel
    clear HBL5 HB5 HB3 HB4 HDL
    by_cases hlt : k < V.ms.length
    · obtain ⟨b, o, x, y, rfl, hxy, q0, q1⟩ := HV2.out.ms.at hbw.out rfl hlt
      have hmem : (x, y) ∈ V.ms := by rw [hxy]; exact List.getElem_mem hlt
      obtain ⟨g1, g2, g3, g4⟩ := HW.out (x, y) hmem
      obtain ⟨kk, hkk, hlx⟩ := HLF.out (x, y) hmem
      simp only at g1 g2 g3 g4
      obtain ⟨x, rfl⟩ := Int.eq_ofNat_of_zero_le g1
      obtain ⟨y, rfl⟩ := Int.eq_ofNat_of_zero_le g3
      have hx : x < 65536 := by omega
      have hy : y < 4294967296 := by omega
      have HD := hid (wordsP_drop V hlt hxy)
      have HWL := hid (wordP_len hx hy hkk hlx)
      obtain ⟨PP, hPP⟩ : ∃ PP, printP ((x : Int), (y : Int)) = PP := ⟨_, rfl⟩
      obtain ⟨DK, hDK⟩ : ∃ DK, Lib.decDigits kk = DK := ⟨_, rfl⟩
      have hpl : PP.length ≤ 50 := by
        obtain ⟨l0, l1⟩ := printP_len hx hy
        rw [← hPP]; unfold printP; simp only [Int.toNat_natCast, List.length_append, List.length_cons]; omega
      have hdl : DK.length ≤ 3 := by rw [← hDK]; exact dec_len kk 2 (by omega)
      have hwd : wordP V ((x : Int), (y : Int)) = [32] ++ PP ++ [47] ++ DK ++ (if ((x : Int), (y : Int)) ∈ V.ds then [42] else []) := by
        unfold wordP; rw [hPP, hlx, Int.toNat_natCast, hDK]
      have a1 := run_cat [32] PP (by simp) (by omega)
      have a2 := run_cat ([32] ++ PP) [47] (by simp; omega) (by simp)
      have a3 := run_cat ([32] ++ PP ++ [47]) DK (by simp; omega) (by omega)
      obtain ⟨T1, hT1⟩ : ∃ T1, [32] ++ PP = T1 := ⟨_, rfl⟩
      rw [hT1] at a1 a2 a3 hwd
      obtain ⟨T2, hT2⟩ : ∃ T2, T1 ++ [47] = T2 := ⟨_, rfl⟩
      rw [hT2] at a2 a3 hwd
      obtain ⟨T3, hT3⟩ : ∃ T3, T2 ++ DK = T3 := ⟨_, rfl⟩
      rw [hT3] at a3 hwd
      have ht3 : T3.length ≤ 100 := by have := HWL.out; rw [hwd, List.length_append] at this; omega
      have HWD := hid hwd
      obtain ⟨w6, hw6⟩ : ∃ w6, wr.alloc (.cells #[.int .u16 x, .int .u32 y] 25) = w6 := ⟨_, rfl⟩
      have hb6 : Below wr.heap.size wr w6 := by rw [← hw6]; exact (Below.refl _ _).alloc (Nat.le_refl _) _
      have hh6 : w6.heap[wr.heap.size]? = some (.cells #[.int .u16 x, .int .u32 y] 25 (0, 0)) := by rw [← hw6]; exact heap_alloc_new wr _
      have p0 : w6.cell? ⟨wr.heap.size, 0, none⟩ = some (.int .u16 x) := by rw [← hw6]; simp
      have p1 : w6.cell? ⟨wr.heap.size, 1, none⟩ = some (.int .u32 y) := by rw [← hw6]; simp
      have HB6 := hid (hbw.out.trans (hb6.mono hbw.out.size))
      have hbl6 := hbl.out.ext hb6
      have hlt6 : wr.heap.size < w6.heap.size := (Array.getElem?_eq_some_iff.1 hh6).1
      have hne6 : wr.heap.size ≠ w2.heap.size := by
        have h1 := (Array.getElem?_eq_some_iff.1 hbl.out.2.choose_spec.1).1
        omega
      obtain ⟨v0, v1, v2, v3⟩ := HF2.out _ HB6.out
      have HS : Hid (∀ W, Below w6.heap.size w6 W → Below w2.heap.size w2 W ∧ W.cell? ⟨wr.heap.size, 0, none⟩ = some (.int .u16 x) ∧ W.cell? ⟨wr.heap.size, 1, none⟩ = some (.int .u32 y) ∧ W.cell? ⟨w.heap.size, 0, none⟩ = some (.int .u64 i) ∧ W.cell? ⟨w.heap.size, 1, none⟩ = some (.slice (some ⟨b, o, none⟩) V.ms.length cm) ∧ W.cell? ⟨w.heap.size, 2, none⟩ = some (.slice al V.ls.length cl) ∧ W.cell? ⟨w.heap.size, 3, none⟩ = some (.slice ad V.ds.length cd)) := hid fun W h => ⟨HB6.out.trans (h.mono HB6.out.size), cell_toB p0 h, cell_toB p1 h, cell_toB v0 h, cell_toB v1 h, cell_toB v2 h, cell_toB v3 h⟩
      have CP : Hid (∀ W, Below w6.heap.size w6 W → Calls Tryz.prog 27 #[.agg #[.int .u16 x, .int .u32 y]] W fun e w' => e = .returned (.string ⟨PP.toArray⟩) ∧ Below w6.heap.size w6 w') := hid fun W h => by
        refine (print_any hx hy W (HT2.out.ext (HB6.out.trans (h.mono HB6.out.size)))).mono ?_
        rintro e w' ⟨rfl, hb⟩
        exact ⟨by rw [hPP], h.trans (hb.mono h.size)⟩
      have CL : Hid (∀ W, Below w6.heap.size w6 W → Calls Tryz.prog 46 #[.agg #[.int .u64 i, .slice (some ⟨b, o, none⟩) V.ms.length cm, .slice al V.ls.length cl, .slice ad V.ds.length cd], .agg #[.int .u16 x, .int .u32 y]] W fun e w' => e = .returned (.int .i64 kk) ∧ Below w6.heap.size w6 w') := hid fun W h => by
        have := leaf_any V (some ⟨b, o, none⟩) al ad cm cl cd x y W (HV2.out.ext (HB6.out.trans (h.mono HB6.out.size)))
        rw [HI.out, hlx] at this
        refine this.mono ?_
        rintro e w' ⟨rfl, hb⟩
        exact ⟨rfl, h.trans (hb.mono h.size)⟩
      have CI : Hid (∀ W, Below w6.heap.size w6 W → Calls Tryz.prog 57 #[.int .i64 kk] W fun e w' => e = .returned (.string ⟨DK.toArray⟩) ∧ Below w6.heap.size w6 w') := hid fun W h => by
        refine (itoa_any kk hkk W).mono ?_
        rintro e w' ⟨rfl, rfl⟩
        exact ⟨by rw [hDK], h⟩
      have CW : Hid (∀ W, Below w6.heap.size w6 W → Calls Tryz.prog 55 #[.pointer (some ⟨w2.heap.size, 0, none⟩), .string ⟨T3.toArray⟩] W fun e w' => e = .returned (.tuple #[.int .i64 T3.length, .nilIface]) ∧ BldU w2.heap.size w2.heap.size (out ++ T3) w' ∧ Below w2.heap.size w2 w' ∧ w'.heap[wr.heap.size]? = some (.cells #[.int .u16 x, .int .u32 y] 25 (0, 0))) := hid fun W h => by
        have hB := HB6.out.trans (h.mono HB6.out.size)
        refine (bws_any w2.heap.size w2.heap.size out T3 W (.inr (hbl6.ext h)) (by omega) hB.size).mono ?_
        rintro e w' ⟨rfl, h1, h2, h3⟩
        exact ⟨rfl, h1, hB.trans h2, okept h3 ((h.block _ hlt6).trans hh6) hne6 (by decide)⟩
      have H0 : Below w6.heap.size w6 w6.drew := (Below.refl _ _).drew
      have HQ : Hid (∀ W, Below w2.heap.size w2 W → W.heap[wr.heap.size]? = some (.cells #[.int .u16 x, .int .u32 y] 25 (0, 0)) → Below w2.heap.size w2 W ∧ W.cell? ⟨wr.heap.size, 0, none⟩ = some (.int .u16 x) ∧ W.cell? ⟨wr.heap.size, 1, none⟩ = some (.int .u32 y) ∧ W.cell? ⟨w.heap.size, 0, none⟩ = some (.int .u64 i) ∧ W.cell? ⟨w.heap.size, 1, none⟩ = some (.slice (some ⟨b, o, none⟩) V.ms.length cm) ∧ W.cell? ⟨w.heap.size, 2, none⟩ = some (.slice al V.ls.length cl) ∧ W.cell? ⟨w.heap.size, 3, none⟩ = some (.slice ad V.ds.length cd)) := hid fun W h hg => ⟨h, by rw [Lib.cell_of_heap hg]; rfl, by rw [Lib.cell_of_heap hg]; rfl, HF2.out W h⟩
      have HOL : Hid (out.length ≤ 20 + 100 * k) := hid hol
      clear hol hwd ht3 hpl hdl hT1 hT2 hT3 hDK hPP hlx hkk g1 g2 g3 g4 hmem hxy hbl6 hlt6 hne6 hh6 hb6 p0 p1 v0 v1 v2 v3
      go_wp2_with fail
      clear q0 q1 hw6
      go_region_held3 (fun W => Below w2.heap.size w2 W ∧ W.cell? ⟨wr.heap.size, 0, none⟩ = some (.int .u16 x) ∧ W.cell? ⟨wr.heap.size, 1, none⟩ = some (.int .u32 y) ∧ W.cell? ⟨w.heap.size, 0, none⟩ = some (.int .u64 i) ∧ W.cell? ⟨w.heap.size, 1, none⟩ = some (.slice (some ⟨b, o, none⟩) V.ms.length cm) ∧ W.cell? ⟨w.heap.size, 2, none⟩ = some (.slice al V.ls.length cl) ∧ W.cell? ⟨w.heap.size, 3, none⟩ = some (.slice ad V.ds.length cd)) (first | exact HS.out _ H0 | exact HQ.out _ (by assumption) (by assumption) | exact HS.out _ (by assumption)) (first
        | ((go_at_call 27; refine (CP.out _ H0).mono ?_; rintro e wA ⟨rfl, hbA⟩))
        | ((go_at_call 46; refine (CL.out _ hbA).mono ?_; rintro e wB ⟨rfl, hbB⟩))
        | ((go_at_call 57; refine (CI.out _ hbB).mono ?_; rintro e wC ⟨rfl, hbC⟩))
        | ((go_at_call 55; refine (CW.out _ hbC).mono ?_; rintro e wD ⟨rfl, hblD, hbD, hgD⟩)))
      all_goals (
        obtain ⟨-, p0, p1, v0, v1, v2, v3⟩ := HQ.out wD hbD hgD
        have C5 := leads_any V (some ⟨b, o, none⟩) al ad cm cl cd x y wD (HV2.out.ext hbD)
        rw [HI.out] at C5
        have HBL9 : Hid (BldU w2.heap.size w2.heap.size (out ++ T3) wD) := hid hblD
        have HB9 := hid hbD
        clear hbA hbB hbC hblD hbD hgD CP CL CI CW H0 HS a1 a2 a3
        by_cases hd : ((x : Int), (y : Int)) ∈ V.ds
        · rw [decide_eq_true hd] at C5
          have C5 := hid C5
          have HWD2 : Hid (wordP V ((x : Int), (y : Int)) = T3 ++ [42]) := hid (by rw [HWD.out, if_pos hd])
          have HLL : Hid ((out ++ T3 ++ [42]).length ≤ 20 + 100 * (k + 1)) := hid (by
            have h1 := HWL.out
            have h2 := HOL.out
            rw [HWD2.out] at h1
            simp only [List.length_append] at h1 ⊢
            omega)
          clear hd HWD
          go_wp2_with fail
          (refine C5.out.mono ?_)
          rintro e wE ⟨rfl, hbE⟩
          have HBE := hid (HB9.out.trans (hbE.mono HB9.out.size))
          have C6 := hid (bwb_any w2.heap.size w2.heap.size (out ++ T3) 42 wE (.inr (HBL9.out.ext hbE)) (by have := HLL.out; simp only [List.length_append, List.length_cons, List.length_nil] at this ⊢; omega) HBE.out.size)
          rw [show (((42 : UInt8).toNat : Nat) : Int) = 42 from rfl] at C6
          clear hbE C5 p0 p1 v0 v1 v2 v3
          go_wp2_with fail
          (refine C6.out.mono ?_)
          rintro e wF ⟨rfl, hblF, hbF, -⟩
          have HBLF : Hid (BldU w2.heap.size w2.heap.size (out ++ T3 ++ [42]) wF) := hid hblF
          have HBF := hid (HBE.out.trans hbF)
          clear hblF hbF C6
          go_wp2_with fail
          go_roundw
          case rel => exact ⟨k + 1, out ++ T3 ++ [42], by go_num, by omega, HLL.out, hid (by rw [← hf.out, HD.out, HWD2.out]; simp), HBLF, HBF⟩
          case measure => simp [intOf]; omega
        · rw [decide_eq_false hd] at C5
          have C5 := hid C5
          have HWD2 : Hid (wordP V ((x : Int), (y : Int)) = T3) := hid (by rw [HWD.out, if_neg hd, List.append_nil])
          have HLL : Hid ((out ++ T3).length ≤ 20 + 100 * (k + 1)) := hid (by
            have h1 := HWL.out
            have h2 := HOL.out
            rw [HWD2.out] at h1
            simp only [List.length_append] at h1 ⊢
            omega)
          clear hd HWD
          go_wp2_with fail
          (refine C5.out.mono ?_)
          rintro e wE ⟨rfl, hbE⟩
          have HBE := hid (HB9.out.trans (hbE.mono HB9.out.size))
          have HBLE : Hid (BldU w2.heap.size w2.heap.size (out ++ T3) wE) := hid (HBL9.out.ext hbE)
          clear hbE C5 p0 p1 v0 v1 v2 v3
          go_wp2_with fail
          go_roundw
          case rel => exact ⟨k + 1, out ++ T3, by go_num, by omega, HLL.out, hid (by rw [← hf.out, HD.out, HWD2.out]; simp), HBLE, HBE⟩
          case measure => simp [intOf]; omega)
    · have hke : V.ms.drop k = [] := List.drop_eq_nil_of_le (by omega)
      have hres : out = viewP V := by rw [← hf.out, hke]; simp [wordsP]
      have C4 := hid (bst_any w2.heap.size w2.heap.size out wr (.inr hbl.out) hbw.out.size)
      have HR := hid hres
      clear hres hke hol
      go_wp2_with fail
      (refine C4.out.mono ?_)
      rintro e w9 ⟨rfl, hb9⟩
      have HB9 := hid (HB2.out.trans ((hbw.out.trans hb9).mono HB2.out.size))
      clear hb9 C4
      go_wp2_with fail
      rw [HR.out]
      exact bodyPost_ret (v := .tuple #[.string ⟨(viewP V).toArray⟩, .int .i64 0]) (by simp [results, Tryz.results17, go_sem]) rfl ⟨rfl, HB9.out⟩
end Go.Proofs.YtppapeoainafbaaGreatDoor

namespace Go.Proofs.YtppapeoainafbaaGreatDoor
open Go.RowKit
/-! ### bits.Hex -/
theorem run_make2 (w : World) (n : Nat) (h : n ≤ 1000000) : (Instr.makeSlice 29 (.int .i64 0) (.int .i64 (2 * (n : Int)))).run Tryz.prog w = .ok (.slice (some ⟨w.heap.size, 0, none⟩) 0 (2 * n)) (w.alloc (.cells (madeCells #[.int .u8 0] (2 * n)) 5)) := by
  obtain ⟨i0, hi, hz0, hz1, hz2⟩ := info_parts infoB
  have := run_make (P := Tryz.prog) w 29 5 i0 (.int .u8 0) Tryz.underlying29 hi hz0 .i64 .i64 (0 : Nat) (2 * (n : Int)) (by omega) (by omega) (by rw [hz2]; omega) (by omega)
  rw [hz1] at this
  have e1 : (2 * (n : Int)).toNat = 2 * n := by omega
  rw [e1] at this
  simpa [Value.cells] using this
theorem ByteRow.twoZ (w : World) (x y : Nat) : ByteRow (w.alloc (.cells #[.int .u8 x, .int .u8 y] 5)) (some ⟨w.heap.size, 0, none⟩) [x, y] :=
  .inr ⟨w.heap.size, 0, rfl, by simp, fun i hi => by
    have : i = 0 ∨ i = 1 := by simp at hi; omega
    rcases this with rfl | rfl <;> simp⟩
def natsOf (s : Str) : List Nat := s.map (·.toNat)
theorem run_bytes_str {w : World} {a : Option Addr} {c n : Nat} {s : Str} (hr : ByteRow w a (natsOf s)) (hn : s.length = n) : (convert 29 9 (.slice a n c)).run Tryz.prog w = .ok (.string ⟨s.toArray⟩) w := by
  subst hn
  have hz : (⟨s.toArray⟩ : ByteArray).size = s.length := by show s.toArray.size = _; simp
  have nil : ∀ b, s = [] → a = some b → (convert 29 9 (.slice a s.length c)).run Tryz.prog w = .ok (.string ⟨s.toArray⟩) w := by
    rintro ad rfl rfl
    rw [run_convert_bytes_string w _ _ 5 _ _ c Tryz.underlying29 Tryz.underlying5 Tryz.underlying9]
    have h0 : (loadCells ad 0).run Tryz.prog w = .ok (([] : List Int).map (Value.int .u8)).toArray w := run_loadCells_list (w := w) ad [] (by simp)
    have := run_bytesToString w ad 0 c [] h0
    exact this
  cases a with
  | none =>
    rcases hr with h | ⟨b, off, e, -⟩
    · have hs : s = [] := by simpa [natsOf] using h
      subst hs
      exact Lib.run_convert_nil_bytes w _ _ 5 c Tryz.underlying29 Tryz.underlying5 Tryz.underlying9
    · cases e
  | some ad =>
    rcases hr with h | ⟨b, off, e, hlt, hc⟩
    · exact nil ad (by simpa [natsOf] using h) rfl
    · cases e
      have := Lib.run_convert_whole (P := Tryz.prog) w 29 5 9 Tryz.underlying29 Tryz.underlying5 Tryz.underlying9 b off ⟨s.toArray⟩ (fun i hi => by
        have := hc i (by rw [hz] at hi; simpa [natsOf] using hi)
        rw [this]
        simp [natsOf]; rfl) c
      rw [hz] at this
      exact this
theorem run_hexI (n : Nat) (h : n < 16) (W : World) : (Instr.index 9 (.string ⟨#[48, 49, 50, 51, 52, 53, 54, 55, 56, 57, 97, 98, 99, 100, 101, 102]⟩) (.int .u8 (n : Int))).run Tryz.prog W = .ok (.int .u8 ((hexD n).toNat : Int)) W := by
  have hz : (⟨#[48, 49, 50, 51, 52, 53, 54, 55, 56, 57, 97, 98, 99, 100, 101, 102]⟩ : ByteArray).size = 16 := rfl
  rw [run_index_string W 9 _ .u8 _ Tryz.underlying9, dif_pos (by rw [hz]; omega)]
  have : n = 0 ∨ n = 1 ∨ n = 2 ∨ n = 3 ∨ n = 4 ∨ n = 5 ∨ n = 6 ∨ n = 7 ∨ n = 8 ∨ n = 9 ∨ n = 10 ∨ n = 11 ∨ n = 12 ∨ n = 13 ∨ n = 14 ∨ n = 15 := by omega
  rcases this with rfl | rfl | rfl | rfl | rfl | rfl | rfl | rfl | rfl | rfl | rfl | rfl | rfl | rfl | rfl | rfl <;> rfl
set_option maxHeartbeats 3200000 in
theorem hex_any {a : Option Addr} {c n : Nat} {bs : List Nat} {w : World} (hn : Hid (bs.length = n)) (hnl : n ≤ 1000000) (hb : ∀ b ∈ bs, b < 256) (hx : ByteRow w a bs) :
    Calls Tryz.prog 31 #[.slice a n c] w fun e w' => e = .returned (.string ⟨(hexP bs).toArray⟩) ∧ Below w.heap.size w w' := by
  have HX := hid hx
  have HB := hid hb
  clear hx hb
  have hmk := fun W => run_make2 W n hnl
  have i1 : IntKind.i64.wrap (2 * (n : Int)) = 2 * (n : Int) := by rw [IntKind.wrap_i64]; omega
  go_enter Tryz.func31, Tryz.ntmps31
  go_wp2_with fail
  clear hmk
  have HO0 : Hid (OwnB (w.alloc (.cells (madeCells #[.int .u8 0] (2 * n)) 5)) w.heap.size (.slice (some ⟨w.heap.size, 0, none⟩) 0 (2 * n)) []) := hid (World.ownsRow_made (w := w) _ _ (Nat.le_refl _) (by unfold maxLen; omega) (by simp [size_madeCells]))
  have HB0 : Hid (Below w.heap.size w (w.alloc (.cells (madeCells #[.int .u8 0] (2 * n)) 5))) := hid ((Below.refl _ _).alloc (Nat.le_refl _) _)
  go_loopw [3, 12] (fun v iv wr => ∃ (out : Str) (k : Nat), iv = .int .i64 k ∧ k ≤ n ∧ out.length ≤ 2 * k ∧ Hid (out ++ hexP (bs.drop k) = hexP bs) ∧ Hid (OwnB wr w.heap.size v (natsOf out)) ∧ Hid (Below w.heap.size w wr)) (fun _ iv _ => n - (intOf iv).toNat)
  case atStart => exact ⟨[], 0, rfl, Nat.zero_le _, by simp, hid rfl, HO0, HB0⟩
  case round =>
    obtain ⟨out, k, rfl, hk, hol, hf, hown, hbw⟩ := hrel
    clear HO0 HB0
    by_cases hlt : k < n
    · have hk1 : k < bs.length := by rw [hn.out]; exact hlt
      obtain ⟨b, o, x, rfl, hxk, q0⟩ := HX.out.at hbw.out rfl hk1
      have hx256 : x < 256 := by rw [hxk]; exact HB.out _ (List.getElem_mem hk1)
      have HD := hid (hexP_drop hk1 hxk)
      have hol2 : (out ++ [hexD (x / 16)] ++ [hexD (x % 16)]).length ≤ 2 * (k + 1) := by simp; omega
      have HO := hid hol2
      have HLN : Hid ((natsOf out).length ≤ 2000000) := hid (by simp [natsOf]; omega)
      have HSZ := hid hbw.out.size
      clear hxk hol hol2
      go_wp2_with fail
      have UI1 := run_hexI (x / 16) (by omega)
      have UI2 := run_hexI (x % 16) (by omega)
      have e1 : ((x / 16 : Nat) : Int) = (x : Int) / 16 := by omega
      have e2 : ((x % 16 : Nat) : Int) = (x : Int) % 16 := by omega
      have e3 : bits .and .u8 (x : Int) 15 = (x : Int) % 16 := by
        have := u8_and_nat x 15 hx256 (by omega)
        rw [show ((15 : Nat) : Int) = 15 from rfl] at this
        rw [this, show x &&& 15 = x % 16 from Nat.and_two_pow_sub_one_eq_mod x 4]; omega
      rw [e1] at UI1
      rw [e2] at UI2
      obtain ⟨h1, eh1⟩ : ∃ h1, (hexD (x / 16)).toNat = h1 := ⟨_, rfl⟩
      obtain ⟨h2, eh2⟩ : ∃ h2, (hexD (x % 16)).toNat = h2 := ⟨_, rfl⟩
      rw [eh1] at UI1
      rw [eh2] at UI2
      have hq := (Below.refl wr.heap.size wr).alloc (Nat.le_refl _) (.cells #[.int .u8 h1, .int .u8 h2] 5)
      have HO1 : Hid (OwnB (wr.alloc (.cells #[.int .u8 h1, .int .u8 h2] 5)).drew w.heap.size u3 (natsOf out)) := hid ((hown.out.ext hq).ext (Below.refl _ _).drew)
      have HR1 : Hid (ByteRow (wr.alloc (.cells #[.int .u8 h1, .int .u8 h2] 5)).drew (some ⟨wr.heap.size, 0, none⟩) [h1, h2]) := hid ((ByteRow.twoZ wr h1 h2).ext (Below.refl _ _).drew)
      have H0 : Below w.heap.size w wr := hbw.out
      have H0' : Below w.heap.size w wr.drew := hbw.out.drew
      have H1 : Below w.heap.size w (wr.alloc (.cells #[.int .u8 h1, .int .u8 h2] 5)).drew := (hbw.out.alloc hbw.out.size _).drew
      have EH : Hid (natsOf (out ++ [hexD (x / 16)] ++ [hexD (x % 16)]) = natsOf out ++ [h1, h2]) := hid (by simp [natsOf, eh1, eh2])
      clear e1 e2 eh1 eh2 hq
      go_region_held3 (fun W => Below w.heap.size w W) (first | exact H0 | exact H0' | exact H1 | assumption) (first | ((refine step_appendB (by rfl) HO1.out HR1.out (hid rfl) (by simp; have := HLN.out; omega) (by simp; have := HSZ.out; omega) rfl rfl rfl ?_; intro v2 w2 hown2 hg2; have hb2 : Below w.heap.size w w2 := below_of_grown H1 hg2 HO1.out (by simp; have := HSZ.out; omega) (Nat.le_refl _))))
      all_goals (
        have HO2 : Hid (OwnB w2 w.heap.size v2 (natsOf (out ++ [hexD (x / 16)] ++ [hexD (x % 16)]))) := hid (by rw [EH.out]; exact hown2)
        have HB2 := hid hb2
        clear hown2 hg2 hb2 H0 H0' H1 UI1 UI2 q0 e3
        go_wp2_with fail
        go_roundw
        case rel => exact ⟨out ++ [hexD (x / 16)] ++ [hexD (x % 16)], k + 1, by go_num, by omega, HO.out, hid (by rw [← hf.out, HD.out, List.append_assoc, List.append_assoc]), HO2, HB2⟩
        case measure => simp [intOf]; omega)
    · have hke : bs.drop k = [] := List.drop_eq_nil_of_le (by rw [hn.out]; omega)
      have hres : out = hexP bs := by rw [← hf.out, hke]; simp [hexP]
      subst hres
      obtain ⟨a1, c1, rfl, hr1, -⟩ := hown.out.row
      have hl1 : (natsOf (hexP bs)).length = 2 * n := by unfold natsOf; rw [List.length_map, hexP_len, hn.out]
      rw [hl1]
      have hcv := run_bytes_str (c := c1) hr1 (n := 2 * n) (by rw [hexP_len, hn.out])
      clear hl1 hr1 hown
      go_wp2_with fail
      go_ret
      exact ⟨rfl, hbw.out⟩
end Go.Proofs.YtppapeoainafbaaGreatDoor

namespace Go.Proofs.YtppapeoainafbaaGreatDoor
open Go.RowKit
/-! ### cmd.Text -/
theorem words_len {V : View} : ∀ {l : List Pid}, WfPids l → (∀ p ∈ l, ∃ k : Nat, k < 100 ∧ leafIx V.ls p = (k : Int)) → (wordsP V l).length ≤ 100 * l.length
  | [], _, _ => by simp [wordsP]
  | p :: l, hl, hk => by
    obtain ⟨g1, g2, g3, g4⟩ := hl p (List.mem_cons_self ..)
    obtain ⟨k, h1, h2⟩ := hk p (List.mem_cons_self ..)
    obtain ⟨x, y⟩ := p
    simp only at g1 g2 g3 g4
    obtain ⟨x, rfl⟩ := Int.eq_ofNat_of_zero_le g1
    obtain ⟨y, rfl⟩ := Int.eq_ofNat_of_zero_le g3
    have := wordP_len (V := V) (x := x) (y := y) (by omega) (by omega) h1 h2
    have ih := words_len (V := V) (l := l) (fun q hq => hl q (List.mem_cons_of_mem _ hq)) (fun q hq => hk q (List.mem_cons_of_mem _ hq))
    unfold wordsP
    rw [List.length_append, List.length_cons]
    omega
theorem viewP_len {V : View} (h : checkB V = true) (hw : WfPids V.ms) : (viewP V).length ≤ 3000 := by
  obtain ⟨h1, h2, h3⟩ := check_leaf h
  have l1 := words_len hw h3
  have l2 := dec_len V.id.toNat 19 (by omega)
  unfold viewP
  rw [List.length_append]
  omega
set_option maxRecDepth 100000 in
set_option maxHeartbeats 6400000 in
theorem cmdText_any {A : CmdD} {da am al ad : Option Addr} {dc cm cl cd : Nat} {w : World} (hA : CmdR w da am al ad A) (hsum : lens A.v.ls ≤ 549755813888) (hwf : WfPids A.v.ms) (hfr : okP A.fr) (hdl : A.data.length ≤ 400) (ht : TabOk w) :
    Calls Tryz.prog 30 #[.agg (cmdL da am al ad dc cm cl cd A)] w fun e w' => e = .returned (.string ⟨(textP A).toArray⟩) ∧ Below w.heap.size w w' := by
  obtain ⟨W1, hW1⟩ : ∃ W1, w.alloc (.cells (cmdL da am al ad dc cm cl cd A) 35) = W1 := ⟨_, rfl⟩
  have hb1 : Below w.heap.size w W1 := by rw [← hW1]; exact (Below.refl _ _).alloc (Nat.le_refl _) _
  have xA : CmdBox W1 w.heap.size A da am al ad dc cm cl cd := by rw [← hW1]; exact CmdBox.made (c := A) w
  have hA1 := hA.ext hb1
  have C1 := hid (cmdCheck_any (dc := dc) (cm := cm) (cl := cl) (cd := cd) hA1 hsum hwf hfr)
  have hl : ∀ (x : CmdD) (da am al ad : Option Addr) (dc cm cl cd : Nat), cmdL da am al ad dc cm cl cd x = #[.int .i64 x.kind, .int .u16 x.fr.1, .int .u32 x.fr.2, .int .u64 x.num, .int .u64 x.vw, .slice da x.data.length dc, .int .u64 x.v.id, .slice am x.v.ms.length cm, .slice al x.v.ls.length cl, .slice ad x.v.ds.length cd] := fun _ _ _ _ _ _ _ _ _ => rfl
  simp only [hl] at C1 hW1 ⊢
  obtain ⟨a0, a1, a2, a3, a4, a5, a6, a7, a8, a9⟩ := id xA
  have HB1 := hid hb1
  have HA1 := hid hA1
  have HT1 := hid (ht.ext hb1)
  have HX := hid xA
  obtain ⟨ck, hck⟩ : ∃ ck, cmdChk A = ck := ⟨_, rfl⟩
  rw [hck] at C1
  clear hb1 hA hA1 ht xA hl
  by_cases h0 : ck = 0
  · subst h0
    have HCK := hid hck
    clear hck
    rcases chk_kind HCK.out with hk | hk | hk
    · have HR := hid (text_1 HCK.out hk)
      have k2 : (A.kind == 2) = false := by rw [hk]; rfl
      have k3 : (A.kind == 3) = false := by rw [hk]; rfl
      clear hk
      go_enter Tryz.func30, Tryz.ntmps30
      go_wp2_with fail
      (refine C1.out.mono ?_)
      rintro e w2 ⟨rfl, hb2⟩
      have HB2 := hid (HB1.out.trans (hb2.mono HB1.out.size))
      obtain ⟨a0, -, -, -, -, -, -, -, -, -⟩ := HX.out.ext hb2 HX.out.lt
      clear hb2 C1 hW1
      go_wp2_with fail
      go_ret
      exact ⟨by rw [HR.out]; rfl, HB2.out⟩
    · have HR := hid (text_2 HCK.out hk)
      have k2 : (A.kind == 2) = true := by rw [hk]; rfl
      have hcnt : A.num ≤ 4611686018427387904 ∧ A.vw ≤ 4611686018427387904 := by
        have h := HCK.out
        unfold cmdChk at h
        rw [if_neg (by omega), if_pos hk] at h
        split at h
        · next hc =>
          have h1 := hc.2.1
          have h2 := hc.2.2.1
          unfold cntB at h1 h2
          simp at h1 h2
          omega
        · cases h
      obtain ⟨fx1, fx2, fy1, fy2⟩ := hfr
      have ex : ((A.fr.1.toNat : Nat) : Int) = A.fr.1 := Int.toNat_of_nonneg fx1
      have ey : ((A.fr.2.toNat : Nat) : Int) = A.fr.2 := Int.toNat_of_nonneg fy1
      have hpl : (printP A.fr).length ≤ 50 := by
        obtain ⟨l0, l1⟩ := printP_len (x := A.fr.1.toNat) (y := A.fr.2.toNat) (by omega) (by omega)
        unfold printP; simp only [List.length_append, List.length_cons]; omega
      have hn1 := dec_len A.num 19 (by omega)
      have hn2 := dec_len A.vw 19 (by omega)
      have hhx : (hexP A.data).length ≤ 800 := by rw [hexP_len]; omega
      have hsd : sendP A = [115, 101, 110, 100, 32] ++ printP A.fr ++ [32] ++ Lib.decDigits A.num ++ [32] ++ Lib.decDigits A.vw ++ [32, 120] ++ hexP A.data := rfl
      obtain ⟨PP, hPP⟩ : ∃ PP, printP A.fr = PP := ⟨_, rfl⟩
      obtain ⟨N1, hN1⟩ : ∃ N1, Lib.decDigits A.num = N1 := ⟨_, rfl⟩
      obtain ⟨N2, hN2⟩ : ∃ N2, Lib.decDigits A.vw = N2 := ⟨_, rfl⟩
      obtain ⟨HH, hHH⟩ : ∃ HH, hexP A.data = HH := ⟨_, rfl⟩
      rw [hPP, hN1, hN2, hHH] at hsd
      rw [hPP] at hpl
      rw [hN1] at hn1
      rw [hN2] at hn2
      rw [hHH] at hhx
      have b1 := run_cat [115, 101, 110, 100, 32] PP (by simp) (by omega)
      have b2 := run_cat ([115, 101, 110, 100, 32] ++ PP) [32] (by simp; omega) (by simp)
      have b3 := run_cat ([115, 101, 110, 100, 32] ++ PP ++ [32]) N1 (by simp; omega) (by omega)
      have b4 := run_cat ([115, 101, 110, 100, 32] ++ PP ++ [32] ++ N1) [32] (by simp; omega) (by simp)
      have b5 := run_cat ([115, 101, 110, 100, 32] ++ PP ++ [32] ++ N1 ++ [32]) N2 (by simp; omega) (by omega)
      have b6 := run_cat ([115, 101, 110, 100, 32] ++ PP ++ [32] ++ N1 ++ [32] ++ N2) [32, 120] (by simp; omega) (by simp)
      have b7 := run_cat ([115, 101, 110, 100, 32] ++ PP ++ [32] ++ N1 ++ [32] ++ N2 ++ [32, 120]) HH (by simp; omega) (by omega)
      obtain ⟨T1, hT1⟩ : ∃ T1, [115, 101, 110, 100, 32] ++ PP = T1 := ⟨_, rfl⟩
      rw [hT1] at b1 b2 b3 b4 b5 b6 b7 hsd
      obtain ⟨T2, hT2⟩ : ∃ T2, T1 ++ [32] = T2 := ⟨_, rfl⟩
      rw [hT2] at b2 b3 b4 b5 b6 b7 hsd
      obtain ⟨T3, hT3⟩ : ∃ T3, T2 ++ N1 = T3 := ⟨_, rfl⟩
      rw [hT3] at b3 b4 b5 b6 b7 hsd
      obtain ⟨T4, hT4⟩ : ∃ T4, T3 ++ [32] = T4 := ⟨_, rfl⟩
      rw [hT4] at b4 b5 b6 b7 hsd
      obtain ⟨T5, hT5⟩ : ∃ T5, T4 ++ N2 = T5 := ⟨_, rfl⟩
      rw [hT5] at b5 b6 b7 hsd
      obtain ⟨T6, hT6⟩ : ∃ T6, T5 ++ [32, 120] = T6 := ⟨_, rfl⟩
      rw [hT6] at b6 b7 hsd
      obtain ⟨T7, hT7⟩ : ∃ T7, T6 ++ HH = T7 := ⟨_, rfl⟩
      rw [hT7] at b7 hsd
      rw [hsd] at HR
      have CP : ∀ W2, Below W1.heap.size W1 W2 → ∀ U : ExtW W2, Calls Tryz.prog 27 #[.agg #[.int .u16 A.fr.1, .int .u32 A.fr.2]] U.W fun e w' => e = .returned (.string ⟨PP.toArray⟩) ∧ ∃ U' : ExtW W2, w' = U'.W := fun W2 h U => by
        have := print_any (x := A.fr.1.toNat) (y := A.fr.2.toNat) (by omega) (by omega) U.W ((HT1.out.ext h).ext U.h)
        rw [ex, ey, show (A.fr.1, A.fr.2) = A.fr from rfl, hPP] at this
        exact quiet_of this rfl
      have CF : ∀ W2, Below W1.heap.size W1 W2 → ∀ U : ExtW W2, Calls Tryz.prog 56 #[.int .u64 A.num, .int .i64 10] U.W fun e w' => e = .returned (.string ⟨N1.toArray⟩) ∧ ∃ U' : ExtW W2, w' = U'.W := fun W2 h U => quiet_of (fmt_any A.num (by omega) U.W ((HT1.out.ext h).ext U.h)) (by rw [hN1])
      have CG : ∀ W2, Below W1.heap.size W1 W2 → ∀ U : ExtW W2, Calls Tryz.prog 56 #[.int .u64 A.vw, .int .i64 10] U.W fun e w' => e = .returned (.string ⟨N2.toArray⟩) ∧ ∃ U' : ExtW W2, w' = U'.W := fun W2 h U => quiet_of (fmt_any A.vw (by omega) U.W ((HT1.out.ext h).ext U.h)) (by rw [hN2])
      have CH : ∀ W2, Below W1.heap.size W1 W2 → ∀ U : ExtW W2, Calls Tryz.prog 31 #[.slice da A.data.length dc] U.W fun e w' => e = .returned (.string ⟨HH.toArray⟩) ∧ ∃ U' : ExtW W2, w' = U'.W := fun W2 h U => quiet_of (hex_any (hid rfl) (by omega) HA1.out.db ((HA1.out.dr.ext h).ext U.h)) (by rw [hHH])
      have HP := hid CP
      have HF := hid CF
      have HG := hid CG
      have HH' := hid CH
      clear hk hcnt hsd hpl hn1 hn2 hhx CP CF CG CH hT1 hT2 hT3 hT4 hT5 hT6 hT7 hPP hN1 hN2 hHH ex ey fx1 fx2 fy1 fy2
      go_enter Tryz.func30, Tryz.ntmps30
      go_wp2_with fail
      (refine C1.out.mono ?_)
      rintro e w2 ⟨rfl, hb2⟩
      have HB2 := hid (HB1.out.trans (hb2.mono HB1.out.size))
      have P2 := hid (HP.out w2 hb2)
      have F2 := hid (HF.out w2 hb2)
      have G2 := hid (HG.out w2 hb2)
      have H2 := hid (HH'.out w2 hb2)
      obtain ⟨a0, a1, a2, a3, a4, a5, -, -, -, -⟩ := HX.out.ext hb2 HX.out.lt
      have f1 := cell_extY a1
      have f2 := cell_extY a2
      have f3 := cell_extY a3
      have f4 := cell_extY a4
      have f5 := cell_extY a5
      clear hb2 C1 hW1 HP HF HG HH' a1 a2 a3 a4 a5
      go_wp2_with fail
      refine wp_region_ext (w := w2) (Below.refl _ _) (by kernel_rfl) (by kernel_rfl) ?_
      repeat (go_big_quiet_step (first | with_reducible exact P2.out _ | with_reducible exact F2.out _ | with_reducible exact G2.out _ | with_reducible exact H2.out _))
      refine wpQuiet_nil ?_
      rintro w9 ⟨⟨_, hb9⟩, rfl⟩
      have HB9 := hid (HB2.out.trans (hb9.mono HB2.out.size))
      clear hb9 f1 f2 f3 f4 f5 b1 b2 b3 b4 b5 b6 b7 P2 F2 G2 H2
      go_wp2_with fail
      go_ret
      exact ⟨by rw [HR.out]; rfl, HB9.out⟩
    · have HR := hid (text_3 HCK.out hk)
      have k2 : (A.kind == 2) = false := by rw [hk]; rfl
      have k3 : (A.kind == 3) = true := by rw [hk]; rfl
      have hcb : checkB A.v = true := by rw [check_eq _ hwf]; exact (chk_3 HCK.out hk).2.2.2.2
      obtain ⟨hid0, -⟩ := check_partsZ hcb
      have hii : A.v.id = ((A.v.id.toNat : Nat) : Int) := (Int.toNat_of_nonneg hid0).symm
      have hvl : (viewP A.v).length ≤ 8000000 := by have := viewP_len hcb hwf; omega
      have ad1 := run_cat [118, 105, 101, 119, 32] (viewP A.v) (by simp) hvl
      obtain ⟨T, hT⟩ : ∃ T, [118, 105, 101, 119, 32] ++ viewP A.v = T := ⟨_, rfl⟩
      rw [hT] at ad1 HR
      obtain ⟨VP, hVP⟩ : ∃ VP, viewP A.v = VP := ⟨_, rfl⟩
      rw [hVP] at ad1
      have CV : Hid (∀ W, Below W1.heap.size W1 W → Calls Tryz.prog 17 #[.agg #[.int .u64 A.v.id, .slice am A.v.ms.length cm, .slice al A.v.ls.length cl, .slice ad A.v.ds.length cd]] W fun e w' => e = .returned (.tuple #[.string ⟨VP.toArray⟩, .int .i64 0]) ∧ Below W.heap.size W w') := hid fun W h => by
        have := viewPrint_any (cm := cm) (cl := cl) (cd := cd) hii (HA1.out.ext h).v hwf hsum (hid hcb) (HT1.out.ext h)
        rw [← hii, hVP] at this
        exact this
      clear hk hcb hid0 hii hvl hT hVP
      go_enter Tryz.func30, Tryz.ntmps30
      go_wp2_with fail
      (refine C1.out.mono ?_)
      rintro e w2 ⟨rfl, hb2⟩
      have HB2 := hid (HB1.out.trans (hb2.mono HB1.out.size))
      have CV2 := hid (CV.out w2 hb2)
      obtain ⟨a0, -, -, -, -, -, a6, a7, a8, a9⟩ := HX.out.ext hb2 HX.out.lt
      clear hb2 C1 hW1 CV
      go_wp2_with fail
      (refine CV2.out.mono ?_)
      rintro e w3 ⟨rfl, hb3⟩
      have HB3 := hid (HB2.out.trans (hb3.mono HB2.out.size))
      clear hb3 CV2 a0 a6 a7 a8 a9
      go_wp2_with fail
      go_ret
      exact ⟨by rw [HR.out]; rfl, HB3.out⟩
  · have HR : Hid (textP A = [63]) := hid (text_no (by rw [hck]; exact h0))
    have i1 : ¬ (ck : Int) = 0 := by omega
    clear hck h0
    go_enter Tryz.func30, Tryz.ntmps30
    go_wp2_with fail
    (refine C1.out.mono ?_)
    rintro e w2 ⟨rfl, hb2⟩
    have HB2 := hid (HB1.out.trans (hb2.mono HB1.out.size))
    clear hb2 C1 hW1 a0 a1 a2 a3 a4 a5 a6 a7 a8 a9
    go_wp2_with fail
    go_ret
    exact ⟨by rw [HR.out]; rfl, HB2.out⟩
end Go.Proofs.YtppapeoainafbaaGreatDoor

namespace Go.Proofs.YtppapeoainafbaaGreatDoor
open Go.RowKit
/-! ### the reference's Text of a command -/
set_option maxRecDepth 100000 in
set_option maxHeartbeats 6400000 in
theorem refText_any {A : CmdD} {da am al ad : Option Addr} {dc cm cl cd : Nat} {w : World} (hA : CmdR w da am al ad A) (hsum : lens A.v.ls ≤ 549755813888) (hwf : WfPids A.v.ms) (hfr : okP A.fr) (hdl : A.data.length ≤ 400) :
    Calls Tryz.prog 38 #[.agg (cmdL da am al ad dc cm cl cd A)] w fun e w' => e = .returned (.string ⟨(textP A).toArray⟩) ∧ Below w.heap.size w w' := by
  obtain ⟨W1, hW1⟩ : ∃ W1, w.alloc (.cells (cmdL da am al ad dc cm cl cd A) 35) = W1 := ⟨_, rfl⟩
  have hb1 : Below w.heap.size w W1 := by rw [← hW1]; exact (Below.refl _ _).alloc (Nat.le_refl _) _
  have xA : CmdBox W1 w.heap.size A da am al ad dc cm cl cd := by rw [← hW1]; exact CmdBox.made (c := A) w
  have hA1 := hA.ext hb1
  have C1 := hid (cmdCheckR_any (da := da) (dc := dc) (cm := cm) (cl := cl) (cd := cd) hA1.v hsum hfr)
  have hl : ∀ (x : CmdD) (da am al ad : Option Addr) (dc cm cl cd : Nat), cmdL da am al ad dc cm cl cd x = #[.int .i64 x.kind, .int .u16 x.fr.1, .int .u32 x.fr.2, .int .u64 x.num, .int .u64 x.vw, .slice da x.data.length dc, .int .u64 x.v.id, .slice am x.v.ms.length cm, .slice al x.v.ls.length cl, .slice ad x.v.ds.length cd] := fun _ _ _ _ _ _ _ _ _ => rfl
  simp only [hl] at C1 hW1 ⊢
  obtain ⟨a0, a1, a2, a3, a4, a5, a6, a7, a8, a9⟩ := id xA
  have HB1 := hid hb1
  have HA1 := hid hA1
  have HX := hid xA
  obtain ⟨ck, hck⟩ : ∃ ck, cmdChk A = ck := ⟨_, rfl⟩
  rw [hck] at C1
  clear hb1 hA hA1 xA hl
  by_cases h0 : ck = 0
  · subst h0
    have HCK := hid hck
    clear hck
    rcases chk_kind HCK.out with hk | hk | hk
    · have HR := hid (text_1 HCK.out hk)
      have k2 : (A.kind == 2) = false := by rw [hk]; rfl
      have k3 : (A.kind == 3) = false := by rw [hk]; rfl
      clear hk
      go_enter Tryz.func38, Tryz.ntmps38
      go_wp2_with fail
      (refine C1.out.mono ?_)
      rintro e w2 ⟨rfl, hb2⟩
      have HB2 := hid (HB1.out.trans (hb2.mono HB1.out.size))
      obtain ⟨a0, -, -, -, -, -, -, -, -, -⟩ := HX.out.ext hb2 HX.out.lt
      clear hb2 C1 hW1
      go_wp2_with fail
      go_ret
      exact ⟨by rw [HR.out]; rfl, HB2.out⟩
    · have HR := hid (text_2 HCK.out hk)
      have k2 : (A.kind == 2) = true := by rw [hk]; rfl
      have hcnt : A.num ≤ 4611686018427387904 ∧ A.vw ≤ 4611686018427387904 := by
        have h := HCK.out
        unfold cmdChk at h
        rw [if_neg (by omega), if_pos hk] at h
        split at h
        · next hc =>
          have h1 := hc.2.1
          have h2 := hc.2.2.1
          unfold cntB at h1 h2
          simp at h1 h2
          omega
        · cases h
      obtain ⟨fx1, fx2, fy1, fy2⟩ := hfr
      have ex : ((A.fr.1.toNat : Nat) : Int) = A.fr.1 := Int.toNat_of_nonneg fx1
      have ey : ((A.fr.2.toNat : Nat) : Int) = A.fr.2 := Int.toNat_of_nonneg fy1
      have hpl : (printP A.fr).length ≤ 50 := by
        obtain ⟨l0, l1⟩ := printP_len (x := A.fr.1.toNat) (y := A.fr.2.toNat) (by omega) (by omega)
        unfold printP; simp only [List.length_append, List.length_cons]; omega
      have hn1 := dec_len A.num 19 (by omega)
      have hn2 := dec_len A.vw 19 (by omega)
      have hhx : (hexP A.data).length ≤ 800 := by rw [hexP_len]; omega
      have hsd : sendP A = [115, 101, 110, 100, 32] ++ printP A.fr ++ [32] ++ Lib.decDigits A.num ++ [32] ++ Lib.decDigits A.vw ++ [32, 120] ++ hexP A.data := rfl
      obtain ⟨PP, hPP⟩ : ∃ PP, printP A.fr = PP := ⟨_, rfl⟩
      obtain ⟨N1, hN1⟩ : ∃ N1, Lib.decDigits A.num = N1 := ⟨_, rfl⟩
      obtain ⟨N2, hN2⟩ : ∃ N2, Lib.decDigits A.vw = N2 := ⟨_, rfl⟩
      obtain ⟨HH, hHH⟩ : ∃ HH, hexP A.data = HH := ⟨_, rfl⟩
      rw [hPP, hN1, hN2, hHH] at hsd
      rw [hPP] at hpl
      rw [hN1] at hn1
      rw [hN2] at hn2
      rw [hHH] at hhx
      have b1 := run_cat [115, 101, 110, 100, 32] PP (by simp) (by omega)
      have b2 := run_cat ([115, 101, 110, 100, 32] ++ PP) [32] (by simp; omega) (by simp)
      have b3 := run_cat ([115, 101, 110, 100, 32] ++ PP ++ [32]) N1 (by simp; omega) (by omega)
      have b4 := run_cat ([115, 101, 110, 100, 32] ++ PP ++ [32] ++ N1) [32] (by simp; omega) (by simp)
      have b5 := run_cat ([115, 101, 110, 100, 32] ++ PP ++ [32] ++ N1 ++ [32]) N2 (by simp; omega) (by omega)
      have b6 := run_cat ([115, 101, 110, 100, 32] ++ PP ++ [32] ++ N1 ++ [32] ++ N2) [32, 120] (by simp; omega) (by simp)
      have b7 := run_cat ([115, 101, 110, 100, 32] ++ PP ++ [32] ++ N1 ++ [32] ++ N2 ++ [32, 120]) HH (by simp; omega) (by omega)
      obtain ⟨T1, hT1⟩ : ∃ T1, [115, 101, 110, 100, 32] ++ PP = T1 := ⟨_, rfl⟩
      rw [hT1] at b1 b2 b3 b4 b5 b6 b7 hsd
      obtain ⟨T2, hT2⟩ : ∃ T2, T1 ++ [32] = T2 := ⟨_, rfl⟩
      rw [hT2] at b2 b3 b4 b5 b6 b7 hsd
      obtain ⟨T3, hT3⟩ : ∃ T3, T2 ++ N1 = T3 := ⟨_, rfl⟩
      rw [hT3] at b3 b4 b5 b6 b7 hsd
      obtain ⟨T4, hT4⟩ : ∃ T4, T3 ++ [32] = T4 := ⟨_, rfl⟩
      rw [hT4] at b4 b5 b6 b7 hsd
      obtain ⟨T5, hT5⟩ : ∃ T5, T4 ++ N2 = T5 := ⟨_, rfl⟩
      rw [hT5] at b5 b6 b7 hsd
      obtain ⟨T6, hT6⟩ : ∃ T6, T5 ++ [32, 120] = T6 := ⟨_, rfl⟩
      rw [hT6] at b6 b7 hsd
      obtain ⟨T7, hT7⟩ : ∃ T7, T6 ++ HH = T7 := ⟨_, rfl⟩
      rw [hT7] at b7 hsd
      rw [hsd] at HR
      have CP : ∀ W2, Below W1.heap.size W1 W2 → ∀ U : ExtW W2, Calls Tryz.prog 35 #[.agg #[.int .u16 A.fr.1, .int .u32 A.fr.2]] U.W fun e w' => e = .returned (.string ⟨PP.toArray⟩) ∧ ∃ U' : ExtW W2, w' = U'.W := fun W2 h U => by
        have := refPrint_any (x := A.fr.1.toNat) (y := A.fr.2.toNat) (by omega) (by omega) U.W
        rw [ex, ey, show (A.fr.1, A.fr.2) = A.fr from rfl, hPP] at this
        exact quiet_of this rfl
      have CF : ∀ W2, Below W1.heap.size W1 W2 → ∀ U : ExtW W2, Calls Tryz.prog 63 #[.int .u64 A.num] U.W fun e w' => e = .returned (.string ⟨N1.toArray⟩) ∧ ∃ U' : ExtW W2, w' = U'.W := fun W2 h U => quiet_of (digits_any A.num (by omega) U.W) (by rw [hN1])
      have CG : ∀ W2, Below W1.heap.size W1 W2 → ∀ U : ExtW W2, Calls Tryz.prog 63 #[.int .u64 A.vw] U.W fun e w' => e = .returned (.string ⟨N2.toArray⟩) ∧ ∃ U' : ExtW W2, w' = U'.W := fun W2 h U => quiet_of (digits_any A.vw (by omega) U.W) (by rw [hN2])
      have CH : ∀ W2, Below W1.heap.size W1 W2 → ∀ U : ExtW W2, Calls Tryz.prog 39 #[.slice da A.data.length dc] U.W fun e w' => e = .returned (.string ⟨HH.toArray⟩) ∧ ∃ U' : ExtW W2, w' = U'.W := fun W2 h U => quiet_of (refHex_any (hid rfl) (by omega) HA1.out.db ((HA1.out.dr.ext h).ext U.h)) (by rw [hHH])
      have HP := hid CP
      have HF := hid CF
      have HG := hid CG
      have HH' := hid CH
      clear hk hcnt hsd hpl hn1 hn2 hhx CP CF CG CH hT1 hT2 hT3 hT4 hT5 hT6 hT7 hPP hN1 hN2 hHH ex ey fx1 fx2 fy1 fy2
      go_enter Tryz.func38, Tryz.ntmps38
      go_wp2_with fail
      (refine C1.out.mono ?_)
      rintro e w2 ⟨rfl, hb2⟩
      have HB2 := hid (HB1.out.trans (hb2.mono HB1.out.size))
      have P2 := hid (HP.out w2 hb2)
      have F2 := hid (HF.out w2 hb2)
      have G2 := hid (HG.out w2 hb2)
      have H2 := hid (HH'.out w2 hb2)
      obtain ⟨a0, a1, a2, a3, a4, a5, -, -, -, -⟩ := HX.out.ext hb2 HX.out.lt
      have f1 := cell_extY a1
      have f2 := cell_extY a2
      have f3 := cell_extY a3
      have f4 := cell_extY a4
      have f5 := cell_extY a5
      clear hb2 C1 hW1 HP HF HG HH' a1 a2 a3 a4 a5
      go_wp2_with fail
      refine wp_region_ext (w := w2) (Below.refl _ _) (by kernel_rfl) (by kernel_rfl) ?_
      repeat (go_big_quiet_step (first | with_reducible exact P2.out _ | with_reducible exact F2.out _ | with_reducible exact G2.out _ | with_reducible exact H2.out _))
      refine wpQuiet_nil ?_
      rintro w9 ⟨⟨_, hb9⟩, rfl⟩
      have HB9 := hid (HB2.out.trans (hb9.mono HB2.out.size))
      clear hb9 f1 f2 f3 f4 f5 b1 b2 b3 b4 b5 b6 b7 P2 F2 G2 H2
      go_wp2_with fail
      go_ret
      exact ⟨by rw [HR.out]; rfl, HB9.out⟩
    · have HR := hid (text_3 HCK.out hk)
      have k2 : (A.kind == 2) = false := by rw [hk]; rfl
      have k3 : (A.kind == 3) = true := by rw [hk]; rfl
      have hcb : checkB A.v = true := by rw [check_eq _ hwf]; exact (chk_3 HCK.out hk).2.2.2.2
      obtain ⟨hid0, -⟩ := check_partsZ hcb
      have hii : A.v.id = ((A.v.id.toNat : Nat) : Int) := (Int.toNat_of_nonneg hid0).symm
      have hvl : (viewP A.v).length ≤ 8000000 := by have := viewP_len hcb hwf; omega
      have ad1 := run_cat [118, 105, 101, 119, 32] (viewP A.v) (by simp) hvl
      obtain ⟨T, hT⟩ : ∃ T, [118, 105, 101, 119, 32] ++ viewP A.v = T := ⟨_, rfl⟩
      rw [hT] at ad1 HR
      obtain ⟨VP, hVP⟩ : ∃ VP, viewP A.v = VP := ⟨_, rfl⟩
      rw [hVP] at ad1
      have CV : Hid (∀ W, Below W1.heap.size W1 W → Calls Tryz.prog 19 #[.agg #[.int .u64 A.v.id, .slice am A.v.ms.length cm, .slice al A.v.ls.length cl, .slice ad A.v.ds.length cd]] W fun e w' => e = .returned (.string ⟨VP.toArray⟩) ∧ Below W.heap.size W w') := hid fun W h => by
        have := refViewPrint_any (cm := cm) (cl := cl) (cd := cd) hii (HA1.out.ext h).v hwf (hid hcb)
        rw [← hii, hVP] at this
        exact this
      clear hk hcb hid0 hii hvl hT hVP
      go_enter Tryz.func38, Tryz.ntmps38
      go_wp2_with fail
      (refine C1.out.mono ?_)
      rintro e w2 ⟨rfl, hb2⟩
      have HB2 := hid (HB1.out.trans (hb2.mono HB1.out.size))
      have CV2 := hid (CV.out w2 hb2)
      obtain ⟨a0, -, -, -, -, -, a6, a7, a8, a9⟩ := HX.out.ext hb2 HX.out.lt
      clear hb2 C1 hW1 CV
      go_wp2_with fail
      (refine CV2.out.mono ?_)
      rintro e w3 ⟨rfl, hb3⟩
      have HB3 := hid (HB2.out.trans (hb3.mono HB2.out.size))
      clear hb3 CV2 a0 a6 a7 a8 a9
      go_wp2_with fail
      go_ret
      exact ⟨by rw [HR.out]; rfl, HB3.out⟩
  · have HR : Hid (textP A = [63]) := hid (text_no (by rw [hck]; exact h0))
    have i1 : ¬ (ck : Int) = 0 := by omega
    clear hck h0
    go_enter Tryz.func38, Tryz.ntmps38
    go_wp2_with fail
    (refine C1.out.mono ?_)
    rintro e w2 ⟨rfl, hb2⟩
    have HB2 := hid (HB1.out.trans (hb2.mono HB1.out.size))
    clear hb2 C1 hW1 a0 a1 a2 a3 a4 a5 a6 a7 a8 a9
    go_wp2_with fail
    go_ret
    exact ⟨by rw [HR.out]; rfl, HB2.out⟩
end Go.Proofs.YtppapeoainafbaaGreatDoor

namespace Go.Proofs.YtppapeoainafbaaGreatDoor
open Go.RowKit
/-! ### parts of messages' texts -/
theorem numT_any (c : UInt8) (n : Nat) (hn : n < 18446744073709551616) (w : World) (ht : TabOk w) :
    Calls Tryz.prog 28 #[.string ⟨[c].toArray⟩, .int .u64 n] w fun e w' => e = .returned (.string ⟨(numT c n).toArray⟩) ∧ Below w.heap.size w w' := by
  have C := hid (fmt_any n hn w ht)
  have hl := dec_len n 19 (by omega)
  have hr : numT c n = ([32] ++ [c]) ++ Lib.decDigits n := rfl
  obtain ⟨D, hD⟩ : ∃ D, Lib.decDigits n = D := ⟨_, rfl⟩
  rw [hD] at C hl hr
  have b1 := run_cat [32] [c] (by simp) (by simp)
  have b2 := run_cat ([32] ++ [c]) D (by simp) (by omega)
  obtain ⟨T1, hT1⟩ : ∃ T1, [32] ++ [c] = T1 := ⟨_, rfl⟩
  rw [hT1] at b1 b2 hr
  have HR := hid hr
  clear hr hl hD hT1
  go_enter Tryz.func28, Tryz.ntmps28
  go_wp2_with fail
  (refine C.out.mono ?_)
  rintro e w2 ⟨rfl, hb⟩
  have HB := hid hb
  clear hb C
  go_wp2_with fail
  go_ret
  exact ⟨by rw [HR.out]; rfl, HB.out⟩
set_option maxHeartbeats 3200000 in
theorem balT_any (c : UInt8) (n x y : Nat) (hn : n < 4294967296) (hx : x < 65536) (hy : y < 4294967296) (w : World) (ht : TabOk w) :
    Calls Tryz.prog 29 #[.string ⟨[c].toArray⟩, .agg #[.int .u32 n, .int .u16 x, .int .u32 y]] w fun e w' => e = .returned (.string ⟨(balT c (n, ((x : Int), (y : Int)))).toArray⟩) ∧ Below w.heap.size w w' := by
  obtain ⟨wr, hwr⟩ : ∃ wr, w.alloc (.cells #[.int .u32 n, .int .u16 x, .int .u32 y] 28) = wr := ⟨_, rfl⟩
  have hB : Below w.heap.size w wr := by rw [← hwr]; exact (Below.refl _ _).alloc (Nat.le_refl _) _
  have k0 : wr.cell? ⟨w.heap.size, 0, none⟩ = some (.int .u32 n) := by rw [← hwr]; simp
  have k1 : wr.cell? ⟨w.heap.size, 1, none⟩ = some (.int .u16 x) := by rw [← hwr]; simp
  have k2 : wr.cell? ⟨w.heap.size, 2, none⟩ = some (.int .u32 y) := by rw [← hwr]; simp
  have f0 := cell_extY k0
  have f1 := cell_extY k1
  have f2 := cell_extY k2
  have hr : balT c (n, ((x : Int), (y : Int))) = (numT c n ++ [58]) ++ printP ((x : Int), (y : Int)) := rfl
  have hl1 := dec_len n 19 (by omega)
  have hl2 : (numT c n).length ≤ 50 := by unfold numT; simp; omega
  have hl3 : (printP ((x : Int), (y : Int))).length ≤ 50 := by
    obtain ⟨l0, l1⟩ := printP_len (x := x) (y := y) (by omega) (by omega)
    unfold printP; simp only [List.length_append, List.length_cons, Int.toNat_natCast]; omega
  obtain ⟨N, hN⟩ : ∃ N, numT c n = N := ⟨_, rfl⟩
  obtain ⟨P, hP⟩ : ∃ P, printP ((x : Int), (y : Int)) = P := ⟨_, rfl⟩
  have CN : ∀ U : ExtW wr, Calls Tryz.prog 28 #[.string ⟨[c].toArray⟩, .int .u64 n] U.W fun e w' => e = .returned (.string ⟨N.toArray⟩) ∧ ∃ U' : ExtW wr, w' = U'.W := fun U => quiet_of (numT_any c n (by omega) U.W ((ht.ext hB).ext U.h)) (by rw [hN])
  have CP : ∀ U : ExtW wr, Calls Tryz.prog 27 #[.agg #[.int .u16 x, .int .u32 y]] U.W fun e w' => e = .returned (.string ⟨P.toArray⟩) ∧ ∃ U' : ExtW wr, w' = U'.W := fun U => quiet_of (print_any hx hy U.W ((ht.ext hB).ext U.h)) (by rw [hP])
  rw [hN] at hr hl2
  rw [hP] at hr hl3
  have b1 := run_cat N [58] (by omega) (by simp)
  have b2 := run_cat (N ++ [58]) P (by simp; omega) (by omega)
  obtain ⟨T1, hT1⟩ : ∃ T1, N ++ [58] = T1 := ⟨_, rfl⟩
  rw [hT1] at b1 b2 hr
  have HR := hid hr
  have HCN := hid CN
  have HCP := hid CP
  have HB := hid hB
  have ek : IntKind.u64.wrap ((n : Nat) : Int) = ((n : Nat) : Int) := by rw [IntKind.wrap_u64]; omega
  clear hr hl1 hl2 hl3 hN hP hT1 CN CP hB k0 k1 k2
  go_enter Tryz.func29, Tryz.ntmps29
  go_wp2_with fail
  clear hwr
  refine wp_region_ext (w := wr) (Below.refl _ _) (by kernel_rfl) (by kernel_rfl) ?_
  repeat (go_big_quiet_step (first | with_reducible exact HCN.out _ | with_reducible exact HCP.out _))
  refine wpQuiet_nil ?_
  rintro w9 ⟨⟨_, hb9⟩, rfl⟩
  have HB9 := hid (HB.out.trans (hb9.mono HB.out.size))
  clear hb9 f0 f1 f2 b1 b2 ek HCN HCP
  go_wp2_with fail
  go_ret
  exact ⟨by rw [HR.out]; rfl, HB9.out⟩
theorem numTR_any (c : UInt8) (n : Nat) (hn : n < 18446744073709551616) (w : World) :
    Calls Tryz.prog 36 #[.string ⟨[c].toArray⟩, .int .u64 n] w fun e w' => e = .returned (.string ⟨(numT c n).toArray⟩) ∧ Below w.heap.size w w' := by
  have C := hid (digits_any n hn w)
  have hl := dec_len n 19 (by omega)
  have hr : numT c n = ([32] ++ [c]) ++ Lib.decDigits n := rfl
  obtain ⟨D, hD⟩ : ∃ D, Lib.decDigits n = D := ⟨_, rfl⟩
  rw [hD] at C hl hr
  have b1 := run_cat [32] [c] (by simp) (by simp)
  have b2 := run_cat ([32] ++ [c]) D (by simp) (by omega)
  obtain ⟨T1, hT1⟩ : ∃ T1, [32] ++ [c] = T1 := ⟨_, rfl⟩
  rw [hT1] at b1 b2 hr
  have HR := hid hr
  clear hr hl hD hT1
  go_enter Tryz.func36, Tryz.ntmps36
  go_wp2_with fail
  (refine C.out.mono ?_)
  rintro e w2 ⟨rfl, hb⟩
  have HB := hid hb
  clear hb C
  go_wp2_with fail
  go_ret
  exact ⟨by rw [HR.out]; rfl, HB.out⟩
set_option maxHeartbeats 3200000 in
theorem balTR_any (c : UInt8) (n x y : Nat) (hn : n < 4294967296) (hx : x < 65536) (hy : y < 4294967296) (w : World) :
    Calls Tryz.prog 37 #[.string ⟨[c].toArray⟩, .agg #[.int .u32 n, .int .u16 x, .int .u32 y]] w fun e w' => e = .returned (.string ⟨(balT c (n, ((x : Int), (y : Int)))).toArray⟩) ∧ Below w.heap.size w w' := by
  obtain ⟨wr, hwr⟩ : ∃ wr, w.alloc (.cells #[.int .u32 n, .int .u16 x, .int .u32 y] 28) = wr := ⟨_, rfl⟩
  have hB : Below w.heap.size w wr := by rw [← hwr]; exact (Below.refl _ _).alloc (Nat.le_refl _) _
  have k0 : wr.cell? ⟨w.heap.size, 0, none⟩ = some (.int .u32 n) := by rw [← hwr]; simp
  have k1 : wr.cell? ⟨w.heap.size, 1, none⟩ = some (.int .u16 x) := by rw [← hwr]; simp
  have k2 : wr.cell? ⟨w.heap.size, 2, none⟩ = some (.int .u32 y) := by rw [← hwr]; simp
  have f0 := cell_extY k0
  have f1 := cell_extY k1
  have f2 := cell_extY k2
  have hr : balT c (n, ((x : Int), (y : Int))) = (numT c n ++ [58]) ++ printP ((x : Int), (y : Int)) := rfl
  have hl1 := dec_len n 19 (by omega)
  have hl2 : (numT c n).length ≤ 50 := by unfold numT; simp; omega
  have hl3 : (printP ((x : Int), (y : Int))).length ≤ 50 := by
    obtain ⟨l0, l1⟩ := printP_len (x := x) (y := y) (by omega) (by omega)
    unfold printP; simp only [List.length_append, List.length_cons, Int.toNat_natCast]; omega
  obtain ⟨N, hN⟩ : ∃ N, numT c n = N := ⟨_, rfl⟩
  obtain ⟨P, hP⟩ : ∃ P, printP ((x : Int), (y : Int)) = P := ⟨_, rfl⟩
  have CN : ∀ U : ExtW wr, Calls Tryz.prog 36 #[.string ⟨[c].toArray⟩, .int .u64 n] U.W fun e w' => e = .returned (.string ⟨N.toArray⟩) ∧ ∃ U' : ExtW wr, w' = U'.W := fun U => quiet_of (numTR_any c n (by omega) U.W) (by rw [hN])
  have CP : ∀ U : ExtW wr, Calls Tryz.prog 35 #[.agg #[.int .u16 x, .int .u32 y]] U.W fun e w' => e = .returned (.string ⟨P.toArray⟩) ∧ ∃ U' : ExtW wr, w' = U'.W := fun U => quiet_of (refPrint_any hx hy U.W) (by rw [hP])
  rw [hN] at hr hl2
  rw [hP] at hr hl3
  have b1 := run_cat N [58] (by omega) (by simp)
  have b2 := run_cat (N ++ [58]) P (by simp; omega) (by omega)
  obtain ⟨T1, hT1⟩ : ∃ T1, N ++ [58] = T1 := ⟨_, rfl⟩
  rw [hT1] at b1 b2 hr
  have HR := hid hr
  have HCN := hid CN
  have HCP := hid CP
  have HB := hid hB
  have ek : IntKind.u64.wrap ((n : Nat) : Int) = ((n : Nat) : Int) := by rw [IntKind.wrap_u64]; omega
  clear hr hl1 hl2 hl3 hN hP hT1 CN CP hB k0 k1 k2
  go_enter Tryz.func37, Tryz.ntmps37
  go_wp2_with fail
  clear hwr
  refine wp_region_ext (w := wr) (Below.refl _ _) (by kernel_rfl) (by kernel_rfl) ?_
  repeat (go_big_quiet_step (first | with_reducible exact HCN.out _ | with_reducible exact HCP.out _))
  refine wpQuiet_nil ?_
  rintro w9 ⟨⟨_, hb9⟩, rfl⟩
  have HB9 := hid (HB.out.trans (hb9.mono HB.out.size))
  clear hb9 f0 f1 f2 b1 b2 ek HCN HCP
  go_wp2_with fail
  go_ret
  exact ⟨by rw [HR.out]; rfl, HB9.out⟩
theorem words_any (k : Int) (w : World) : Calls Tryz.prog 25 #[.int .i64 k] w fun e w' => e = .returned (.string ⟨(wordK k).toArray⟩) ∧ w = w' := by
  have t1 : (k == 1) = decide (k = 1) := by by_cases h : k = 1 <;> simp [h]
  have t2 : (k == 2) = decide (k = 2) := by by_cases h : k = 2 <;> simp [h]
  have t3 : (k == 3) = decide (k = 3) := by by_cases h : k = 3 <;> simp [h]
  have t4 : (k == 4) = decide (k = 4) := by by_cases h : k = 4 <;> simp [h]
  have t5 : (k == 5) = decide (k = 5) := by by_cases h : k = 5 <;> simp [h]
  have t6 : (k == 6) = decide (k = 6) := by by_cases h : k = 6 <;> simp [h]
  have t7 : (k == 7) = decide (k = 7) := by by_cases h : k = 7 <;> simp [h]
  have t8 : (k == 8) = decide (k = 8) := by by_cases h : k = 8 <;> simp [h]
  have t9 : (k == 9) = decide (k = 9) := by by_cases h : k = 9 <;> simp [h]
  have t10 : (k == 10) = decide (k = 10) := by by_cases h : k = 10 <;> simp [h]
  have t11 : (k == 11) = decide (k = 11) := by by_cases h : k = 11 <;> simp [h]
  have t12 : (k == 12) = decide (k = 12) := by by_cases h : k = 12 <;> simp [h]
  have t13 : (k == 13) = decide (k = 13) := by by_cases h : k = 13 <;> simp [h]
  unfold wordK
  by_cases h1 : k = 1
  · subst h1
    go_enter Tryz.func25, Tryz.ntmps25
    go_wp2_with fail
    go_ret
    exact ⟨rfl, rfl⟩
  by_cases h2 : k = 2
  · subst h2
    go_enter Tryz.func25, Tryz.ntmps25
    go_wp2_with fail
    go_ret
    exact ⟨rfl, rfl⟩
  by_cases h3 : k = 3
  · subst h3
    go_enter Tryz.func25, Tryz.ntmps25
    go_wp2_with fail
    go_ret
    exact ⟨rfl, rfl⟩
  by_cases h4 : k = 4
  · subst h4
    go_enter Tryz.func25, Tryz.ntmps25
    go_wp2_with fail
    go_ret
    exact ⟨rfl, rfl⟩
  by_cases h5 : k = 5
  · subst h5
    go_enter Tryz.func25, Tryz.ntmps25
    go_wp2_with fail
    go_ret
    exact ⟨rfl, rfl⟩
  by_cases h6 : k = 6
  · subst h6
    go_enter Tryz.func25, Tryz.ntmps25
    go_wp2_with fail
    go_ret
    exact ⟨rfl, rfl⟩
  by_cases h7 : k = 7
  · subst h7
    go_enter Tryz.func25, Tryz.ntmps25
    go_wp2_with fail
    go_ret
    exact ⟨rfl, rfl⟩
  by_cases h8 : k = 8
  · subst h8
    go_enter Tryz.func25, Tryz.ntmps25
    go_wp2_with fail
    go_ret
    exact ⟨rfl, rfl⟩
  by_cases h9 : k = 9
  · subst h9
    go_enter Tryz.func25, Tryz.ntmps25
    go_wp2_with fail
    go_ret
    exact ⟨rfl, rfl⟩
  by_cases h10 : k = 10
  · subst h10
    go_enter Tryz.func25, Tryz.ntmps25
    go_wp2_with fail
    go_ret
    exact ⟨rfl, rfl⟩
  by_cases h11 : k = 11
  · subst h11
    go_enter Tryz.func25, Tryz.ntmps25
    go_wp2_with fail
    go_ret
    exact ⟨rfl, rfl⟩
  by_cases h12 : k = 12
  · subst h12
    go_enter Tryz.func25, Tryz.ntmps25
    go_wp2_with fail
    go_ret
    exact ⟨rfl, rfl⟩
  by_cases h13 : k = 13
  · subst h13
    go_enter Tryz.func25, Tryz.ntmps25
    go_wp2_with fail
    go_ret
    exact ⟨rfl, rfl⟩
  rw [if_neg h1, if_neg h2, if_neg h3, if_neg h4, if_neg h5, if_neg h6, if_neg h7, if_neg h8, if_neg h9, if_neg h10, if_neg h11, if_neg h12, if_neg h13]
  have s1 : (k == 1) = false := by simpa using h1
  have s2 : (k == 2) = false := by simpa using h2
  have s3 : (k == 3) = false := by simpa using h3
  have s4 : (k == 4) = false := by simpa using h4
  have s5 : (k == 5) = false := by simpa using h5
  have s6 : (k == 6) = false := by simpa using h6
  have s7 : (k == 7) = false := by simpa using h7
  have s8 : (k == 8) = false := by simpa using h8
  have s9 : (k == 9) = false := by simpa using h9
  have s10 : (k == 10) = false := by simpa using h10
  have s11 : (k == 11) = false := by simpa using h11
  have s12 : (k == 12) = false := by simpa using h12
  have s13 : (k == 13) = false := by simpa using h13
  clear t1 t2 t3 t4 t5 t6 t7 t8 t9 t10 t11 t12 t13
  go_enter Tryz.func25, Tryz.ntmps25
  go_wp2_with fail
  go_ret
  exact ⟨rfl, rfl⟩
/-! the text of the first parts -/
def partT (m : MsgD) (j : Nat) : Str :=
  if j = 0 then whoT m.who else if j = 1 then numT 118 m.vw else if j = 2 then numT 115 m.sl else if j = 3 then balT 98 m.b else if j = 4 then numT 110 m.num else if j = 5 then numT 104 m.hops.toNat
  else if j = 6 then balT 97 m.a else if j = 7 then brkT (textP m.c) else if j = 8 then brkT (viewP m.v) else hexT m.y
def onB (m : MsgD) (j : Nat) : Bool := if j = 6 then m.has else if j = 7 then (m.has || hb m.kind 7) else hb m.kind j
def txtK (m : MsgD) : Nat → Str
  | 0 => wordK m.kind
  | j + 1 => txtK m j ++ gd (onB m j) (partT m j)
theorem txtK_yes {m : MsgD} {j : Nat} (h : onB m j = true) : txtK m (j + 1) = txtK m j ++ partT m j := by rw [txtK, h]; rfl
theorem txtK_no {m : MsgD} {j : Nat} (h : onB m j = false) : txtK m (j + 1) = txtK m j := by rw [txtK, h]; simp [gd]
theorem txtK_10 {m : MsgD} (h : msgChk m = true) : txtK m 10 = msgT m := by
  unfold msgT
  rw [if_neg (by rw [h]; decide)]
  simp [txtK, partT, onB]
theorem textP_len {c : CmdD} (hc : cmdChk c = 0) (hw : WfPids c.v.ms) (hd : c.data.length ≤ 400) (hf : okP c.fr) : (textP c).length ≤ 3010 := by
  rcases chk_kind hc with hk | hk | hk
  · rw [text_1 hc hk]; decide
  · rw [text_2 hc hk]
    have hcnt : c.num ≤ 4611686018427387904 ∧ c.vw ≤ 4611686018427387904 := by
      have h := hc
      unfold cmdChk at h
      rw [if_neg (by omega), if_pos hk] at h
      split at h
      · next hc =>
        have h1 := hc.2.1
        have h2 := hc.2.2.1
        unfold cntB at h1 h2
        simp at h1 h2
        omega
      · cases h
    unfold okP at hf
    have hpl : (printP c.fr).length ≤ 50 := by
      obtain ⟨l0, l1⟩ := printP_len (x := c.fr.1.toNat) (y := c.fr.2.toNat) (by omega) (by omega)
      unfold printP; simp only [List.length_append, List.length_cons]; omega
    have hn1 := dec_len c.num 19 (by omega)
    have hn2 := dec_len c.vw 19 (by omega)
    have hhx : (hexP c.data).length ≤ 800 := by rw [hexP_len]; omega
    unfold sendP
    simp; omega
  · rw [text_3 hc hk]
    have := viewP_len (by rw [check_eq _ hw]; exact (chk_3 hc hk).2.2.2.2) hw
    simp; omega
theorem numT_len {c : UInt8} {n : Nat} (h : n < 18446744073709551616) : (numT c n).length ≤ 30 := by
  have := dec_len n 19 (by omega)
  unfold numT; simp; omega
theorem printP_50 {p : Pid} (h : okP p) : (printP p).length ≤ 50 := by
  unfold okP at h
  obtain ⟨l0, l1⟩ := printP_len (x := p.1.toNat) (y := p.2.toNat) (by omega) (by omega)
  unfold printP; simp only [List.length_append, List.length_cons]; omega
theorem balT_len {c : UInt8} {b : Bal} (h : b.1 < 4294967296) (hp : okP b.2) : (balT c b).length ≤ 100 := by
  have h1 := numT_len (c := c) (n := b.1) (by omega)
  have h2 := printP_50 hp
  unfold balT; simp only [List.length_append, List.length_cons, List.length_nil]; omega
theorem partT_len {w : World} {A : MA} {m : MsgD} (h : MsgE w A m) (hk : MsgOk m) {j : Nat} (hj : onB m j = true) (hj2 : j < 10) : (partT m j).length ≤ 3100 := by
  have hn := hk.nums
  have hh := hk.hops
  have hy := hk.len
  have p1 := printP_50 h.s.who
  have b1 := balT_len (c := 98) h.brd h.s.b
  have b2 := balT_len (c := 97) h.ard h.s.a
  have n1 := numT_len (c := 118) (n := m.vw) (by omega)
  have n2 := numT_len (c := 115) (n := m.sl) (by omega)
  have n3 := numT_len (c := 110) (n := m.num) (by omega)
  have n4 := numT_len (c := 104) (n := m.hops.toNat) (by omega)
  have hx := hexP_len m.y
  unfold partT
  by_cases e0 : j = 0
  · rw [if_pos e0]; unfold whoT; simp; omega
  by_cases e1 : j = 1
  · rw [if_neg e0, if_pos e1]; omega
  by_cases e2 : j = 2
  · rw [if_neg e0, if_neg e1, if_pos e2]; omega
  by_cases e3 : j = 3
  · rw [if_neg e0, if_neg e1, if_neg e2, if_pos e3]; omega
  by_cases e4 : j = 4
  · rw [if_neg e0, if_neg e1, if_neg e2, if_neg e3, if_pos e4]; omega
  by_cases e5 : j = 5
  · rw [if_neg e0, if_neg e1, if_neg e2, if_neg e3, if_neg e4, if_pos e5]; omega
  by_cases e6 : j = 6
  · rw [if_neg e0, if_neg e1, if_neg e2, if_neg e3, if_neg e4, if_neg e5, if_pos e6]; omega
  by_cases e7 : j = 7
  · subst e7
    have hc : cmdChk m.c = 0 := by
      simp only [onB] at hj
      simp at hj
      rcases hj with g | g
      · exact (hk.a g).2
      · exact hk.c g
    have := textP_len hc h.s.cwf h.cdl h.s.fr
    simp [brkT]; omega
  by_cases e8 : j = 8
  · subst e8
    have := viewP_len (by rw [check_eq _ h.s.vwf]; exact hk.v (by simpa [onB] using hj)) h.s.vwf
    simp [brkT]; omega
  · rw [if_neg e0, if_neg e1, if_neg e2, if_neg e3, if_neg e4, if_neg e5, if_neg e6, if_neg e7, if_neg e8]; unfold hexT; simp; omega
theorem wordK_len (k : Int) : (wordK k).length ≤ 20 := by
  unfold wordK
  by_cases h1 : k = 1
  · rw [if_pos h1]; decide
  rw [if_neg h1]
  by_cases h2 : k = 2
  · rw [if_pos h2]; decide
  rw [if_neg h2]
  by_cases h3 : k = 3
  · rw [if_pos h3]; decide
  rw [if_neg h3]
  by_cases h4 : k = 4
  · rw [if_pos h4]; decide
  rw [if_neg h4]
  by_cases h5 : k = 5
  · rw [if_pos h5]; decide
  rw [if_neg h5]
  by_cases h6 : k = 6
  · rw [if_pos h6]; decide
  rw [if_neg h6]
  by_cases h7 : k = 7
  · rw [if_pos h7]; decide
  rw [if_neg h7]
  by_cases h8 : k = 8
  · rw [if_pos h8]; decide
  rw [if_neg h8]
  by_cases h9 : k = 9
  · rw [if_pos h9]; decide
  rw [if_neg h9]
  by_cases h10 : k = 10
  · rw [if_pos h10]; decide
  rw [if_neg h10]
  by_cases h11 : k = 11
  · rw [if_pos h11]; decide
  rw [if_neg h11]
  by_cases h12 : k = 12
  · rw [if_pos h12]; decide
  rw [if_neg h12]
  by_cases h13 : k = 13
  · rw [if_pos h13]; decide
  rw [if_neg h13]
  decide
theorem txtK_len {w : World} {A : MA} {m : MsgD} (h : MsgE w A m) (hk : MsgOk m) : ∀ j, j ≤ 10 → (txtK m j).length ≤ 20 + 3100 * j
  | 0, _ => wordK_len m.kind
  | j + 1, hj => by
    have ih := txtK_len h hk j (by omega)
    cases ho : onB m j
    · rw [txtK_no ho]; omega
    · have := partT_len h hk ho (by omega)
      rw [txtK_yes ho, List.length_append]; omega
theorem txtK_le {w : World} {A : MA} {m : MsgD} (h : MsgE w A m) (hk : MsgOk m) {j : Nat} (hj : j ≤ 10) : (txtK m j).length ≤ 40000 := by
  have := txtK_len h hk j hj; omega
end Go.Proofs.YtppapeoainafbaaGreatDoor

