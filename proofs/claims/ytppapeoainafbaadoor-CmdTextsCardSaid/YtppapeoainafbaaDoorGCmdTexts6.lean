/- Parts of the proof: Z5 Z7 Z6 Z2. -/
import Derived.Lib.SlBytesRow
import Derived.Lib.BufferRead
import Derived.Test.YtppapeoainafbaaDoorX23
namespace Go.Proofs.YtppapeoainafbaaDoor
open Go.RowKit
/-! ### view.Print -/
theorem itoa_any (i : Nat) (h : i < 100) (w : World) : Calls Tryd.prog 47 #[.int .i64 i] w fun e w' => e = .returned (.string ⟨(Lib.decDigits i).toArray⟩) ∧ w' = w := Any.strconv_Itoa_small Tryd.itoa i h w
theorem wordP_len {V : View} {x y : Nat} (hx : x < 65536) (hy : y < 4294967296) {k : Nat} (hk : k < 100) (hl : leafIx V.ls ((x : Int), (y : Int)) = (k : Int)) : (wordP V ((x : Int), (y : Int))).length ≤ 100 := by
  obtain ⟨l0, l1⟩ := printP_len hx hy
  have l2 := dec_len k 2 (by omega)
  unfold wordP printP
  rw [hl]
  simp only [Int.toNat_natCast, List.length_append, List.length_cons, List.length_nil]
  split <;> simp <;> omega
theorem BldU.ext {B b : Nat} {s : Str} {w w' : World} (h : BldU B b s w) (hb : Below w.heap.size w w') : BldU B b s w' := by
  obtain ⟨hB, v, hbk, hown, hne⟩ := h
  refine ⟨hB, v, (hb.block b (Array.getElem?_eq_some_iff.1 hbk).1).trans hbk, ⟨hown.1, ?_⟩, hne⟩
  rcases hown.2 with hn | ⟨g, cap, cur, rfl, hbb, hgg, rest⟩
  · exact .inl hn
  · exact .inr ⟨g, cap, cur, rfl, hbb, (hb.block g (Array.getElem?_eq_some_iff.1 hgg).1).trans hgg, rest⟩
theorem BldF.ext {B b : Nat} {p : Value} {bs : List Value} {w w' : World} (h : Lib.BuilderAt 83 5 B b p bs w) (hb : Below w.heap.size w w') : Lib.BuilderAt 83 5 B b p bs w' := by
  obtain ⟨hB, v, hbk, hown, hne⟩ := h
  refine ⟨hB, v, (hb.block b (Array.getElem?_eq_some_iff.1 hbk).1).trans hbk, ⟨hown.1, ?_⟩, hne⟩
  rcases hown.2 with hn | ⟨g, cap, cur, rfl, hbb, hgg, rest⟩
  · exact .inl hn
  · exact .inr ⟨g, cap, cur, rfl, hbb, (hb.block g (Array.getElem?_eq_some_iff.1 hgg).1).trans hgg, rest⟩
theorem Bld.extB {B b : Nat} {s : Str} {w w' : World} (h : Bld B b s w) (hb : Below w.heap.size w w') : Bld B b s w' :=
  h.elim (fun h => .inl (BldF.ext h hb)) (fun h => .inr (BldF.ext h hb))
theorem okept {b g : Nat} {cs : Array Value} {w w' : World} {t : TypeId} {fr : Nat × Nat} (h : Lib.OthersKept 5 (some b) w w') (hg : w.heap[g]? = some (.cells cs t fr)) (hb : g ≠ b) (ht : t ≠ 5) : w'.heap[g]? = some (.cells cs t fr) :=
  h g _ hg (by intro e; exact hb (Option.some.inj e)) (by intro c fz e; cases e; exact ht rfl)
end Go.Proofs.YtppapeoainafbaaDoor

namespace Go.Proofs.YtppapeoainafbaaDoor
open Go.RowKit
/-! ### the reference's Print of a view -/
set_option maxRecDepth 100000 in
set_option maxHeartbeats 4000000 in
theorem refViewPrint_any {V : View} {i : Nat} {am al ad : Option Addr} {cm cl cd : Nat} {w : World} (hi : V.id = (i : Int)) (hV : ViewR w am al ad V) (hw : WfPids V.ms) (hc : Hid (checkB V = true)) :
    Calls Tryd.prog 31 #[.agg #[.int .u64 i, .slice am V.ms.length cm, .slice al V.ls.length cl, .slice ad V.ds.length cd]] w fun e w' => e = .returned (.string ⟨(viewP V).toArray⟩) ∧ Below w.heap.size w w' := by
  obtain ⟨hml, hid0, hlf⟩ := check_leaf hc.out
  obtain ⟨w2, hw2⟩ : ∃ w2, w.alloc (.cells #[.int .u64 i, .slice am V.ms.length cm, .slice al V.ls.length cl, .slice ad V.ds.length cd] 39) = w2 := ⟨_, rfl⟩
  have hb2 : Below w.heap.size w w2 := by rw [← hw2]; exact (Below.refl _ _).alloc (Nat.le_refl _) _
  have v0 : w2.cell? ⟨w.heap.size, 0, none⟩ = some (.int .u64 i) := by rw [← hw2]; simp
  have v1 : w2.cell? ⟨w.heap.size, 1, none⟩ = some (.slice am V.ms.length cm) := by rw [← hw2]; simp
  have v2 : w2.cell? ⟨w.heap.size, 2, none⟩ = some (.slice al V.ls.length cl) := by rw [← hw2]; simp
  have v3 : w2.cell? ⟨w.heap.size, 3, none⟩ = some (.slice ad V.ds.length cd) := by rw [← hw2]; simp
  have HB2 := hid hb2
  have HV2 := hid (hV.ext hb2)
  have HW := hid hw
  have HLF := hid hlf
  have HI := hid hi
  have HF2 : Hid (∀ W, Below w2.heap.size w2 W → W.cell? ⟨w.heap.size, 0, none⟩ = some (.int .u64 i) ∧ W.cell? ⟨w.heap.size, 1, none⟩ = some (.slice am V.ms.length cm) ∧ W.cell? ⟨w.heap.size, 2, none⟩ = some (.slice al V.ls.length cl) ∧ W.cell? ⟨w.heap.size, 3, none⟩ = some (.slice ad V.ds.length cd)) := hid fun W h => ⟨cell_toB v0 h, cell_toB v1 h, cell_toB v2 h, cell_toB v3 h⟩
  have C1 := hid (digits_any i (by have := hid0.2; omega) w2)
  have hdl := dec_len i 19 (by have := hid0.2; omega)
  have HDL := hid hdl
  clear hb2 hV hw hlf hc v1 v2 v3 hdl
  go_enter Tryd.func31, Tryd.ntmps31
  go_wp2_with fail
  (refine C1.out.mono ?_)
  rintro e w5 ⟨rfl, hb5⟩
  have HB5 := hid hb5
  clear hb5 C1 hw2 v0
  go_wp2_with fail
  go_loopw [3, 4, 5] (fun vo iv u wr => ∃ (k : Nat) (out : Str), vo = .string ⟨out.toArray⟩ ∧ iv = .int .i64 k ∧ k ≤ V.ms.length ∧ out.length ≤ 20 + 100 * k ∧ Hid (out ++ wordsP V (V.ms.drop k) = viewP V) ∧ Hid (Below w2.heap.size w2 wr)) (fun _ iv _ _ => V.ms.length - (intOf iv).toNat)
  case atStart => exact ⟨0, Lib.decDigits i, rfl, rfl, Nat.zero_le _, by have := HDL.out; omega, hid (by unfold viewP; rw [HI.out]; rfl), HB5⟩
  case round =>
    obtain ⟨k, out, rfl, rfl, hk, hol, hf, hbw⟩ := hrel
    clear HB5 HDL
    obtain ⟨v0, v1, v2, v3⟩ := HF2.out _ hbw.out
    by_cases hlt : k < V.ms.length
    · obtain ⟨b, o, x, y, rfl, hxy, q0, q1⟩ := HV2.out.ms.at hbw.out rfl hlt
      have hmem : (x, y) ∈ V.ms := by rw [hxy]; exact List.getElem_mem hlt
      obtain ⟨g1, g2, g3, g4⟩ := HW.out (x, y) hmem
      obtain ⟨kk, hkk, hlx⟩ := HLF.out (x, y) hmem
      simp only at g1 g2 g3 g4
      obtain ⟨x, rfl⟩ := Int.eq_ofNat_of_zero_le g1
      obtain ⟨y, rfl⟩ := Int.eq_ofNat_of_zero_le g3
      have hx : x < 65536 := by omega
      have hy : y < 4294967296 := by omega
      have HD := hid (wordsP_drop V hlt hxy)
      have HWL := hid (wordP_len hx hy hkk hlx)
      obtain ⟨PP, hPP⟩ : ∃ PP, printP ((x : Int), (y : Int)) = PP := ⟨_, rfl⟩
      obtain ⟨DK, hDK⟩ : ∃ DK, Lib.decDigits kk = DK := ⟨_, rfl⟩
      have hpl : PP.length ≤ 50 := by
        obtain ⟨l0, l1⟩ := printP_len hx hy
        rw [← hPP]; unfold printP; simp only [Int.toNat_natCast, List.length_append, List.length_cons]; omega
      have hdl : DK.length ≤ 3 := by rw [← hDK]; exact dec_len kk 2 (by omega)
      have hwd : out ++ wordP V ((x : Int), (y : Int)) = out ++ [32] ++ PP ++ [47] ++ DK ++ (if ((x : Int), (y : Int)) ∈ V.ds then [42] else []) := by
        unfold wordP; rw [hPP, hlx, Int.toNat_natCast, hDK]; simp
      have a1 := run_cat out [32] (by omega) (by simp)
      have a2 := run_cat (out ++ [32]) PP (by simp; omega) (by omega)
      have a3 := run_cat (out ++ [32] ++ PP) [47] (by simp; omega) (by simp)
      have a4 := run_cat (out ++ [32] ++ PP ++ [47]) DK (by simp; omega) (by omega)
      have hl3 : (out ++ [32] ++ PP ++ [47] ++ DK).length ≤ 8000000 := by simp; omega
      obtain ⟨T0, hT0⟩ : ∃ T0, out ++ [32] = T0 := ⟨_, rfl⟩
      rw [hT0] at a1 a2 a3 a4 hwd hl3
      obtain ⟨T1, hT1⟩ : ∃ T1, T0 ++ PP = T1 := ⟨_, rfl⟩
      rw [hT1] at a2 a3 a4 hwd hl3
      obtain ⟨T2, hT2⟩ : ∃ T2, T1 ++ [47] = T2 := ⟨_, rfl⟩
      rw [hT2] at a3 a4 hwd hl3
      obtain ⟨T3, hT3⟩ : ∃ T3, T2 ++ DK = T3 := ⟨_, rfl⟩
      rw [hT3] at a4 hwd hl3
      have a5 := run_cat T3 [42] (by omega) (by simp)
      have HWD := hid hwd
      obtain ⟨w6, hw6⟩ : ∃ w6, wr.alloc (.cells #[.int .u16 x, .int .u32 y] 25) = w6 := ⟨_, rfl⟩
      have hb6 : Below wr.heap.size wr w6 := by rw [← hw6]; exact (Below.refl _ _).alloc (Nat.le_refl _) _
      have p0 : w6.cell? ⟨wr.heap.size, 0, none⟩ = some (.int .u16 x) := by rw [← hw6]; simp
      have p1 : w6.cell? ⟨wr.heap.size, 1, none⟩ = some (.int .u32 y) := by rw [← hw6]; simp
      have HB6 := hid (hbw.out.trans (hb6.mono hbw.out.size))
      obtain ⟨u0, u1, u2, u3⟩ := HF2.out _ HB6.out
      have HV6 := hid (HV2.out.ext HB6.out)
      have f0 := cell_extY p0
      have f1 := cell_extY p1
      have f2 := cell_extY u0
      have f3 := cell_extY u1
      have f4 := cell_extY u2
      have f5 := cell_extY u3
      have CP : Hid (∀ U : ExtW w6, Calls Tryd.prog 9 #[.agg #[.int .u16 x, .int .u32 y]] U.W fun e w' => e = .returned (.string ⟨PP.toArray⟩) ∧ ∃ U' : ExtW w6, w' = U'.W) := hid fun U => quiet_of (refPrint_any hx hy U.W) (by rw [hPP])
      have CL : Hid (∀ U : ExtW w6, Calls Tryd.prog 55 #[.agg #[.int .u64 i, .slice (some ⟨b, o, none⟩) V.ms.length cm, .slice al V.ls.length cl, .slice ad V.ds.length cd], .agg #[.int .u16 x, .int .u32 y]] U.W fun e w' => e = .returned (.int .i64 kk) ∧ ∃ U' : ExtW w6, w' = U'.W) := hid fun U => by
        have := refLeaf_any V (some ⟨b, o, none⟩) al ad cm cl cd x y U.W (HV6.out.ext U.h)
        rw [HI.out] at this
        exact quiet_of this (by rw [hlx])
      have CI : Hid (∀ U : ExtW w6, Calls Tryd.prog 21 #[.int .u64 kk] U.W fun e w' => e = .returned (.string ⟨DK.toArray⟩) ∧ ∃ U' : ExtW w6, w' = U'.W) := hid fun U => quiet_of (digits_any kk (by omega) U.W) (by rw [hDK])
      have i1 : IntKind.u64.wrap (kk : Int) = kk := by rw [IntKind.wrap_u64]; omega
      have HOL : Hid (out.length ≤ 20 + 100 * k) := hid hol
      have HFP : Hid (∀ W, Below w6.heap.size w6 W → W.cell? ⟨wr.heap.size, 0, none⟩ = some (.int .u16 x) ∧ W.cell? ⟨wr.heap.size, 1, none⟩ = some (.int .u32 y)) := hid fun W h => ⟨cell_toB p0 h, cell_toB p1 h⟩
      have HA5 := hid a5
      clear hol hwd hpl hdl hT0 hT1 hT2 hT3 hDK hPP hlx g1 g2 g3 g4 hmem hxy hb6 p0 p1 u0 u1 u2 u3 hl3 a5
      go_wp2_with fail
      clear q0 q1 hw6 v0 v1 v2 v3
      refine wp_region_ext (w := w6) (Below.refl _ _) (by kernel_rfl) (by kernel_rfl) ?_
      repeat (go_big_quiet_step (first | with_reducible exact CP.out _ | with_reducible exact CL.out _ | with_reducible exact CI.out _))
      refine wpQuiet_nil ?_
      rintro w9 ⟨⟨_, hb9⟩, rfl⟩
      have HB9 := hid (HB6.out.trans (hb9.mono HB6.out.size))
      obtain ⟨p0, p1⟩ := HFP.out _ hb9
      obtain ⟨v0, v1, v2, v3⟩ := HF2.out _ HB9.out
      clear hb9 f0 f1 f2 f3 f4 f5 a1 a2 a3 a4 CP CL CI
      have C5 := at_any ad cd V.ds x y w9 (by have := HV2.out.ld; omega) (HV2.out.ext HB9.out).ds
      by_cases hd : ((x : Int), (y : Int)) ∈ V.ds
      · have hge : 0 ≤ atIx V.ds ((x : Int), (y : Int)) := by
          have := atIx_nonneg (p := ((x : Int), (y : Int))) (xs := V.ds)
          rw [decide_eq_true hd] at this
          exact of_decide_eq_true this
        obtain ⟨ax, hax⟩ : ∃ ax, atIx V.ds ((x : Int), (y : Int)) = ax := ⟨_, rfl⟩
        rw [hax] at C5 hge
        have C5 := hid C5
        have HWD2 : Hid (out ++ wordP V ((x : Int), (y : Int)) = T3 ++ [42]) := hid (by rw [HWD.out, if_pos hd])
        have HLL : Hid ((T3 ++ [42]).length ≤ 20 + 100 * (k + 1)) := hid (by
          have h1 := HWL.out
          have h2 := HOL.out
          have h3 := congrArg List.length HWD2.out
          rw [List.length_append] at h3
          omega)
        have i2 : decide (ax ≥ 0) = true := decide_eq_true hge
        clear hd HWD hax
        go_wp2_with fail
        (refine C5.out.mono ?_)
        rintro e wE ⟨rfl, hbE⟩
        have HBE := hid (HB9.out.trans (hbE.mono HB9.out.size))
        have a5 := HA5.out
        clear hbE C5 p0 p1 v0 v1 v2 v3
        go_wp2_with fail
        go_roundw
        case rel => exact ⟨k + 1, T3 ++ [42], by simp, by go_num, by omega, HLL.out, hid (by rw [← hf.out, HD.out, ← List.append_assoc, HWD2.out]), HBE⟩
        case measure => simp [intOf]; omega
      · have hge : ¬ 0 ≤ atIx V.ds ((x : Int), (y : Int)) := by
          have := atIx_nonneg (p := ((x : Int), (y : Int))) (xs := V.ds)
          rw [decide_eq_false hd] at this
          exact of_decide_eq_false this
        obtain ⟨ax, hax⟩ : ∃ ax, atIx V.ds ((x : Int), (y : Int)) = ax := ⟨_, rfl⟩
        rw [hax] at C5 hge
        have C5 := hid C5
        have HWD2 : Hid (out ++ wordP V ((x : Int), (y : Int)) = T3) := hid (by rw [HWD.out, if_neg hd, List.append_nil])
        have HLL : Hid (T3.length ≤ 20 + 100 * (k + 1)) := hid (by
          have h1 := HWL.out
          have h2 := HOL.out
          have h3 := congrArg List.length HWD2.out
          rw [List.length_append] at h3
          omega)
        have i2 : decide (ax ≥ 0) = false := decide_eq_false hge
        clear hd HWD hax
        go_wp2_with fail
        (refine C5.out.mono ?_)
        rintro e wE ⟨rfl, hbE⟩
        have HBE := hid (HB9.out.trans (hbE.mono HB9.out.size))
        clear hbE C5 p0 p1 v0 v1 v2 v3
        go_wp2_with fail
        go_roundw
        case rel => exact ⟨k + 1, T3, rfl, by go_num, by omega, HLL.out, hid (by rw [← hf.out, HD.out, ← List.append_assoc, HWD2.out]), HBE⟩
        case measure => simp [intOf]; omega
    · have hke : V.ms.drop k = [] := List.drop_eq_nil_of_le (by omega)
      have hres : out = viewP V := by rw [← hf.out, hke]; simp [wordsP]
      subst hres
      have HB9 := hid (HB2.out.trans (hbw.out.mono HB2.out.size))
      clear hke hol
      go_wp2_with fail
      go_ret
      exact ⟨rfl, HB9.out⟩
end Go.Proofs.YtppapeoainafbaaDoor

namespace Go.Proofs.YtppapeoainafbaaDoor
open Go.RowKit
set_option maxRecDepth 100000 in
set_option maxHeartbeats 4000000 in
theorem viewPrint_any {V : View} {i : Nat} {am al ad : Option Addr} {cm cl cd : Nat} {w : World} (hi : V.id = (i : Int)) (hV : ViewR w am al ad V) (hw : WfPids V.ms) (hsum : lens V.ls ≤ 549755813888) (hc : Hid (checkB V = true)) (ht : TabOk w) :
    Calls Tryd.prog 28 #[.agg #[.int .u64 i, .slice am V.ms.length cm, .slice al V.ls.length cl, .slice ad V.ds.length cd]] w fun e w' => e = .returned (.tuple #[.string ⟨(viewP V).toArray⟩, .int .i64 0]) ∧ Below w.heap.size w w' := by
  obtain ⟨hml, hid0, hlf⟩ := check_leaf hc.out
  obtain ⟨W1, hW1⟩ : ∃ W1, w.alloc (.cells #[.int .u64 i, .slice am V.ms.length cm, .slice al V.ls.length cl, .slice ad V.ds.length cd] 39) = W1 := ⟨_, rfl⟩
  have hb1 : Below w.heap.size w W1 := by rw [← hW1]; exact (Below.refl _ _).alloc (Nat.le_refl _) _
  have v0 : W1.cell? ⟨w.heap.size, 0, none⟩ = some (.int .u64 i) := by rw [← hW1]; simp
  have v1 : W1.cell? ⟨w.heap.size, 1, none⟩ = some (.slice am V.ms.length cm) := by rw [← hW1]; simp
  have v2 : W1.cell? ⟨w.heap.size, 2, none⟩ = some (.slice al V.ls.length cl) := by rw [← hW1]; simp
  have v3 : W1.cell? ⟨w.heap.size, 3, none⟩ = some (.slice ad V.ds.length cd) := by rw [← hW1]; simp
  have HB1 := hid hb1
  have HV1 := hid (hV.ext hb1)
  have HT1 := hid (ht.ext hb1)
  have HW := hid hw
  have HLF := hid hlf
  have C1 := hid (check_is (cm := cm) (cl := cl) (cd := cd) hc (k := 0) rfl (hV.ext hb1) hsum)
  rw [hi] at C1
  have HI := hid hi
  clear hb1 hV ht hw hlf hsum
  go_enter Tryd.func28, Tryd.ntmps28
  go_wp2_with fail
  (refine C1.out.mono ?_)
  rintro e w2 ⟨rfl, hb2⟩
  have HB2 := hid (HB1.out.trans (hb2.mono HB1.out.size))
  have v0 := cell_toB v0 hb2
  have v1 := cell_toB v1 hb2
  have v2 := cell_toB v2 hb2
  have v3 := cell_toB v3 hb2
  have HV2 := hid (HV1.out.ext hb2)
  have HT2 := hid (HT1.out.ext hb2)
  clear hb2 C1 hW1 HV1 HT1 hc
  have lt0 := World.block_lt_of_cell? w2 _ v0
  obtain ⟨w3, hw3⟩ : ∃ w3, w2.alloc (.cells #[.pointer none, .slice none 0 0] 83) = w3 := ⟨_, rfl⟩
  have hbl3 : Bld w2.heap.size w2.heap.size [] w3 := by rw [← hw3]; exact Lib.fresh_isBuilder _ _ w2
  have hb3 : Below w2.heap.size w2 w3 := by rw [← hw3]; exact (Below.refl _ _).alloc (Nat.le_refl _) _
  have HF2 : Hid (∀ W, Below w2.heap.size w2 W → W.cell? ⟨w.heap.size, 0, none⟩ = some (.int .u64 i) ∧ W.cell? ⟨w.heap.size, 1, none⟩ = some (.slice am V.ms.length cm) ∧ W.cell? ⟨w.heap.size, 2, none⟩ = some (.slice al V.ls.length cl) ∧ W.cell? ⟨w.heap.size, 3, none⟩ = some (.slice ad V.ds.length cd)) := hid fun W h => ⟨cell_toB v0 h, cell_toB v1 h, cell_toB v2 h, cell_toB v3 h⟩
  have v0 := cell_toB v0 hb3
  have v1 := cell_toB v1 hb3
  have C2 := hid (fmt_any i (by have := hid0.2; omega) w3 (HT2.out.ext hb3))
  have HB3 := hid hb3
  have HBL3 := hid hbl3
  clear hbl3 hb3 v2 v3
  go_wp2_with fail
  (refine C2.out.mono ?_)
  rintro e w4 ⟨rfl, hb4⟩
  have HB4 := hid (HB3.out.trans (hb4.mono HB3.out.size))
  have hdl := dec_len i 19 (by have := hid0.2; omega)
  have BL4 : Bld w2.heap.size w2.heap.size [] w4 := Bld.extB HBL3.out hb4
  have C3 := hid (bws_any w2.heap.size w2.heap.size [] (Lib.decDigits i) w4 BL4 (by simp; omega) HB4.out.size)
  clear hb4 C2 BL4 HBL3 hw3
  go_wp2_with fail
  (refine C3.out.mono ?_)
  rintro e w5 ⟨rfl, bl5, hb5, -⟩
  have HB5 := hid (HB4.out.trans hb5)
  have HBL5 : Hid (BldU w2.heap.size w2.heap.size (Lib.decDigits i) w5) := hid bl5
  obtain ⟨v0, v1, v2, v3⟩ := HF2.out _ HB5.out
  have HDL := hid hdl
  clear hb5 C3 bl5 hdl v0 v2 v3
  go_wp2_with fail
  clear v1
  go_loopw [6, 17] (fun u iv wr => ∃ (k : Nat) (out : Str), iv = .int .i64 k ∧ k ≤ V.ms.length ∧ out.length ≤ 20 + 100 * k ∧ Hid (out ++ wordsP V (V.ms.drop k) = viewP V) ∧ Hid (BldU w2.heap.size w2.heap.size out wr) ∧ Hid (Below w2.heap.size w2 wr)) (fun _ iv _ => V.ms.length - (intOf iv).toNat)
  case atStart => exact ⟨0, Lib.decDigits i, rfl, Nat.zero_le _, by have := HDL.out; omega, hid (by unfold viewP; rw [HI.out]; rfl), HBL5, HB5⟩
  case round =>
    obtain ⟨k, out, rfl, hk, hol, hf, hbl, hbw⟩ := hrel
    clear HBL5 HB5 HB3 HB4 HDL
    by_cases hlt : k < V.ms.length
    · obtain ⟨b, o, x, y, rfl, hxy, q0, q1⟩ := HV2.out.ms.at hbw.out rfl hlt
      have hmem : (x, y) ∈ V.ms := by rw [hxy]; exact List.getElem_mem hlt
      obtain ⟨g1, g2, g3, g4⟩ := HW.out (x, y) hmem
      obtain ⟨kk, hkk, hlx⟩ := HLF.out (x, y) hmem
      simp only at g1 g2 g3 g4
      obtain ⟨x, rfl⟩ := Int.eq_ofNat_of_zero_le g1
      obtain ⟨y, rfl⟩ := Int.eq_ofNat_of_zero_le g3
      have hx : x < 65536 := by omega
      have hy : y < 4294967296 := by omega
      have HD := hid (wordsP_drop V hlt hxy)
      have HWL := hid (wordP_len hx hy hkk hlx)
      obtain ⟨PP, hPP⟩ : ∃ PP, printP ((x : Int), (y : Int)) = PP := ⟨_, rfl⟩
      obtain ⟨DK, hDK⟩ : ∃ DK, Lib.decDigits kk = DK := ⟨_, rfl⟩
      have hpl : PP.length ≤ 50 := by
        obtain ⟨l0, l1⟩ := printP_len hx hy
        rw [← hPP]; unfold printP; simp only [Int.toNat_natCast, List.length_append, List.length_cons]; omega
      have hdl : DK.length ≤ 3 := by rw [← hDK]; exact dec_len kk 2 (by omega)
      have hwd : wordP V ((x : Int), (y : Int)) = [32] ++ PP ++ [47] ++ DK ++ (if ((x : Int), (y : Int)) ∈ V.ds then [42] else []) := by
        unfold wordP; rw [hPP, hlx, Int.toNat_natCast, hDK]
      have a1 := run_cat [32] PP (by simp) (by omega)
      have a2 := run_cat ([32] ++ PP) [47] (by simp; omega) (by simp)
      have a3 := run_cat ([32] ++ PP ++ [47]) DK (by simp; omega) (by omega)
      obtain ⟨T1, hT1⟩ : ∃ T1, [32] ++ PP = T1 := ⟨_, rfl⟩
      rw [hT1] at a1 a2 a3 hwd
      obtain ⟨T2, hT2⟩ : ∃ T2, T1 ++ [47] = T2 := ⟨_, rfl⟩
      rw [hT2] at a2 a3 hwd
      obtain ⟨T3, hT3⟩ : ∃ T3, T2 ++ DK = T3 := ⟨_, rfl⟩
      rw [hT3] at a3 hwd
      have ht3 : T3.length ≤ 100 := by have := HWL.out; rw [hwd, List.length_append] at this; omega
      have HWD := hid hwd
      obtain ⟨w6, hw6⟩ : ∃ w6, wr.alloc (.cells #[.int .u16 x, .int .u32 y] 25) = w6 := ⟨_, rfl⟩
      have hb6 : Below wr.heap.size wr w6 := by rw [← hw6]; exact (Below.refl _ _).alloc (Nat.le_refl _) _
      have hh6 : w6.heap[wr.heap.size]? = some (.cells #[.int .u16 x, .int .u32 y] 25 (0, 0)) := by rw [← hw6]; exact heap_alloc_new wr _
      have p0 : w6.cell? ⟨wr.heap.size, 0, none⟩ = some (.int .u16 x) := by rw [← hw6]; simp
      have p1 : w6.cell? ⟨wr.heap.size, 1, none⟩ = some (.int .u32 y) := by rw [← hw6]; simp
      have HB6 := hid (hbw.out.trans (hb6.mono hbw.out.size))
      have hbl6 := hbl.out.ext hb6
      have hlt6 : wr.heap.size < w6.heap.size := (Array.getElem?_eq_some_iff.1 hh6).1
      have hne6 : wr.heap.size ≠ w2.heap.size := by
        have h1 := (Array.getElem?_eq_some_iff.1 hbl.out.2.choose_spec.1).1
        omega
      obtain ⟨v0, v1, v2, v3⟩ := HF2.out _ HB6.out
      have HS : Hid (∀ W, Below w6.heap.size w6 W → Below w2.heap.size w2 W ∧ W.cell? ⟨wr.heap.size, 0, none⟩ = some (.int .u16 x) ∧ W.cell? ⟨wr.heap.size, 1, none⟩ = some (.int .u32 y) ∧ W.cell? ⟨w.heap.size, 0, none⟩ = some (.int .u64 i) ∧ W.cell? ⟨w.heap.size, 1, none⟩ = some (.slice (some ⟨b, o, none⟩) V.ms.length cm) ∧ W.cell? ⟨w.heap.size, 2, none⟩ = some (.slice al V.ls.length cl) ∧ W.cell? ⟨w.heap.size, 3, none⟩ = some (.slice ad V.ds.length cd)) := hid fun W h => ⟨HB6.out.trans (h.mono HB6.out.size), cell_toB p0 h, cell_toB p1 h, cell_toB v0 h, cell_toB v1 h, cell_toB v2 h, cell_toB v3 h⟩
      have CP : Hid (∀ W, Below w6.heap.size w6 W → Calls Tryd.prog 6 #[.agg #[.int .u16 x, .int .u32 y]] W fun e w' => e = .returned (.string ⟨PP.toArray⟩) ∧ Below w6.heap.size w6 w') := hid fun W h => by
        refine (print_any hx hy W (HT2.out.ext (HB6.out.trans (h.mono HB6.out.size)))).mono ?_
        rintro e w' ⟨rfl, hb⟩
        exact ⟨by rw [hPP], h.trans (hb.mono h.size)⟩
      have CL : Hid (∀ W, Below w6.heap.size w6 W → Calls Tryd.prog 48 #[.agg #[.int .u64 i, .slice (some ⟨b, o, none⟩) V.ms.length cm, .slice al V.ls.length cl, .slice ad V.ds.length cd], .agg #[.int .u16 x, .int .u32 y]] W fun e w' => e = .returned (.int .i64 kk) ∧ Below w6.heap.size w6 w') := hid fun W h => by
        have := leaf_any V (some ⟨b, o, none⟩) al ad cm cl cd x y W (HV2.out.ext (HB6.out.trans (h.mono HB6.out.size)))
        rw [HI.out, hlx] at this
        refine this.mono ?_
        rintro e w' ⟨rfl, hb⟩
        exact ⟨rfl, h.trans (hb.mono h.size)⟩
      have CI : Hid (∀ W, Below w6.heap.size w6 W → Calls Tryd.prog 47 #[.int .i64 kk] W fun e w' => e = .returned (.string ⟨DK.toArray⟩) ∧ Below w6.heap.size w6 w') := hid fun W h => by
        refine (itoa_any kk hkk W).mono ?_
        rintro e w' ⟨rfl, rfl⟩
        exact ⟨by rw [hDK], h⟩
      have CW : Hid (∀ W, Below w6.heap.size w6 W → Calls Tryd.prog 46 #[.pointer (some ⟨w2.heap.size, 0, none⟩), .string ⟨T3.toArray⟩] W fun e w' => e = .returned (.tuple #[.int .i64 T3.length, .nilIface]) ∧ BldU w2.heap.size w2.heap.size (out ++ T3) w' ∧ Below w2.heap.size w2 w' ∧ w'.heap[wr.heap.size]? = some (.cells #[.int .u16 x, .int .u32 y] 25 (0, 0))) := hid fun W h => by
        have hB := HB6.out.trans (h.mono HB6.out.size)
        refine (bws_any w2.heap.size w2.heap.size out T3 W (.inr (hbl6.ext h)) (by omega) hB.size).mono ?_
        rintro e w' ⟨rfl, h1, h2, h3⟩
        exact ⟨rfl, h1, hB.trans h2, okept h3 ((h.block _ hlt6).trans hh6) hne6 (by decide)⟩
      have H0 : Below w6.heap.size w6 w6.drew := (Below.refl _ _).drew
      have HQ : Hid (∀ W, Below w2.heap.size w2 W → W.heap[wr.heap.size]? = some (.cells #[.int .u16 x, .int .u32 y] 25 (0, 0)) → Below w2.heap.size w2 W ∧ W.cell? ⟨wr.heap.size, 0, none⟩ = some (.int .u16 x) ∧ W.cell? ⟨wr.heap.size, 1, none⟩ = some (.int .u32 y) ∧ W.cell? ⟨w.heap.size, 0, none⟩ = some (.int .u64 i) ∧ W.cell? ⟨w.heap.size, 1, none⟩ = some (.slice (some ⟨b, o, none⟩) V.ms.length cm) ∧ W.cell? ⟨w.heap.size, 2, none⟩ = some (.slice al V.ls.length cl) ∧ W.cell? ⟨w.heap.size, 3, none⟩ = some (.slice ad V.ds.length cd)) := hid fun W h hg => ⟨h, by rw [Lib.cell_of_heap hg]; rfl, by rw [Lib.cell_of_heap hg]; rfl, HF2.out W h⟩
      have HOL : Hid (out.length ≤ 20 + 100 * k) := hid hol
      clear hol hwd ht3 hpl hdl hT1 hT2 hT3 hDK hPP hlx hkk g1 g2 g3 g4 hmem hxy hbl6 hlt6 hne6 hh6 hb6 p0 p1 v0 v1 v2 v3
      go_wp2_with fail
      clear q0 q1 hw6
      go_region_held3 (fun W => Below w2.heap.size w2 W ∧ W.cell? ⟨wr.heap.size, 0, none⟩ = some (.int .u16 x) ∧ W.cell? ⟨wr.heap.size, 1, none⟩ = some (.int .u32 y) ∧ W.cell? ⟨w.heap.size, 0, none⟩ = some (.int .u64 i) ∧ W.cell? ⟨w.heap.size, 1, none⟩ = some (.slice (some ⟨b, o, none⟩) V.ms.length cm) ∧ W.cell? ⟨w.heap.size, 2, none⟩ = some (.slice al V.ls.length cl) ∧ W.cell? ⟨w.heap.size, 3, none⟩ = some (.slice ad V.ds.length cd)) (first | exact HS.out _ H0 | exact HQ.out _ (by assumption) (by assumption) | exact HS.out _ (by assumption)) (first
        | ((go_at_call 6; refine (CP.out _ H0).mono ?_; rintro e wA ⟨rfl, hbA⟩))
        | ((go_at_call 48; refine (CL.out _ hbA).mono ?_; rintro e wB ⟨rfl, hbB⟩))
        | ((go_at_call 47; refine (CI.out _ hbB).mono ?_; rintro e wC ⟨rfl, hbC⟩))
        | ((go_at_call 46; refine (CW.out _ hbC).mono ?_; rintro e wD ⟨rfl, hblD, hbD, hgD⟩)))
      all_goals (
        obtain ⟨-, p0, p1, v0, v1, v2, v3⟩ := HQ.out wD hbD hgD
        have C5 := leads_any V (some ⟨b, o, none⟩) al ad cm cl cd x y wD (HV2.out.ext hbD)
        rw [HI.out] at C5
        have HBL9 : Hid (BldU w2.heap.size w2.heap.size (out ++ T3) wD) := hid hblD
        have HB9 := hid hbD
        clear hbA hbB hbC hblD hbD hgD CP CL CI CW H0 HS a1 a2 a3
        by_cases hd : ((x : Int), (y : Int)) ∈ V.ds
        · rw [decide_eq_true hd] at C5
          have C5 := hid C5
          have HWD2 : Hid (wordP V ((x : Int), (y : Int)) = T3 ++ [42]) := hid (by rw [HWD.out, if_pos hd])
          have HLL : Hid ((out ++ T3 ++ [42]).length ≤ 20 + 100 * (k + 1)) := hid (by
            have h1 := HWL.out
            have h2 := HOL.out
            rw [HWD2.out] at h1
            simp only [List.length_append] at h1 ⊢
            omega)
          clear hd HWD
          go_wp2_with fail
          (refine C5.out.mono ?_)
          rintro e wE ⟨rfl, hbE⟩
          have HBE := hid (HB9.out.trans (hbE.mono HB9.out.size))
          have C6 := hid (bwb_any w2.heap.size w2.heap.size (out ++ T3) 42 wE (.inr (HBL9.out.ext hbE)) (by have := HLL.out; simp only [List.length_append, List.length_cons, List.length_nil] at this ⊢; omega) HBE.out.size)
          rw [show (((42 : UInt8).toNat : Nat) : Int) = 42 from rfl] at C6
          clear hbE C5 p0 p1 v0 v1 v2 v3
          go_wp2_with fail
          (refine C6.out.mono ?_)
          rintro e wF ⟨rfl, hblF, hbF, -⟩
          have HBLF : Hid (BldU w2.heap.size w2.heap.size (out ++ T3 ++ [42]) wF) := hid hblF
          have HBF := hid (HBE.out.trans hbF)
          clear hblF hbF C6
          go_wp2_with fail
          go_roundw
          case rel => exact ⟨k + 1, out ++ T3 ++ [42], by go_num, by omega, HLL.out, hid (by rw [← hf.out, HD.out, HWD2.out]; simp), HBLF, HBF⟩
          case measure => simp [intOf]; omega
        · rw [decide_eq_false hd] at C5
          have C5 := hid C5
          have HWD2 : Hid (wordP V ((x : Int), (y : Int)) = T3) := hid (by rw [HWD.out, if_neg hd, List.append_nil])
          have HLL : Hid ((out ++ T3).length ≤ 20 + 100 * (k + 1)) := hid (by
            have h1 := HWL.out
            have h2 := HOL.out
            rw [HWD2.out] at h1
            simp only [List.length_append] at h1 ⊢
            omega)
          clear hd HWD
          go_wp2_with fail
          (refine C5.out.mono ?_)
          rintro e wE ⟨rfl, hbE⟩
          have HBE := hid (HB9.out.trans (hbE.mono HB9.out.size))
          have HBLE : Hid (BldU w2.heap.size w2.heap.size (out ++ T3) wE) := hid (HBL9.out.ext hbE)
          clear hbE C5 p0 p1 v0 v1 v2 v3
          go_wp2_with fail
          go_roundw
          case rel => exact ⟨k + 1, out ++ T3, by go_num, by omega, HLL.out, hid (by rw [← hf.out, HD.out, HWD2.out]; simp), HBLE, HBE⟩
          case measure => simp [intOf]; omega)
    · have hke : V.ms.drop k = [] := List.drop_eq_nil_of_le (by omega)
      have hres : out = viewP V := by rw [← hf.out, hke]; simp [wordsP]
      have C4 := hid (bst_any w2.heap.size w2.heap.size out wr (.inr hbl.out) hbw.out.size)
      have HR := hid hres
      clear hres hke hol
      go_wp2_with fail
      (refine C4.out.mono ?_)
      rintro e w9 ⟨rfl, hb9⟩
      have HB9 := hid (HB2.out.trans ((hbw.out.trans hb9).mono HB2.out.size))
      clear hb9 C4
      go_wp2_with fail
      rw [HR.out]
      exact bodyPost_ret (v := .tuple #[.string ⟨(viewP V).toArray⟩, .int .i64 0]) (by simp [results, Tryd.results28, go_sem]) rfl ⟨rfl, HB9.out⟩
end Go.Proofs.YtppapeoainafbaaDoor

namespace Go.Proofs.YtppapeoainafbaaDoor
open Go.RowKit
/-! ### bits.Hex -/
theorem run_make2 (w : World) (n : Nat) (h : n ≤ 1000000) : (Instr.makeSlice 35 (.int .i64 0) (.int .i64 (2 * (n : Int)))).run Tryd.prog w = .ok (.slice (some ⟨w.heap.size, 0, none⟩) 0 (2 * n)) (w.alloc (.cells (madeCells #[.int .u8 0] (2 * n)) 5)) := by
  obtain ⟨i0, hi, hz0, hz1, hz2⟩ := info_parts infoB
  have := run_make (P := Tryd.prog) w 35 5 i0 (.int .u8 0) Tryd.underlying35 hi hz0 .i64 .i64 (0 : Nat) (2 * (n : Int)) (by omega) (by omega) (by rw [hz2]; omega) (by omega)
  rw [hz1] at this
  have e1 : (2 * (n : Int)).toNat = 2 * n := by omega
  rw [e1] at this
  simpa [Value.cells] using this
theorem ByteRow.two (w : World) (x y : Nat) : ByteRow (w.alloc (.cells #[.int .u8 x, .int .u8 y] 5)) (some ⟨w.heap.size, 0, none⟩) [x, y] :=
  .inr ⟨w.heap.size, 0, rfl, by simp, fun i hi => by
    have : i = 0 ∨ i = 1 := by simp at hi; omega
    rcases this with rfl | rfl <;> simp⟩
def natsOf (s : Str) : List Nat := s.map (·.toNat)
theorem run_bytes_str {w : World} {a : Option Addr} {c n : Nat} {s : Str} (hr : ByteRow w a (natsOf s)) (hn : s.length = n) : (convert 35 9 (.slice a n c)).run Tryd.prog w = .ok (.string ⟨s.toArray⟩) w := by
  subst hn
  have hz : (⟨s.toArray⟩ : ByteArray).size = s.length := by show s.toArray.size = _; simp
  have nil : ∀ b, s = [] → a = some b → (convert 35 9 (.slice a s.length c)).run Tryd.prog w = .ok (.string ⟨s.toArray⟩) w := by
    rintro ad rfl rfl
    rw [run_convert_bytes_string w _ _ 5 _ _ c Tryd.underlying35 Tryd.underlying5 Tryd.underlying9]
    have h0 : (loadCells ad 0).run Tryd.prog w = .ok (([] : List Int).map (Value.int .u8)).toArray w := run_loadCells_list (w := w) ad [] (by simp)
    have := run_bytesToString w ad 0 c [] h0
    exact this
  cases a with
  | none =>
    rcases hr with h | ⟨b, off, e, -⟩
    · have hs : s = [] := by simpa [natsOf] using h
      subst hs
      exact Lib.run_convert_nil_bytes w _ _ 5 c Tryd.underlying35 Tryd.underlying5 Tryd.underlying9
    · cases e
  | some ad =>
    rcases hr with h | ⟨b, off, e, hlt, hc⟩
    · exact nil ad (by simpa [natsOf] using h) rfl
    · cases e
      have := Lib.run_convert_whole (P := Tryd.prog) w 35 5 9 Tryd.underlying35 Tryd.underlying5 Tryd.underlying9 b off ⟨s.toArray⟩ (fun i hi => by
        have := hc i (by rw [hz] at hi; simpa [natsOf] using hi)
        rw [this]
        simp [natsOf]; rfl) c
      rw [hz] at this
      exact this
theorem run_hexI (n : Nat) (h : n < 16) (W : World) : (Instr.index 9 (.string ⟨#[48, 49, 50, 51, 52, 53, 54, 55, 56, 57, 97, 98, 99, 100, 101, 102]⟩) (.int .u8 (n : Int))).run Tryd.prog W = .ok (.int .u8 ((hexD n).toNat : Int)) W := by
  have hz : (⟨#[48, 49, 50, 51, 52, 53, 54, 55, 56, 57, 97, 98, 99, 100, 101, 102]⟩ : ByteArray).size = 16 := rfl
  rw [run_index_string W 9 _ .u8 _ Tryd.underlying9, dif_pos (by rw [hz]; omega)]
  have : n = 0 ∨ n = 1 ∨ n = 2 ∨ n = 3 ∨ n = 4 ∨ n = 5 ∨ n = 6 ∨ n = 7 ∨ n = 8 ∨ n = 9 ∨ n = 10 ∨ n = 11 ∨ n = 12 ∨ n = 13 ∨ n = 14 ∨ n = 15 := by omega
  rcases this with rfl | rfl | rfl | rfl | rfl | rfl | rfl | rfl | rfl | rfl | rfl | rfl | rfl | rfl | rfl | rfl <;> rfl
set_option maxHeartbeats 3200000 in
theorem hex_any {a : Option Addr} {c n : Nat} {bs : List Nat} {w : World} (hn : Hid (bs.length = n)) (hnl : n ≤ 1000000) (hb : ∀ b ∈ bs, b < 256) (hx : ByteRow w a bs) :
    Calls Tryd.prog 27 #[.slice a n c] w fun e w' => e = .returned (.string ⟨(hexP bs).toArray⟩) ∧ Below w.heap.size w w' := by
  have HX := hid hx
  have HB := hid hb
  clear hx hb
  have hmk := fun W => run_make2 W n hnl
  have i1 : IntKind.i64.wrap (2 * (n : Int)) = 2 * (n : Int) := by rw [IntKind.wrap_i64]; omega
  go_enter Tryd.func27, Tryd.ntmps27
  go_wp2_with fail
  clear hmk
  have HO0 : Hid (OwnB (w.alloc (.cells (madeCells #[.int .u8 0] (2 * n)) 5)) w.heap.size (.slice (some ⟨w.heap.size, 0, none⟩) 0 (2 * n)) []) := hid (World.ownsRow_made (w := w) _ _ (Nat.le_refl _) (by unfold maxLen; omega) (by simp [size_madeCells]))
  have HB0 : Hid (Below w.heap.size w (w.alloc (.cells (madeCells #[.int .u8 0] (2 * n)) 5))) := hid ((Below.refl _ _).alloc (Nat.le_refl _) _)
  go_loopw [3, 12] (fun v iv wr => ∃ (out : Str) (k : Nat), iv = .int .i64 k ∧ k ≤ n ∧ out.length ≤ 2 * k ∧ Hid (out ++ hexP (bs.drop k) = hexP bs) ∧ Hid (OwnB wr w.heap.size v (natsOf out)) ∧ Hid (Below w.heap.size w wr)) (fun _ iv _ => n - (intOf iv).toNat)
  case atStart => exact ⟨[], 0, rfl, Nat.zero_le _, by simp, hid rfl, HO0, HB0⟩
  case round =>
    obtain ⟨out, k, rfl, hk, hol, hf, hown, hbw⟩ := hrel
    clear HO0 HB0
    by_cases hlt : k < n
    · have hk1 : k < bs.length := by rw [hn.out]; exact hlt
      obtain ⟨b, o, x, rfl, hxk, q0⟩ := HX.out.at hbw.out rfl hk1
      have hx256 : x < 256 := by rw [hxk]; exact HB.out _ (List.getElem_mem hk1)
      have HD := hid (hexP_drop hk1 hxk)
      have hol2 : (out ++ [hexD (x / 16)] ++ [hexD (x % 16)]).length ≤ 2 * (k + 1) := by simp; omega
      have HO := hid hol2
      have HLN : Hid ((natsOf out).length ≤ 2000000) := hid (by simp [natsOf]; omega)
      have HSZ := hid hbw.out.size
      clear hxk hol hol2
      go_wp2_with fail
      have UI1 := run_hexI (x / 16) (by omega)
      have UI2 := run_hexI (x % 16) (by omega)
      have e1 : ((x / 16 : Nat) : Int) = (x : Int) / 16 := by omega
      have e2 : ((x % 16 : Nat) : Int) = (x : Int) % 16 := by omega
      have e3 : bits .and .u8 (x : Int) 15 = (x : Int) % 16 := by
        have := u8_and_nat x 15 hx256 (by omega)
        rw [show ((15 : Nat) : Int) = 15 from rfl] at this
        rw [this, show x &&& 15 = x % 16 from Nat.and_two_pow_sub_one_eq_mod x 4]; omega
      rw [e1] at UI1
      rw [e2] at UI2
      obtain ⟨h1, eh1⟩ : ∃ h1, (hexD (x / 16)).toNat = h1 := ⟨_, rfl⟩
      obtain ⟨h2, eh2⟩ : ∃ h2, (hexD (x % 16)).toNat = h2 := ⟨_, rfl⟩
      rw [eh1] at UI1
      rw [eh2] at UI2
      have hq := (Below.refl wr.heap.size wr).alloc (Nat.le_refl _) (.cells #[.int .u8 h1, .int .u8 h2] 5)
      have HO1 : Hid (OwnB (wr.alloc (.cells #[.int .u8 h1, .int .u8 h2] 5)).drew w.heap.size u3 (natsOf out)) := hid ((hown.out.ext hq).ext (Below.refl _ _).drew)
      have HR1 : Hid (ByteRow (wr.alloc (.cells #[.int .u8 h1, .int .u8 h2] 5)).drew (some ⟨wr.heap.size, 0, none⟩) [h1, h2]) := hid ((ByteRow.two wr h1 h2).ext (Below.refl _ _).drew)
      have H0 : Below w.heap.size w wr := hbw.out
      have H0' : Below w.heap.size w wr.drew := hbw.out.drew
      have H1 : Below w.heap.size w (wr.alloc (.cells #[.int .u8 h1, .int .u8 h2] 5)).drew := (hbw.out.alloc hbw.out.size _).drew
      have EH : Hid (natsOf (out ++ [hexD (x / 16)] ++ [hexD (x % 16)]) = natsOf out ++ [h1, h2]) := hid (by simp [natsOf, eh1, eh2])
      clear e1 e2 eh1 eh2 hq
      go_region_held3 (fun W => Below w.heap.size w W) (first | exact H0 | exact H0' | exact H1 | assumption) (first | ((refine step_appendB (by rfl) HO1.out HR1.out (hid rfl) (by simp; have := HLN.out; omega) (by simp; have := HSZ.out; omega) rfl rfl rfl ?_; intro v2 w2 hown2 hg2; have hb2 : Below w.heap.size w w2 := below_of_grown H1 hg2 HO1.out (by simp; have := HSZ.out; omega) (Nat.le_refl _))))
      all_goals (
        have HO2 : Hid (OwnB w2 w.heap.size v2 (natsOf (out ++ [hexD (x / 16)] ++ [hexD (x % 16)]))) := hid (by rw [EH.out]; exact hown2)
        have HB2 := hid hb2
        clear hown2 hg2 hb2 H0 H0' H1 UI1 UI2 q0 e3
        go_wp2_with fail
        go_roundw
        case rel => exact ⟨out ++ [hexD (x / 16)] ++ [hexD (x % 16)], k + 1, by go_num, by omega, HO.out, hid (by rw [← hf.out, HD.out, List.append_assoc, List.append_assoc]), HO2, HB2⟩
        case measure => simp [intOf]; omega)
    · have hke : bs.drop k = [] := List.drop_eq_nil_of_le (by rw [hn.out]; omega)
      have hres : out = hexP bs := by rw [← hf.out, hke]; simp [hexP]
      subst hres
      obtain ⟨a1, c1, rfl, hr1, -⟩ := hown.out.row
      have hl1 : (natsOf (hexP bs)).length = 2 * n := by unfold natsOf; rw [List.length_map, hexP_len, hn.out]
      rw [hl1]
      have hcv := run_bytes_str (c := c1) hr1 (n := 2 * n) (by rw [hexP_len, hn.out])
      clear hl1 hr1 hown
      go_wp2_with fail
      go_ret
      exact ⟨rfl, hbw.out⟩
end Go.Proofs.YtppapeoainafbaaDoor

