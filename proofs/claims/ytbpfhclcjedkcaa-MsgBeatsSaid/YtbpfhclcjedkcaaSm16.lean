/- Parts of the proof: X28 X29. -/
import Derived.Lib.SmallJoins
import Derived.Test.YtbpfhclcjedkcaaSm13
namespace Go.Proofs.Ytbpfhclcjedkcaa
open Go.RowKit

/-! ### cmd.Put, where the command may be -/
theorem CmdBox.mutT {w w' : World} {b s : Nat} {c : CmdD} {da am al ad : Option Addr} {dc cm cl cd : Nat} (h : CmdBox w b c da am al ad dc cm cl cd) (hm : Mut (fun k => k = s) w w') (hb : b ≠ s) : CmdBox w' b c da am al ad dc cm cl cd :=
  ⟨cell_mut h.c0 hm hb, cell_mut h.c1 hm hb, cell_mut h.c2 hm hb, cell_mut h.c3 hm hb, cell_mut h.c4 hm hb, cell_mut h.c5 hm hb, cell_mut h.c6 hm hb, cell_mut h.c7 hm hb, cell_mut h.c8 hm hb, cell_mut h.c9 hm hb⟩
theorem cmdCheck_is {A : CmdD} {da am al ad : Option Addr} {dc cm cl cd : Nat} {w : World} {r : Int} (h : Hid ((cmdChk A : Int) = r)) (hA : CmdR w da am al ad A) (hsum : lens A.v.ls ≤ 549755813888) (hwf : WfPids A.v.ms) (hfr : okP A.fr) :
   Calls Try.prog 106 #[.agg (cmdL da am al ad dc cm cl cd A)] w fun e w' => e = .returned (.int .i64 r) ∧ Below w.heap.size w w' := by
  have := cmdCheck_any (dc := dc) (cm := cm) (cl := cl) (cd := cd) hA hsum hwf hfr
  rw [h.out] at this; exact this
theorem cmdF_1 {A : CmdD} (h : A.kind = 1) : cmdF A = short 1 := by
  unfold cmdF; rw [if_neg (by omega), if_neg (by omega), h]; simp
theorem cmdF_2 {A : CmdD} {x y : Nat} (h : A.kind = 2) (hf : A.fr = ((x : Int), (y : Int))) : cmdF A = short 2 ++ ((short x ++ short y) ++ (short A.num ++ (short A.vw ++ (short A.data.length ++ A.data)))) := by
  unfold cmdF; rw [if_pos h, h, hf, pidF_nat]; rfl
theorem cmdF_3 {A : CmdD} (h : A.kind = 3) : cmdF A = short 3 ++ viewF A.v := by
  unfold cmdF; rw [if_neg (by omega), if_pos h, h]; rfl
theorem cmdChk_kinds {A : CmdD} (h : cmdChk A = 0) : A.kind = 1 ∨ (A.kind = 2 ∧ A.num < 18446744073709551616 ∧ A.vw < 18446744073709551616 ∧ A.data.length ≤ 200) ∨ (A.kind = 3 ∧ refCheckB A.v = true) := by
  unfold cmdChk at h
  split at h
  · next h1 => exact .inl h1
  · split at h
    · next h2 =>
      split at h
      · next g =>
        obtain ⟨-, g2, g3, -⟩ := g
        unfold cntB at g2 g3
        simp only [Bool.and_eq_true, decide_eq_true_eq] at g2 g3
        split at h
        · cases h
        · exact .inr (.inl ⟨h2, by omega, by omega, by omega⟩)
      · cases h
    · split at h
      · next h3 =>
        split at h
        · next g => exact .inr (.inr ⟨h3, g.2.2.2.2⟩)
        · cases h
      · cases h
theorem ByteRow.far {w : World} {a : Option Addr} {l : List Nat} (h : ByteRow w a l) {s : Nat} (hs : w.heap.size ≤ s) : ∀ b off, a = some ⟨b, off, none⟩ → l ≠ [] → b ≠ s := by
  rintro b off rfl hl
  rcases h with rfl | ⟨b', off', e, hlt, -⟩
  · exact absurd rfl hl
  · cases e; omega
theorem wNum_z {s : Nat} {v : Value} {bs : List Nat} {w : World} (m : Nat) {z : Int} (hz : z = (m : Int)) (hW : WrIs w s v bs) (hl : bs.length ≤ 137438953472) (hm : m < 18446744073709551616) :
    Calls Try.prog 91 #[.pointer (some ⟨s, 0, none⟩), .int .u64 z] w fun e w' => e = .returned (.tuple #[]) ∧ ∃ v', Wrote w w' s v' (bs ++ short m) := by
  subst hz; exact wNum_any m hW hl hm
theorem below_mut {w0 W W' : World} {s : Nat} (h : Below w0.heap.size w0 W) (hm : Mut (fun k => k = s) W W') (hs : w0.heap.size ≤ s) : Below w0.heap.size w0 W' :=
  h.trans (hm.below h.size (fun _k e => e ▸ hs))

set_option maxRecDepth 100000 in
set_option maxHeartbeats 6400000 in
theorem cmdPut_any {s : Nat} {v : Value} {bs : List Nat} {A : CmdD} {da am al ad : Option Addr} {dc cm cl cd : Nat} {w0 w : World} (hW : WrIs w s v bs) (hbl : bs.length ≤ 900000)
    (hdr : ByteRow w da A.data) (hdb : ∀ b ∈ A.data, b < 256) (hdl : A.data.length ≤ 400) (hdne : ∀ b off, da = some ⟨b, off, none⟩ → A.data ≠ [] → b ≠ s)
    (hV : ViewR w0 am al ad A.v) (h0 : Below w0.heap.size w0 w) (hs0 : w0.heap.size ≤ s) (hfr : okP A.fr) (hwf : WfPids A.v.ms) (hid64 : 0 ≤ A.v.id ∧ A.v.id < 18446744073709551616) (hsum : lens A.v.ls ≤ 549755813888) (hc : cmdChk A = 0) :
   Calls Try.prog 96 #[.pointer (some ⟨s, 0, none⟩), .agg (cmdL da am al ad dc cm cl cd A)] w fun e w' => e = .returned (.tuple #[]) ∧ ∃ v', Wrote w w' s v' (bs ++ cmdF A) := by
  have hB1 : Below w.heap.size w (w.alloc (.cells (cmdL da am al ad dc cm cl cd A) 44)) := (Below.refl _ _).alloc (Nat.le_refl _) _
  have hb01 : Below w0.heap.size w0 (w.alloc (.cells (cmdL da am al ad dc cm cl cd A) 44)) := h0.trans (hB1.mono h0.size)
  have hdr1 := hdr.ext hB1
  have CK : Hid (Calls Try.prog 106 #[.agg (cmdL da am al ad dc cm cl cd A)] (w.alloc (.cells (cmdL da am al ad dc cm cl cd A) 44)) fun e w' => e = .returned (.int .i64 0) ∧ Below (w.alloc (.cells (cmdL da am al ad dc cm cl cd A) 44)).heap.size (w.alloc (.cells (cmdL da am al ad dc cm cl cd A) 44)) w') :=
    hid (cmdCheck_is (hid (by rw [hc]; rfl)) ⟨hdr1, by omega, hdb, hV.ext hb01⟩ hsum hwf hfr)
  have hs := hW.lt
  have hns : w.heap.size ≠ s := by omega
  have HX := hid hW
  have XA : Hid (CmdBox (w.alloc (.cells (cmdL da am al ad dc cm cl cd A) 44)) w.heap.size A da am al ad dc cm cl cd) := hid (CmdBox.made (c := A) w)
  have hl : ∀ (x : CmdD) (da am al ad : Option Addr) (dc cm cl cd : Nat), cmdL da am al ad dc cm cl cd x = #[.int .i64 x.kind, .int .u16 x.fr.1, .int .u32 x.fr.2, .int .u64 x.num, .int .u64 x.vw, .slice da x.data.length dc, .int .u64 x.v.id, .slice am x.v.ms.length cm, .slice al x.v.ls.length cl, .slice ad x.v.ds.length cd] := fun _ _ _ _ _ _ _ _ _ => rfl
  obtain ⟨CL, hCL⟩ : ∃ CL, cmdL da am al ad dc cm cl cd A = CL := ⟨_, rfl⟩
  rw [hCL] at CK XA hB1 hb01 ⊢
  rw [hl] at hCL
  have hHW := hW.ext hB1
  obtain ⟨a0, a1, a2, a3, a4, a5, a6, a7, a8, a9⟩ := id XA.out
  have HDR := hid hdr
  have HNE := hid hdne
  have HV := hid hV
  have H0 := hid h0
  have HS0 := hid hs0
  have HWF := hid hwf
  rcases cmdChk_kinds hc with hk | ⟨hk, hnum, hvw, hdl2⟩ | ⟨hk, hrc⟩
  · have HF := hid (cmdF_1 hk)
    have HK := hid hk
    rw [hk] at a0 hCL
    subst hCL
    have e1 : IntKind.u64.wrap (1 : Int) = 1 := by decide
    clear hc hk hW h0 hs0 hdr hdr1 hdb hdne hV hfr hwf hsum hl
    go_enter Try.func96, Try.ntmps96
    go_wp2_with fail
    (with_reducible refine CK.out.mono ?_)
    rintro e w3 ⟨rfl, hb3⟩
    have X3 := hid (XA.out.ext hb3 XA.out.lt)
    have c0 := X3.out.c0
    rw [HK.out] at c0
    have N1 := hid (wNum_z 1 (z := 1) rfl (hHW.ext hb3) (by omega) (by decide))
    have HB3 := hid (hB1.trans (hb3.mono hB1.size))
    clear a0 a1 a2 a3 a4 a5 a6 a7 a8 a9 CK hB1 hb01 XA hHW hb3
    go_wp2_with fail
    refine N1.out.mono ?_
    rintro e w4 ⟨rfl, v4, hw4⟩
    have X4 := hid (X3.out.mutT hw4.mt hns)
    have HW4 := hid hw4
    clear c0 hw4 N1 X3
    have c0 := X4.out.c0
    rw [HK.out] at c0
    go_wp2
    exact bodyPost_end (results_none rfl _ _ _) rfl ⟨rfl, v4, by rw [HF.out]; exact HW4.out.pre HB3.out⟩
  · obtain ⟨x, y, hx, hy, hx2, hy2⟩ := nat_pid (x := A.fr.1) (y := A.fr.2) hfr
    have HF := hid (cmdF_2 (x := x) (y := y) hk (by rw [← hx, ← hy]))
    have HK := hid hk
    have HX1 := hid hx
    have HY1 := hid hy
    rw [hk] at a0 hCL
    subst hCL
    have e1 : IntKind.u64.wrap (2 : Int) = 2 := by decide
    have ln0 := short_len10 (n := 2) (by decide)
    have ln1 := short_len10 (n := x) (by omega)
    have ln2 := short_len10 (n := y) (by omega)
    have ln3 := short_len10 (n := A.num) (by omega)
    have ln4 := short_len10 (n := A.vw) (by omega)
    clear hc hk hW h0 hs0 hdr hdr1 hdb hdne hV hfr hwf hsum hl hx hy
    go_enter Try.func96, Try.ntmps96
    go_wp2_with fail
    (with_reducible refine CK.out.mono ?_)
    rintro e w3 ⟨rfl, hb3⟩
    have X3 := hid (XA.out.ext hb3 XA.out.lt)
    have c0 := X3.out.c0
    rw [HK.out] at c0
    have N1 := hid (wNum_z 2 (z := 2) rfl (hHW.ext hb3) (by omega) (by decide))
    have HB3 := hid (hB1.trans (hb3.mono hB1.size))
    clear a0 a1 a2 a3 a4 a5 a6 a7 a8 a9 CK hB1 hb01 XA hHW hb3
    go_wp2_with fail
    refine N1.out.mono ?_
    rintro e w4 ⟨rfl, v4, hw4⟩
    have X4 := hid (X3.out.mutT hw4.mt hns)
    have HW4 := hid hw4
    clear c0 hw4 N1 X3
    have c0 := X4.out.c0
    rw [HK.out] at c0
    have c1 := X4.out.c1
    have c2 := X4.out.c2
    rw [HX1.out] at c1
    rw [HY1.out] at c2
    have N2 := hid (wPid_any x y HW4.out.wr (by simp only [List.length_append]; omega) hx2 hy2)
    go_wp2_with fail
    (with_reducible refine N2.out.mono ?_)
    rintro e w5 ⟨rfl, v5, hw5⟩
    have X5 := hid (X4.out.mutT hw5.mt hns)
    have HW5 := hid (HW4.out.step hw5)
    have N3 := hid (wNum_any A.num hw5.wr (by simp only [List.length_append]; omega) hnum)
    clear c0 c1 c2 N2 X4 hw5 HW4
    have c3 := X5.out.c3
    go_wp2_with fail
    (with_reducible refine N3.out.mono ?_)
    rintro e w6 ⟨rfl, v6, hw6⟩
    have X6 := hid (X5.out.mutT hw6.mt hns)
    have HW6 := hid (HW5.out.step hw6)
    have N4 := hid (wNum_any A.vw hw6.wr (by simp only [List.length_append]; omega) hvw)
    clear c3 N3 X5 hw6 HW5
    have c4 := X6.out.c4
    go_wp2_with fail
    (with_reducible refine N4.out.mono ?_)
    rintro e w7 ⟨rfl, v7, hw7⟩
    have X7 := hid (X6.out.mutT hw7.mt hns)
    have HW7 := hid (HW6.out.step hw7)
    have hr7 := (HDR.out.ext HB3.out).mutT (HW6.out.step hw7).mt (fun b off h1 h2 => HNE.out b off h1 h2)
    have N5 := hid (wBytes_any (c := dc) (n := A.data.length) hw7.wr (by simp only [List.length_append]; omega) (hid rfl) (by omega) hr7 HNE.out)
    clear c4 N4 X6 hw7 HW6 hr7
    have c5 := X7.out.c5
    go_wp2_with fail
    (with_reducible refine N5.out.mono ?_)
    rintro e w8 ⟨rfl, v8, hw8⟩
    have HW8 := hid ((HW7.out.step hw8).pre HB3.out)
    have HE : Hid (bs ++ cmdF A = (((bs ++ short 2) ++ (short x ++ short y)) ++ short A.num ++ short A.vw) ++ (short A.data.length ++ A.data)) := hid (by rw [HF.out]; simp)
    clear hw8 HW7 N5
    go_wp2
    exact bodyPost_end (results_none rfl _ _ _) rfl ⟨rfl, v8, by rw [HE.out]; exact HW8.out⟩
  · have HF := hid (cmdF_3 hk)
    have HK := hid hk
    rw [hk] at a0 hCL
    subst hCL
    have hcb : checkB A.v = true := (check_eq A.v hwf).trans hrc
    have HL := hid (laid_of_check hwf hcb)
    have HC := hid hcb
    obtain ⟨i, hi⟩ : ∃ i : Nat, A.v.id = (i : Int) := ⟨A.v.id.toNat, by omega⟩
    have hi64 : i < 18446744073709551616 := by omega
    have HI := hid hi
    have e1 : IntKind.u64.wrap (3 : Int) = 3 := by decide
    have ln0 := short_len10 (n := 3) (by decide)
    have HSUM := hid hsum
    clear hc hk hW h0 hs0 hdr hdr1 hdb hdne hV hfr hwf hsum hl hcb hrc hid64 hi
    go_enter Try.func96, Try.ntmps96
    go_wp2_with fail
    (with_reducible refine CK.out.mono ?_)
    rintro e w3 ⟨rfl, hb3⟩
    have X3 := hid (XA.out.ext hb3 XA.out.lt)
    have c0 := X3.out.c0
    rw [HK.out] at c0
    have N1 := hid (wNum_z 3 (z := 3) rfl (hHW.ext hb3) (by omega) (by decide))
    have HB3 := hid (hB1.trans (hb3.mono hB1.size))
    clear a0 a1 a2 a3 a4 a5 a6 a7 a8 a9 CK hB1 hb01 XA hHW hb3
    go_wp2_with fail
    refine N1.out.mono ?_
    rintro e w4 ⟨rfl, v4, hw4⟩
    have X4 := hid (X3.out.mutT hw4.mt hns)
    have HW4 := hid hw4
    clear c0 hw4 N1 X3
    have c0 := X4.out.c0
    rw [HK.out] at c0
    have c6 := X4.out.c6
    have c7 := X4.out.c7
    have c8 := X4.out.c8
    have c9 := X4.out.c9
    rw [HI.out] at c6
    have N2 := hid (viewPut_any (cm := cm) (cl := cl) (cd := cd) HI.out hi64 HW4.out.wr (by simp only [List.length_append]; omega) HV.out (below_mut (H0.out.trans (HB3.out.mono H0.out.size)) HW4.out.mt HS0.out) HS0.out HWF.out (by have := HL.out.lm; omega) (by have := HL.out.ll; omega) (by have := HL.out.ld.2; omega) (fun l hl => by have := (HL.out.le l hl).2; omega) HSUM.out HC.out)
    go_wp2_with fail
    (with_reducible refine N2.out.mono ?_)
    rintro e w5 ⟨rfl, v5, hw5⟩
    have HW5 := hid ((HW4.out.step hw5).pre HB3.out)
    have HE : Hid (bs ++ cmdF A = (bs ++ short 3) ++ viewF A.v) := hid (by rw [HF.out]; simp)
    clear hw5 HW4 N2
    go_wp2
    exact bodyPost_end (results_none rfl _ _ _) rfl ⟨rfl, v5, by rw [HE.out]; exact HW5.out⟩
theorem viewR_zero (w : World) : ViewR w none none none zeroV := ⟨.inl rfl, .inl rfl, .inl rfl, by simp [zeroV], by simp [zeroV], by simp [zeroV], by simp [zeroV]⟩
end Go.Proofs.Ytbpfhclcjedkcaa

namespace Go.Proofs.Ytbpfhclcjedkcaa
open Go.RowKit

/-! ### commands: awake -/
theorem OwnB.mutT {G : Nat → Prop} {w w' : World} {base : Nat} {v : Value} {xs : List Nat} (h : OwnB w base v xs) (hm : Mut G w w') (hG : ∀ k, G k → k < base) : OwnB w' base v xs := by
  refine ⟨h.1, ?_⟩
  rcases h.2 with hn | ⟨g, cap, cur, rfl, hbb, hgg, rest⟩
  · exact .inl hn
  · exact .inr ⟨g, cap, cur, rfl, hbb, (hm.block g (Array.getElem?_eq_some_iff.1 hgg).1 (fun hg => by have := hG g hg; omega)).trans hgg, rest⟩
/-- a writer stays where another one writes -/
theorem WrIs.mutT {w w' : World} {s t base : Nat} {v : Value} {bs : List Nat} (h : WrIs w s v bs) (hm : Mut (fun k => k = t) w w') (hst : s ≠ t) (hown : OwnB w base v bs) (hb : s + 1 ≤ base) (ht : t < base) : WrIs w' s v bs :=
  ⟨cell_mut h.c hm hst, (World.frozen?_of_block (w := w) (a := ⟨s, 0, none⟩) (hm.block s h.lt hst)).trans h.f, (hown.mutT hm (fun _k e => e ▸ ht)).mono hb⟩
end Go.Proofs.Ytbpfhclcjedkcaa

