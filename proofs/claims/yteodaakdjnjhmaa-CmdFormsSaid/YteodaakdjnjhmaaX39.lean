import Derived.Test.YteodaakdjnjhmaaX38
namespace Go.Proofs.Yteodaakdjnjhmaa
open Go.RowKit

/-! ### cmd.Copy -/
theorem cloneB_is {a : Option Addr} {c n : Nat} {bs : List Nat} {w : World} (hn : bs.length = n) (hl : n ≤ 549755813888) (hrow : ByteRow w a bs) :
   Calls Try.prog 85 #[.slice a n c] w fun e w' => ∃ v, e = .returned v ∧ OwnB w' w.heap.size v bs ∧ Below w.heap.size w w' := cloneB_any (hid hn) hl hrow
set_option maxRecDepth 100000 in
set_option maxHeartbeats 6400000 in
theorem cmdCopy_any {A : CmdD} {i : Nat} {da am al ad : Option Addr} {dc cm cl cd : Nat} {w : World} (hi : A.v.id = (i : Int)) (hdr : ByteRow w da A.data) (hdl : A.data.length ≤ 549755813888) (hV : ViewR w am al ad A.v) (hm : A.v.ms.length ≤ 549755813888) (hd : A.v.ds.length ≤ 549755813888) (hl : A.v.ls.length ≤ 549755813888) (hle : ∀ l ∈ A.v.ls, l.length ≤ 549755813888) :
    Calls Try.prog 46 #[.agg #[.int .i64 A.kind, .int .u16 A.fr.1, .int .u32 A.fr.2, .int .u64 A.num, .int .u64 A.vw, .slice da A.data.length dc, .int .u64 i, .slice am A.v.ms.length cm, .slice al A.v.ls.length cl, .slice ad A.v.ds.length cd]] w fun e w' => ∃ (qd a4 a5 a6 : Option Addr) (kd k4 k5 k6 : Nat), e = .returned (.agg #[.int .i64 A.kind, .int .u16 A.fr.1, .int .u32 A.fr.2, .int .u64 A.num, .int .u64 A.vw, .slice qd A.data.length kd, .int .u64 i, .slice a4 A.v.ms.length k4, .slice a5 A.v.ls.length k5, .slice a6 A.v.ds.length k6]) ∧ OwnB w' w.heap.size (.slice qd A.data.length kd) A.data ∧ ViewR w' a4 a5 a6 A.v ∧ Below w.heap.size w w' := by
  obtain ⟨W2, hW2⟩ : ∃ W2, ((w.alloc (.cells #[.int .i64 A.kind, .int .u16 A.fr.1, .int .u32 A.fr.2, .int .u64 A.num, .int .u64 A.vw, .slice da A.data.length dc, .int .u64 i, .slice am A.v.ms.length cm, .slice al A.v.ls.length cl, .slice ad A.v.ds.length cd] 42)).alloc (.cells #[.int .i64 0, .int .u16 0, .int .u32 0, .int .u64 0, .int .u64 0, .slice none 0 0, .int .u64 0, .slice none 0 0, .slice none 0 0, .slice none 0 0] 42)) = W2 := ⟨_, rfl⟩
  have hB2 : Below w.heap.size w W2 := by rw [← hW2]; exact ((Below.refl _ _).alloc (Nat.le_refl _) _).alloc (by simp) _
  have hz2 : W2.heap.size = w.heap.size + 1 + 1 := by rw [← hW2]; simp
  have x1 : Box10 W2 w.heap.size (.int .i64 A.kind) (.int .u16 A.fr.1) (.int .u32 A.fr.2) (.int .u64 A.num) (.int .u64 A.vw) (.slice da A.data.length dc) (.int .u64 i) (.slice am A.v.ms.length cm) (.slice al A.v.ls.length cl) (.slice ad A.v.ds.length cd) := by
    rw [← hW2]; exact (Box10.made _ _ _ _ _ _ _ _ _ _ _ _ rfl).ext ((Below.refl _ _).alloc (Nat.le_refl _) _) (by simp)
  have x2 : Box10 W2 (w.heap.size + 1) (.int .i64 0) (.int .u16 0) (.int .u32 0) (.int .u64 0) (.int .u64 0) (.slice none 0 0) (.int .u64 0) (.slice none 0 0) (.slice none 0 0) (.slice none 0 0) := by
    rw [← hW2]
    exact Box10.made _ _ _ _ _ _ _ _ _ _ _ _ (by simp)
  have C1 := hid (cloneB_is (c := dc) rfl hdl (hdr.ext hB2))
  have X1 := hid x1
  have X2 := hid x2
  have HB2 := hid hB2
  have HZ2 := hid hz2
  have HV := hid hV
  have HLE := hid hle
  have HI := hid hi
  obtain ⟨a0, a1, a2, a3, a4, a5, a6, a7, a8, a9, -⟩ := id x1
  obtain ⟨nl, hnl⟩ : ∃ k, A.data.length = k := ⟨_, rfl⟩
  have HNL := hid hnl
  rw [hnl] at C1 a5 hW2 X1 ⊢
  clear x1 x2 hB2 hz2 hV hle hi hdr hdl hnl
  go_enter Try.func46, Try.ntmps46
  go_wp2_with fail
  refine C1.out.mono ?_
  rintro e w3 ⟨v3, rfl, hown3, hb3⟩
  obtain ⟨qd, kd, e3, -, -⟩ := hown3.row
  rw [HNL.out] at e3
  subst e3
  have hx13 := X1.out.ext hb3 X1.out.lt
  have X13 := hid (hx13.set5 (.slice qd nl kd))
  have X23 := hid ((X2.out.ext hb3 X2.out.lt).mutT (mut1 (s := w.heap.size) (i := 5) (v := .slice qd nl kd)) (fun e => by have e : w.heap.size + 1 = w.heap.size := e; omega))
  have hbw3 : Below w.heap.size w (w3.setCell ⟨w.heap.size, 5, none⟩ (.slice qd nl kd)) := below_set (HB2.out.trans (hb3.mono HB2.out.size)) (Nat.le_refl _)
  have HOWN3 := hid (hown3.mutT (mut1 (s := w.heap.size) (i := 5) (v := .slice qd nl kd)) (fun k e => by rw [e]; have := HZ2.out; omega))
  have C2 := hid (viewCopy_any (cm := cm) (cl := cl) (cd := cd) HI.out (HV.out.ext hbw3) hm hd hl HLE.out)
  have HBW3 := hid hbw3
  have hs3 : W2.heap.size ≤ w3.heap.size := hb3.size
  clear a0 a1 a2 a3 a4 a5 a6 a7 a8 a9 C1 hown3 hb3 hbw3 hW2
  obtain ⟨a0, a1, a2, a3, a4, a5, a6, a7, a8, a9, af⟩ := hx13
  have af5 := af 5
  go_wp2_with fail
  refine C2.out.mono ?_
  rintro e w4 ⟨vm, vl, vd, Bc, rfl, hom, hol, hod, -, -, -, hbc, hb4⟩
  obtain ⟨a4', k4, e4, -, -⟩ := hom.row
  obtain ⟨a5', k5, e5, -⟩ := hol.row
  obtain ⟨a6', k6, e6, -, -⟩ := hod.row
  subst e4; subst e5; subst e6
  have hsz : (w3.setCell ⟨w.heap.size, 5, none⟩ (.slice qd nl kd)).heap.size = w3.heap.size := by simp
  have hx14 := X13.out.ext hb4 X13.out.lt
  have hx24 := X23.out.ext hb4 X23.out.lt
  have hz2 := HZ2.out
  have X14 := hid ((((hx14.set6 (.int .u64 i)).set7 (.slice a4' A.v.ms.length k4)).set8 (.slice a5' A.v.ls.length k5)).set9 (.slice a6' A.v.ds.length k6))
  have hm4 : Mut (fun k => k = w.heap.size) w4 ((((w4.setCell ⟨w.heap.size, 6, none⟩ (.int .u64 i)).setCell ⟨w.heap.size, 7, none⟩ (.slice a4' A.v.ms.length k4)).setCell ⟨w.heap.size, 8, none⟩ (.slice a5' A.v.ls.length k5)).setCell ⟨w.heap.size, 9, none⟩ (.slice a6' A.v.ds.length k6)) := ((mut1.trans mut1).trans mut1).trans mut1
  have X24 := hid (hx24.mutT hm4 (fun e => by have e : w.heap.size + 1 = w.heap.size := e; omega))
  have HOM := hid ((hom.mono2 (b' := w.heap.size + 1 + 1) (by rw [hsz]; omega)).mutT hm4 (fun k e => by rw [e]; omega))
  have HOL := hid ((hol.mono (b' := w.heap.size + 1 + 1) (by rw [hsz] at hbc; omega)).mutT hm4 (fun k e => by rw [e]; omega))
  have HOS := hid ((hod.mono2 (b' := w.heap.size + 1 + 1) (by rw [hsz]; omega)).mutT hm4 (fun k e => by rw [e]; omega))
  have HOD := hid (((HOWN3.out.ext hb4).mono (b' := w.heap.size + 1 + 1) (by omega)).mutT hm4 (fun k e => by rw [e]; omega))
  have hbw4 := HBW3.out.trans (hb4.mono HBW3.out.size)
  have HBW4 : Hid (Below w.heap.size w ((((w4.setCell ⟨w.heap.size, 6, none⟩ (.int .u64 i)).setCell ⟨w.heap.size, 7, none⟩ (.slice a4' A.v.ms.length k4)).setCell ⟨w.heap.size, 8, none⟩ (.slice a5' A.v.ls.length k5)).setCell ⟨w.heap.size, 9, none⟩ (.slice a6' A.v.ds.length k6))) := hid (below_set (below_set (below_set (below_set hbw4 (Nat.le_refl _)) (Nat.le_refl _)) (Nat.le_refl _)) (Nat.le_refl _))
  obtain ⟨wt, hwt⟩ : ∃ wt, ((((w4.setCell ⟨w.heap.size, 6, none⟩ (.int .u64 i)).setCell ⟨w.heap.size, 7, none⟩ (.slice a4' A.v.ms.length k4)).setCell ⟨w.heap.size, 8, none⟩ (.slice a5' A.v.ls.length k5)).setCell ⟨w.heap.size, 9, none⟩ (.slice a6' A.v.ds.length k6)) = wt := ⟨_, rfl⟩
  rw [hwt] at X14 X24 HOM HOL HOS HOD HBW4
  clear a0 a1 a2 a3 a4 a5 a6 a7 a8 a9 af af5 C2 hom hol hod hbc hb4 hsz hx24 hm4 hbw4 X13 X23
  obtain ⟨b0, b1, b2, b3, b4, b5, b6, b7, b8, b9, bf⟩ := hx14
  have bf6 := bf 6
  have bf7 := bf 7
  have bf8 := bf 8
  have bf9 := bf 9
  obtain ⟨g0, g1, g2, g3, g4, g5, g6, g7, g8, g9, -⟩ := X14.out
  obtain ⟨d0, d1, d2, d3, d4, d5, d6, d7, d8, d9, df⟩ := X24.out
  have df0 := df 0
  have df1 := df 1
  have df2 := df 2
  have df3 := df 3
  have df4 := df 4
  have df5 := df 5
  have df6 := df 6
  have df7 := df 7
  have df8 := df 8
  have df9 := df 9
  go_wp2
  obtain ⟨p0, p1, p2, p3, p4, p5, p6, p7, p8, p9, -⟩ := X24.out.put (.int .i64 A.kind) (.int .u16 A.fr.1) (.int .u32 A.fr.2) (.int .u64 A.num) (.int .u64 A.vw) (.slice qd nl kd) (.int .u64 i) (.slice a4' A.v.ms.length k4) (.slice a5' A.v.ls.length k5) (.slice a6' A.v.ds.length k6)
  have p00 := World.cell?_setCell_same _ _ (.int .i64 A.kind) d0
  exact bodyPost_ret (v := .agg #[.int .i64 A.kind, .int .u16 A.fr.1, .int .u32 A.fr.2, .int .u64 A.num, .int .u64 A.vw, .slice qd nl kd, .int .u64 i, .slice a4' A.v.ms.length k4, .slice a5' A.v.ls.length k5, .slice a6' A.v.ds.length k6]) (by simp [results, Try.results46, go_sem, p00, p0, p1, p2, p3, p4, p5, p6, p7, p8, p9]) rfl (by
    have hm := mut10 wt (w.heap.size + 1) (.int .i64 A.kind) (.int .u16 A.fr.1) (.int .u32 A.fr.2) (.int .u64 A.num) (.int .u64 A.vw) (.slice qd nl kd) (.int .u64 i) (.slice a4' A.v.ms.length k4) (.slice a5' A.v.ls.length k5) (.slice a6' A.v.ds.length k6)
    have hbf := HBW4.out.trans (hm.below (B := w.heap.size) HBW4.out.size (fun k e => by rw [e]; exact Nat.le_succ _))
    refine ⟨qd, a4', a5', a6', kd, k4, k5, k6, rfl, ?_, ViewR.own (HOM.out.mutT hm (fun k e => by rw [e]; exact Nat.lt_succ_self _)) (HOL.out.mutT hm (fun k e => by rw [e]; exact Nat.lt_succ_self _)) (HOS.out.mutT hm (fun k e => by rw [e]; exact Nat.lt_succ_self _)) HV.out, hbf⟩
    have := (HOD.out.mutT hm (fun k e => by rw [e]; exact Nat.lt_succ_self _)).mono (b' := w.heap.size) (by omega)
    exact this)
end Go.Proofs.Yteodaakdjnjhmaa
