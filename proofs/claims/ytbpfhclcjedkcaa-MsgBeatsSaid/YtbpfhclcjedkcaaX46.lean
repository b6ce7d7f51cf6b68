/- Parts of the proof: X46. -/
import Derived.Test.YtbpfhclcjedkcaaSm25
import Derived.Test.YtbpfhclcjedkcaaX45
namespace Go.Proofs.Ytbpfhclcjedkcaa
open Go.RowKit

/-! ### the reference's Get of a command -/
theorem viewGetR_is {s c : Nat} {a : Option Addr} {S S1 : RS} {V : View} {i : Nat} {w : World} (hx : Hid (rView S = (V, S1))) (hi : V.id = (i : Int)) (hR : RdIs w s a c S) :
    Calls Try.prog 136 #[.pointer (some ⟨s, 0, none⟩)] w fun e w' => ∃ vm vl vd, e = .returned (.agg #[.int .u64 i, vm, vl, vd]) ∧ OwnP w' w.heap.size vm V.ms ∧ OwnLL w' w.heap.size vl V.ls ∧ OwnP w' w.heap.size vd V.ds ∧ (∃ a' c', RdIs w' s a' c' S1) ∧ Mut (fun k => k = s) w w' := by
  have := viewGetR_any hR
  rw [hx.out] at this
  simp only at this
  rw [hi] at this; exact this
theorem cmdCheckR_is {A : CmdD} {da am al ad : Option Addr} {dc cm cl cd : Nat} {w : World} {r : Int} (h : Hid ((cmdChk A : Int) = r)) (hV : ViewR w am al ad A.v) (hsum : lens A.v.ls ≤ 549755813888) (hfr : okP A.fr) :
   Calls Try.prog 102 #[.agg (cmdL da am al ad dc cm cl cd A)] w fun e w' => e = .returned (.int .i64 r) ∧ Below w.heap.size w w' := by
  have := cmdCheckR_any (da := da) (dc := dc) (cm := cm) (cl := cl) (cd := cd) hV hsum hfr
  rw [h.out] at this; exact this

set_option maxRecDepth 100000 in
set_option maxHeartbeats 12800000 in
theorem cmdGetR_any {s c : Nat} {a : Option Addr} {S S9 : RS} {A : CmdD} {w : World} (hx : Hid (rCmd S = (A, S9))) (hR : RdIs w s a c S) :
    Calls Try.prog 135 #[.pointer (some ⟨s, 0, none⟩)] w fun e w' => ∃ (qd qm ql qs : Option Addr) (kd km kl ks : Nat), e = .returned (.agg (cmdL qd qm ql qs kd km kl ks A)) ∧ OwnB w' w.heap.size (.slice qd A.data.length kd) A.data ∧ OwnP w' w.heap.size (.slice qm A.v.ms.length km) A.v.ms ∧ OwnLL w' w.heap.size (.slice ql A.v.ls.length kl) A.v.ls ∧ OwnP w' w.heap.size (.slice qs A.v.ds.length ks) A.v.ds ∧ (∃ a' c', RdIs w' s a' c' S9) ∧ Mut (fun k => k = s) w w' := by
  obtain ⟨⟨k, S1⟩, h1⟩ : ∃ q, rNum 3 S = q := ⟨_, rfl⟩
  have hk3 : k ≤ 3 := by have := rNum_le (most := 3) (S := S); rw [h1] at this; exact this
  have hB1 : Below w.heap.size w (w.alloc (.cells #[.int .i64 0, .int .u16 0, .int .u32 0, .int .u64 0, .int .u64 0, .slice none 0 0, .int .u64 0, .slice none 0 0, .slice none 0 0, .slice none 0 0] 44)) := (Below.refl _ _).alloc (Nat.le_refl _) _
  have x2 : Box10 (w.alloc (.cells #[.int .i64 0, .int .u16 0, .int .u32 0, .int .u64 0, .int .u64 0, .slice none 0 0, .int .u64 0, .slice none 0 0, .slice none 0 0, .slice none 0 0] 44)) w.heap.size (.int .i64 0) (.int .u16 0) (.int .u32 0) (.int .u64 0) (.int .u64 0) (.slice none 0 0) (.int .u64 0) (.slice none 0 0) (.slice none 0 0) (.slice none 0 0) := Box10.made _ _ _ _ _ _ _ _ _ _ _ _ rfl
  have hs := hR.lt
  have C1 := hid (rNumR_is (z := 3) rfl (hid h1) (hR.ext hB1))
  have H1 := hid h1
  have X2 := hid x2
  have HB1 := hid hB1
  have ewk : IntKind.i64.wrap ((k : Nat) : Int) = ((k : Nat) : Int) := by rw [IntKind.wrap_i64]; omega
  have hz1 : (w.alloc (.cells #[.int .i64 0, .int .u16 0, .int .u32 0, .int .u64 0, .int .u64 0, .slice none 0 0, .int .u64 0, .slice none 0 0, .slice none 0 0, .slice none 0 0] 44)).heap.size = w.heap.size + 1 := by simp
  have HZ1 := hid hz1
  clear h1 x2 hB1 hz1
  go_enter Try.func135, Try.ntmps135
  go_wp2_with fail
  refine C1.out.mono ?_
  rintro e w2 ⟨rfl, ⟨a2, c2, hR2⟩, hM2⟩
  have HM2 := hid hM2
  have hz2 : w.heap.size + 1 ≤ w2.heap.size := by have := hM2.size; rw [HZ1.out] at this; exact this
  have hx22 := X2.out.mutT hM2 (fun e => by have e : w.heap.size = s := e; omega)
  have hq : Below w2.heap.size w2 (w2.alloc (.cells #[.int .i64 k, .int .u16 0, .int .u32 0, .int .u64 0, .int .u64 0, .slice none 0 0, .int .u64 0, .slice none 0 0, .slice none 0 0, .slice none 0 0] 44)) := (Below.refl _ _).alloc (Nat.le_refl _) _
  have x3 : Box10 (w2.alloc (.cells #[.int .i64 k, .int .u16 0, .int .u32 0, .int .u64 0, .int .u64 0, .slice none 0 0, .int .u64 0, .slice none 0 0, .slice none 0 0, .slice none 0 0] 44)) w2.heap.size (.int .i64 k) (.int .u16 0) (.int .u32 0) (.int .u64 0) (.int .u64 0) (.slice none 0 0) (.int .u64 0) (.slice none 0 0) (.slice none 0 0) (.slice none 0 0) := Box10.made _ _ _ _ _ _ _ _ _ _ _ _ rfl
  have hR3 := hR2.ext hq
  have hx23 := hx22.ext hq hx22.lt
  have hs2 : s < w2.heap.size := hR2.lt
  have HMW3 : Hid (Mut (fun k => k = s ∨ w.heap.size ≤ k) w (w2.alloc (.cells #[.int .i64 k, .int .u16 0, .int .u32 0, .int .u64 0, .int .u64 0, .slice none 0 0, .int .u64 0, .slice none 0 0, .slice none 0 0, .slice none 0 0] 44))) := hid (((Mut.of_below HB1.out).trans (hM2.mono (fun k _ e => .inl e))).trans (Mut.of_below hq))
  have X3 := hid x3
  have HR3 := hid hR3
  have X23 := hid hx23
  have HZ2 := hid hz2
  clear C1 hM2 hR2 hx22 hq x3 hR3 hx23 hz2
  by_cases hk2 : k = 2
  case pos =>
    subst hk2
    obtain ⟨⟨⟨x, y⟩, S2⟩, h2⟩ : ∃ q, rPid S1 = q := ⟨_, rfl⟩
    obtain ⟨⟨nn, S3⟩, h3⟩ : ∃ q, rNum 4611686018427387904 S2 = q := ⟨_, rfl⟩
    obtain ⟨⟨vv, S4⟩, h4⟩ : ∃ q, rNum 4611686018427387904 S3 = q := ⟨_, rfl⟩
    obtain ⟨⟨da, S5⟩, h5⟩ : ∃ q, rBytes 200 S4 = q := ⟨_, rfl⟩
    have HRC : Hid (rCmdParts S = (⟨((2 : Nat) : Int), (x, y), nn, vv, da, zeroV⟩, S5)) := hid (by unfold rCmdParts; simp only [H1.out, h2, h3, h4, h5, if_true])
    have hok : okP (x, y) := by have := rPid_ok S1; rw [h2] at this; exact this
    have hdl : da.length ≤ 200 ∧ ∀ b ∈ da, b ∈ S4.b := by have := rBytes_sub (most := 200) (S := S4); rw [h5] at this; exact this
    have C2 := hid (rPidR_any (hid h2) HR3.out)
    have H3 := hid h3
    have H4 := hid h4
    have H5 := hid h5
    have HOK := hid hok
    have HDL := hid hdl
    clear h2 h3 h4 h5 hok hdl
    obtain ⟨b0, b1, b2, b3, b4, b5, b6, b7, b8, b9, -⟩ := X3.out
    go_wp2_with fail
    refine C2.out.mono ?_
    rintro e w4 ⟨rfl, ⟨a4, c4, hR4⟩, hM4⟩
    have x34 := X3.out.mutT hM4 (fun e => by have e : w2.heap.size = s := e; omega)
    have HX34 := hid (X23.out.mutT hM4 (fun e => by have e : w.heap.size = s := e; omega))
    have HMW4 := hid (HMW3.out.trans (hM4.mono (G := fun k => k = s ∨ w.heap.size ≤ k) (fun k _ e => .inl e)))
    have X4 := hid ((x34.set1 (.int .u16 x)).set2 (.int .u32 y))
    have C3 := hid (rNumR_is (z := 4611686018427387904) rfl H3 ((hR4.setB (j := 1) (x := .int .u16 x) hs2).setB (j := 2) (x := .int .u32 y) hs2))
    clear b0 b1 b2 b3 b4 b5 b6 b7 b8 b9 C2 hR4 hM4
    obtain ⟨b0, b1, b2, b3, b4, b5, b6, b7, b8, b9, bf⟩ := x34
    have bf1 := bf 1
    have bf2 := bf 2
    go_wp2_with fail
    refine C3.out.mono ?_
    rintro e w5 ⟨rfl, ⟨a5, c5, hR5⟩, hM5⟩
    have x45 := X4.out.mutT hM5 (fun e => by have e : w2.heap.size = s := e; omega)
    have HX35 := hid ((HX34.out.mutT ((mut1 (s := w2.heap.size) (i := 1) (v := .int .u16 x)).trans (mut1 (i := 2) (v := .int .u32 y))) (fun e => by have e : w.heap.size = w2.heap.size := e; have := HZ2.out; omega)).mutT hM5 (fun e => by have e : w.heap.size = s := e; omega))
    have HMW5 := hid ((HMW4.out.trans (((mut1 (s := w2.heap.size) (i := 1) (v := .int .u16 x)).trans (mut1 (i := 2) (v := .int .u32 y))).mono (G := fun k => k = s ∨ w.heap.size ≤ k) (fun k _ e => .inr (by rw [e]; have := HZ2.out; omega)))).trans (hM5.mono (G := fun k => k = s ∨ w.heap.size ≤ k) (fun k _ e => .inl e)))
    have X5 := hid (x45.set3 (.int .u64 nn))
    have C4 := hid (rNumR_is (z := 4611686018427387904) rfl H4 (hR5.setB (j := 3) (x := .int .u64 nn) hs2))
    clear b0 b1 b2 b3 b4 b5 b6 b7 b8 b9 bf bf1 bf2 C3 hR5 hM5 HX34 HMW4 X4
    obtain ⟨b0, b1, b2, b3, b4, b5, b6, b7, b8, b9, bf⟩ := x45
    have bf3 := bf 3
    go_wp2_with fail
    refine C4.out.mono ?_
    rintro e w6 ⟨rfl, ⟨a6, c6, hR6⟩, hM6⟩
    have x56 := X5.out.mutT hM6 (fun e => by have e : w2.heap.size = s := e; omega)
    have HX36 := hid ((HX35.out.mutT (mut1 (s := w2.heap.size) (i := 3) (v := .int .u64 nn)) (fun e => by have e : w.heap.size = w2.heap.size := e; have := HZ2.out; omega)).mutT hM6 (fun e => by have e : w.heap.size = s := e; omega))
    have HMW6 := hid ((HMW5.out.trans ((mut1 (s := w2.heap.size) (i := 3) (v := .int .u64 nn)).mono (G := fun k => k = s ∨ w.heap.size ≤ k) (fun k _ e => .inr (by rw [e]; have := HZ2.out; omega)))).trans (hM6.mono (G := fun k => k = s ∨ w.heap.size ≤ k) (fun k _ e => .inl e)))
    have X6 := hid (x56.set4 (.int .u64 vv))
    have X6lt := hid x56.lt
    have hby6 := hid hR6.byt
    have C5 := hid (rBytesR_any 200 (z := 200) rfl H5 (by decide) (hR6.setB (j := 4) (x := .int .u64 vv) hs2))
    clear b0 b1 b2 b3 b4 b5 b6 b7 b8 b9 bf bf3 C4 hR6 hM6 HX35 HMW5 X5
    obtain ⟨b0, b1, b2, b3, b4, b5, b6, b7, b8, b9, bf⟩ := x56
    have bf4 := bf 4
    have hsz6 := hid (HMW6.out.size)
    go_wp2_with fail
    refine C5.out.mono ?_
    rintro e w7 ⟨⟨v7, rfl, hown7⟩, ⟨a7, c7, hR7⟩, hM7⟩
    obtain ⟨qd, kd, e7, -, -⟩ := hown7.row
    subst e7
    have x67 := X6.out.mutT hM7 (fun e => by have e : w2.heap.size = s := e; omega)
    have hx37 := (HX36.out.mutT (mut1 (s := w2.heap.size) (i := 4) (v := .int .u64 vv)) (fun e => by have e : w.heap.size = w2.heap.size := e; have := HZ2.out; omega)).mutT hM7 (fun e => by have e : w.heap.size = s := e; omega)
    have hmw7 := (HMW6.out.trans ((mut1 (s := w2.heap.size) (i := 4) (v := .int .u64 vv)).mono (G := fun k => k = s ∨ w.heap.size ≤ k) (fun k _ e => .inr (by rw [e]; have := HZ2.out; omega)))).trans (hM7.mono (G := fun k => k = s ∨ w.heap.size ≤ k) (fun k _ e => .inl e))
    have hsz6' : w2.heap.size < w6.heap.size := X6lt.out
    have HBX0 := x67.set5 (.slice qd da.length kd)
    have HRt0 := hR7.setB (j := 5) (x := .slice qd da.length kd) hs2
    have HX20 := hx37.mutT (mut1 (s := w2.heap.size) (i := 5) (v := .slice qd da.length kd)) (fun e => by have e : w.heap.size = w2.heap.size := e; have := HZ2.out; omega)
    have HMW0 := hmw7.trans ((mut1 (s := w2.heap.size) (i := 5) (v := .slice qd da.length kd)).mono (G := fun k => k = s ∨ w.heap.size ≤ k) (fun k _ e => .inr (by rw [e]; have := HZ2.out; omega)))
    have HOD0 := (hown7.mono (b' := w2.heap.size + 1) (by simp; omega)).mutT (mut1 (s := w2.heap.size) (i := 5) (v := .slice qd da.length kd)) (fun k e => by rw [e]; exact Nat.lt_succ_self _)
    obtain ⟨wt, hwt⟩ : ∃ wt, (w7.setCell ⟨w2.heap.size, 5, none⟩ (.slice qd da.length kd)) = wt := ⟨_, rfl⟩
    rw [hwt] at HBX0 HRt0 HX20 HMW0 HOD0
    have HBX := hid HBX0
    have HRt := hid HRt0
    have HX2 := hid HX20
    have HMW := hid HMW0
    have hz2' := HZ2.out
    have HOD := hid (HOD0.mono (b' := w.heap.size + 1) (by omega))
    have HOM : Hid (OwnP wt (w.heap.size + 1) (.slice none 0 0) zeroV.ms) := hid (OwnP.nil _ _)
    have HOL : Hid (OwnLL wt (w.heap.size + 1) (.slice none 0 0) zeroV.ls) := hid (OwnLL.nil _ _)
    have HOS : Hid (OwnP wt (w.heap.size + 1) (.slice none 0 0) zeroV.ds) := hid (OwnP.nil _ _)
    have hdr : ByteRow wt qd da := by
      obtain ⟨qa, ka, ee, hr, -⟩ := HOD0.row
      cases ee; exact hr
    have HCR : Hid (CmdR wt qd none none none ⟨((2 : Nat) : Int), (x, y), nn, vv, da, zeroV⟩) := hid ⟨hdr, by have := HDL.out.1; simp only; omega, fun b hb => hby6.out b (HDL.out.2 b hb), viewR_zero _⟩
    have HWF : Hid (WfPids zeroV.ms ∧ okP (x, y) ∧ lens zeroV.ls ≤ 549755813888) := hid ⟨(by intro p hp; cases hp), HOK.out, by decide⟩
    clear b0 b1 b2 b3 b4 b5 b6 b7 b8 b9 bf bf4 C5 hR7 hM7 HX36 HMW6 X6 hown7 hx37 hmw7 HBX0 HRt0 HX20 HMW0 HOD0 hdr hz2'
    obtain ⟨e0, e1, e2, e3, e4, e5, e6, e7, e8, e9, bf⟩ := x67
    have bf5 := bf 5
    have r1 := HRt.out.c1
    obtain ⟨b0, b1, b2, b3, b4, b5, b6, b7, b8, b9, -⟩ := HBX.out
    by_cases h5 : S5.e = 0
    · rw [h5] at r1
      have H50 := hid h5
      obtain ⟨ck, hck⟩ : ∃ r, cmdChk ⟨((2 : Nat) : Int), (x, y), nn, vv, da, zeroV⟩ = r := ⟨_, rfl⟩
      have CK := cmdCheckR_is (da := qd) (dc := kd) (cm := 0) (cl := 0) (cd := 0) (r := (ck : Int)) (A := ⟨((2 : Nat) : Int), (x, y), nn, vv, da, zeroV⟩) (hid (by rw [hck])) HCR.out.v HWF.out.2.2 HWF.out.2.1
      have CK2 : Hid (Calls Try.prog 102 #[.agg #[.int .i64 2, .int .u16 x, .int .u32 y, .int .u64 nn, .int .u64 vv, .slice qd (da).length kd, .int .u64 0, .slice none 0 0, .slice none 0 0, .slice none 0 0]] wt fun e w' => e = .returned (.int .i64 (ck : Int)) ∧ Below wt.heap.size wt w') := hid CK
      by_cases hc0 : ck = 0
      · have HRV : Hid ((⟨((2 : Nat) : Int), (x, y), nn, vv, da, zeroV⟩, S5) = (A, S9)) := hid (by
          rw [← hx.out]; unfold rCmd; rw [HRC.out]
          simp only
          rw [if_neg (by simp [h5]), if_neg (by rw [hck]; simp [hc0])])
        subst hc0
        clear CK h5 hck
        go_wp2_with fail
        refine CK2.out.mono ?_
        rintro e w10 ⟨rfl, hb10⟩
        have HX10 := hid (HX2.out.ext hb10 HX2.out.lt)
        have HBX10 := hid (HBX.out.ext hb10 HBX.out.lt)
        have HM10 := hid (HMW.out.trans (Mut.of_below hb10))
        have HR10 := hid (HRt.out.ext hb10)
        have HOD10 := hid (HOD.out.ext hb10)
        have HOM10 := hid (HOM.out.ext hb10)
        have HOL10 := hid (HOL.out.ext hb10)
        have HOS10 := hid (HOS.out.ext hb10)
        have q1 := HR10.out.c1
        rw [H50.out] at q1
        clear CK2 hb10 b0 b1 b2 b3 b4 b5 b6 b7 b8 b9 hwt r1
        obtain ⟨b0, b1, b2, b3, b4, b5, b6, b7, b8, b9, -⟩ := HBX10.out
        obtain ⟨d0, d1, d2, d3, d4, d5, d6, d7, d8, d9, df⟩ := HX10.out
        have df0 := df 0
        have df1 := df 1
        have df2 := df 2
        have df3 := df 3
        have df4 := df 4
        have df5 := df 5
        have df6 := df 6
        have df7 := df 7
        have df8 := df 8
        have df9 := df 9
        go_wp2
        obtain ⟨p0, p1, p2, p3, p4, p5, p6, p7, p8, p9, -⟩ := HX10.out.put (.int .i64 2) (.int .u16 x) (.int .u32 y) (.int .u64 nn) (.int .u64 vv) (.slice qd (da).length kd) (.int .u64 0) (.slice none 0 0) (.slice none 0 0) (.slice none 0 0)
        have p00 := World.cell?_setCell_same _ _ (.int .i64 2) d0
        exact bodyPost_ret (v := .agg #[.int .i64 2, .int .u16 x, .int .u32 y, .int .u64 nn, .int .u64 vv, .slice qd (da).length kd, .int .u64 0, .slice none 0 0, .slice none 0 0, .slice none 0 0]) (by simp [results, Try.results135, go_sem, p0, p1, p2, p3, p4, p5, p6, p7, p8, p9]) rfl (by
          obtain ⟨eA, eS⟩ := Prod.mk.inj HRV.out
          subst eA; subst eS
          have hm := mut10 w10 w.heap.size (.int .i64 2) (.int .u16 x) (.int .u32 y) (.int .u64 nn) (.int .u64 vv) (.slice qd (da).length kd) (.int .u64 0) (.slice none 0 0) (.slice none 0 0) (.slice none 0 0)
          refine ⟨qd, none, none, none, kd, 0, 0, 0, rfl, (HOD10.out.mutT hm (fun k e => by rw [e]; exact Nat.lt_succ_self _)).mono (Nat.le_succ _), (HOM10.out.mutT hm (fun k e => by rw [e]; exact Nat.lt_succ_self _)).mono2 (Nat.le_succ _), (HOL10.out.mutT hm (fun k e => by rw [e]; exact Nat.lt_succ_self _)).mono (Nat.le_succ _), (HOS10.out.mutT hm (fun k e => by rw [e]; exact Nat.lt_succ_self _)).mono2 (Nat.le_succ _), ⟨_, _, HR10.out.mutT hm (fun k e => by rw [e]; exact hs)⟩, ?_⟩
          exact (HM10.out.trans (hm.mono (fun k _ e => .inr (by rw [e]; exact Nat.le_refl _)))).mono (fun k hk e => e.elim id (fun h => absurd h (by omega))))
      · have tc : ((ck : Int) != 0) = true := by simp; omega
        have HRV : Hid ((zeroC, (⟨S5.b, 5⟩ : RS)) = (A, S9)) := hid (by
          rw [← hx.out]; unfold rCmd; rw [HRC.out]
          simp only
          rw [if_neg (by simp [h5]), if_pos (by rw [hck]; exact hc0)])
        clear CK h5 hck hc0
        go_wp2_with fail
        refine CK2.out.mono ?_
        rintro e w10 ⟨rfl, hb10⟩
        have hR10 := HRt.out.ext hb10
        have HR11 : Hid (RdIs (w10.setCell ⟨s, 1, none⟩ (.int .i64 5)) s _ _ ⟨S5.b, 5⟩) := hid (hR10.bad 5)
        have HX11 := hid ((HX2.out.ext hb10 HX2.out.lt).mutT (mut1 (s := s) (i := 1) (v := .int .i64 5)) (fun e => by have e : w.heap.size = s := e; omega))
        have HM11 := hid ((HMW.out.trans (Mut.of_below hb10)).trans ((mut1 (s := s) (i := 1) (v := .int .i64 5)).mono (fun k _ e => .inl e)))
        have q1 := hR10.c1
        rw [H50.out] at q1
        have qf := hR10.f1
        have q51 : (w10.setCell ⟨s, 1, none⟩ (.int .i64 5)).cell? ⟨s, 1, none⟩ = some (.int .i64 5) := HR11.out.c1
        clear CK2 hb10 b0 b1 b2 b3 b4 b5 b6 b7 b8 b9 hwt hR10 r1
        obtain ⟨d0, d1, d2, d3, d4, d5, d6, d7, d8, d9, df⟩ := HX11.out
        have df0 := df 0
        have df1 := df 1
        have df2 := df 2
        have df3 := df 3
        have df4 := df 4
        have df5 := df 5
        have df6 := df 6
        have df7 := df 7
        have df8 := df 8
        have df9 := df 9
        go_wp2
        obtain ⟨p0, p1, p2, p3, p4, p5, p6, p7, p8, p9, -⟩ := HX11.out.put (.int .i64 0) (.int .u16 0) (.int .u32 0) (.int .u64 0) (.int .u64 0) (.slice none 0 0) (.int .u64 0) (.slice none 0 0) (.slice none 0 0) (.slice none 0 0)
        have p00 := World.cell?_setCell_same _ _ (.int .i64 0) d0
        exact bodyPost_ret (v := .agg #[.int .i64 0, .int .u16 0, .int .u32 0, .int .u64 0, .int .u64 0, .slice none 0 0, .int .u64 0, .slice none 0 0, .slice none 0 0, .slice none 0 0]) (by simp [results, Try.results135, go_sem, p0, p1, p2, p3, p4, p5, p6, p7, p8, p9]) rfl (by
          have hA := HRV.out
          obtain ⟨eA, eS⟩ := Prod.mk.inj hA
          subst eA; subst eS
          refine ⟨none, none, none, none, 0, 0, 0, 0, rfl, OwnB.nil _ _, OwnP.nil _ _, OwnLL.nil _ _, OwnP.nil _ _, ⟨_, _, HR11.out.mutT (mut10 _ w.heap.size _ _ _ _ _ _ _ _ _ _) (fun k e => by rw [e]; exact hs)⟩, ?_⟩
          exact (HM11.out.trans ((mut10 _ w.heap.size _ _ _ _ _ _ _ _ _ _).mono (fun k _ e => .inr (by rw [e]; exact Nat.le_refl _)))).mono (fun k hk e => e.elim id (fun h => absurd h (by omega))))
    · have t9 : ((S5.e : Int) == 0) = false := by simp; omega
      have t9' : ((S5.e : Int) != 0) = true := by simp; omega
      have HRV : Hid ((zeroC, S5) = (A, S9)) := hid (by
        rw [← hx.out]; unfold rCmd; rw [HRC.out]
        simp only
        rw [if_pos h5])
      obtain ⟨d0, d1, d2, d3, d4, d5, d6, d7, d8, d9, df⟩ := HX2.out
      have df0 := df 0
      have df1 := df 1
      have df2 := df 2
      have df3 := df 3
      have df4 := df 4
      have df5 := df 5
      have df6 := df 6
      have df7 := df 7
      have df8 := df 8
      have df9 := df 9
      clear h5
      go_wp2
      obtain ⟨p0, p1, p2, p3, p4, p5, p6, p7, p8, p9, -⟩ := HX2.out.put (.int .i64 0) (.int .u16 0) (.int .u32 0) (.int .u64 0) (.int .u64 0) (.slice none 0 0) (.int .u64 0) (.slice none 0 0) (.slice none 0 0) (.slice none 0 0)
      have p00 := World.cell?_setCell_same _ _ (.int .i64 0) d0
      exact bodyPost_ret (v := .agg #[.int .i64 0, .int .u16 0, .int .u32 0, .int .u64 0, .int .u64 0, .slice none 0 0, .int .u64 0, .slice none 0 0, .slice none 0 0, .slice none 0 0]) (by simp [results, Try.results135, go_sem, p0, p1, p2, p3, p4, p5, p6, p7, p8, p9]) rfl (by
        have hA := HRV.out
        obtain ⟨eA, eS⟩ := Prod.mk.inj hA
        subst eA; subst eS
        refine ⟨none, none, none, none, 0, 0, 0, 0, rfl, OwnB.nil _ _, OwnP.nil _ _, OwnLL.nil _ _, OwnP.nil _ _, ⟨_, _, HRt.out.mutT (mut10 _ w.heap.size _ _ _ _ _ _ _ _ _ _) (fun k e => by rw [e]; exact hs)⟩, ?_⟩
        exact (HMW.out.trans ((mut10 _ w.heap.size _ _ _ _ _ _ _ _ _ _).mono (fun k _ e => .inr (by rw [e]; exact Nat.le_refl _)))).mono (fun k hk e => e.elim id (fun h => absurd h (by omega))))
  case neg =>
  by_cases hk3' : k = 3
  case pos =>
    subst hk3'
    obtain ⟨⟨V, S2⟩, h2⟩ : ∃ q, rView S1 = q := ⟨_, rfl⟩
    have HRC : Hid (rCmdParts S = (⟨((3 : Nat) : Int), (0, 0), 0, 0, [], V⟩, S2)) := hid (by unfold rCmdParts; simp only [H1.out, h2]; rw [if_neg (by decide), if_pos trivial])
    obtain ⟨i, hi, hi62⟩ : ∃ i : Nat, V.id = (i : Int) ∧ i ≤ 4611686018427387904 := by have := rView_id (S := S1); rw [h2] at this; exact this
    have hbd : (∀ p ∈ V.ms, okP p) ∧ V.ms.length ≤ 24 ∧ V.ls.length ≤ 24 ∧ (∀ l ∈ V.ls, l.length ≤ 24) ∧ V.ds.length ≤ 24 := by have := rView_bounds (S := S1); rw [h2] at this; exact this
    have C2 := hid (viewGetR_is (hid h2) hi HR3.out)
    have HBD := hid hbd
    have HI := hid hi
    clear h2 hbd hi hk2
    obtain ⟨b0, b1, b2, b3, b4, b5, b6, b7, b8, b9, -⟩ := X3.out
    go_wp2_with fail
    refine C2.out.mono ?_
    rintro e w4 ⟨vm, vl, vd, rfl, hom, hol, hod, ⟨a4, c4, hR4⟩, hM4⟩
    obtain ⟨qm, km, e1, -, -⟩ := hom.row
    obtain ⟨ql, kl, e2, -⟩ := hol.row
    obtain ⟨qs, ks, e3, -, -⟩ := hod.row
    subst e1; subst e2; subst e3
    have x34 := X3.out.mutT hM4 (fun e => by have e : w2.heap.size = s := e; omega)
    have hx34 := X23.out.mutT hM4 (fun e => by have e : w.heap.size = s := e; omega)
    have hmw4 := HMW3.out.trans (hM4.mono (G := fun k => k = s ∨ w.heap.size ≤ k) (fun k _ e => .inl e))
    have hz2' := HZ2.out
    have hm4 : Mut (fun k => k = w2.heap.size) w4 ((((w4.setCell ⟨w2.heap.size, 6, none⟩ (.int .u64 i)).setCell ⟨w2.heap.size, 7, none⟩ (.slice qm V.ms.length km)).setCell ⟨w2.heap.size, 8, none⟩ (.slice ql V.ls.length kl)).setCell ⟨w2.heap.size, 9, none⟩ (.slice qs V.ds.length ks)) := ((mut1.trans mut1).trans mut1).trans mut1
    have HBX0 := (((x34.set6 (.int .u64 i)).set7 (.slice qm V.ms.length km)).set8 (.slice ql V.ls.length kl)).set9 (.slice qs V.ds.length ks)
    have HRt0 := hR4.mutT hm4 (fun k e => by rw [e]; exact hs2)
    have HX20 := hx34.mutT hm4 (fun e => by have e : w.heap.size = w2.heap.size := e; omega)
    have HMW0 := hmw4.trans (hm4.mono (G := fun k => k = s ∨ w.heap.size ≤ k) (fun k _ e => .inr (by rw [e]; omega)))
    have hom0 := (hom.mono2 (b' := w2.heap.size + 1) (by simp)).mutT hm4 (fun k e => by rw [e]; exact Nat.lt_succ_self _)
    have hol0 := (hol.mono (b' := w2.heap.size + 1) (by simp)).mutT hm4 (fun k e => by rw [e]; exact Nat.lt_succ_self _)
    have hod0 := (hod.mono2 (b' := w2.heap.size + 1) (by simp)).mutT hm4 (fun k e => by rw [e]; exact Nat.lt_succ_self _)
    obtain ⟨wt, hwt⟩ : ∃ wt, ((((w4.setCell ⟨w2.heap.size, 6, none⟩ (.int .u64 i)).setCell ⟨w2.heap.size, 7, none⟩ (.slice qm V.ms.length km)).setCell ⟨w2.heap.size, 8, none⟩ (.slice ql V.ls.length kl)).setCell ⟨w2.heap.size, 9, none⟩ (.slice qs V.ds.length ks)) = wt := ⟨_, rfl⟩
    rw [hwt] at HBX0 HRt0 HX20 HMW0 hom0 hol0 hod0
    rw [← HI.out] at HBX0
    have HBX := hid HBX0
    have HRt := hid HRt0
    have HX2 := hid HX20
    have HMW := hid HMW0
    have HOD : Hid (OwnB wt (w.heap.size + 1) (.slice none 0 0) []) := hid (OwnB.nil _ _)
    have HOM := hid (hom0.mono2 (b' := w.heap.size + 1) (by omega))
    have HOL := hid (hol0.mono (b' := w.heap.size + 1) (by omega))
    have HOS := hid (hod0.mono2 (b' := w.heap.size + 1) (by omega))
    have hvr : ViewR wt qm ql qs V := by
      obtain ⟨a1, c1, e1, r1, -⟩ := hom0.row
      obtain ⟨a2, c2, e2, r2⟩ := hol0.row
      obtain ⟨a3, c3, e3, r3, -⟩ := hod0.row
      cases e1; cases e2; cases e3
      exact ⟨r1, r2, r3, by have := HBD.out.2.1; omega, by have := HBD.out.2.2.1; omega, by have := HBD.out.2.2.2.2; omega, fun l hl => by have := HBD.out.2.2.2.1 l hl; omega⟩
    have HCR : Hid (CmdR wt none qm ql qs ⟨((3 : Nat) : Int), (0, 0), 0, 0, [], V⟩) := hid ⟨.inl rfl, by simp, by simp, hvr⟩
    have HWF : Hid (WfPids V.ms ∧ okP (0, 0) ∧ lens V.ls ≤ 549755813888) := hid ⟨HBD.out.1, by unfold okP; decide, by
      have h1 := lens_le HBD.out.2.2.2.1
      have h2 := HBD.out.2.2.1
      have : lens V.ls ≤ 24 * 24 := Nat.le_trans h1 (Nat.mul_le_mul_right _ (by omega))
      omega⟩
    clear b0 b1 b2 b3 b4 b5 b6 b7 b8 b9 C2 hR4 hM4 hx34 hmw4 hm4 HBX0 HRt0 HX20 HMW0 hom0 hol0 hod0 hvr hom hol hod hz2'
    rw [← HI.out] at hwt
    rw [← HI.out]
    obtain ⟨e0, e1, e2, e3, e4, e5, e6, e7, e8, e9, bf⟩ := x34
    have bf6 := bf 6
    have bf7 := bf 7
    have bf8 := bf 8
    have bf9 := bf 9
    have r1 := HRt.out.c1
    obtain ⟨b0, b1, b2, b3, b4, b5, b6, b7, b8, b9, -⟩ := HBX.out
    by_cases h5 : S2.e = 0
    · rw [h5] at r1
      have H50 := hid h5
      obtain ⟨ck, hck⟩ : ∃ r, cmdChk ⟨((3 : Nat) : Int), (0, 0), 0, 0, [], V⟩ = r := ⟨_, rfl⟩
      have CK := cmdCheckR_is (da := none) (dc := 0) (cm := km) (cl := kl) (cd := ks) (r := (ck : Int)) (A := ⟨((3 : Nat) : Int), (0, 0), 0, 0, [], V⟩) (hid (by rw [hck])) HCR.out.v HWF.out.2.2 HWF.out.2.1
      have CK2 : Hid (Calls Try.prog 102 #[.agg #[.int .i64 3, .int .u16 0, .int .u32 0, .int .u64 0, .int .u64 0, .slice none 0 0, .int .u64 V.id, .slice qm V.ms.length km, .slice ql V.ls.length kl, .slice qs V.ds.length ks]] wt fun e w' => e = .returned (.int .i64 (ck : Int)) ∧ Below wt.heap.size wt w') := hid CK
      by_cases hc0 : ck = 0
      · have HRV : Hid ((⟨((3 : Nat) : Int), (0, 0), 0, 0, [], V⟩, S2) = (A, S9)) := hid (by
          rw [← hx.out]; unfold rCmd; rw [HRC.out]
          simp only
          rw [if_neg (by simp [h5]), if_neg (by rw [hck]; simp [hc0])])
        subst hc0
        clear CK h5 hck
        go_wp2_with fail
        refine CK2.out.mono ?_
        rintro e w10 ⟨rfl, hb10⟩
        have HX10 := hid (HX2.out.ext hb10 HX2.out.lt)
        have HBX10 := hid (HBX.out.ext hb10 HBX.out.lt)
        have HM10 := hid (HMW.out.trans (Mut.of_below hb10))
        have HR10 := hid (HRt.out.ext hb10)
        have HOD10 := hid (HOD.out.ext hb10)
        have HOM10 := hid (HOM.out.ext hb10)
        have HOL10 := hid (HOL.out.ext hb10)
        have HOS10 := hid (HOS.out.ext hb10)
        have q1 := HR10.out.c1
        rw [H50.out] at q1
        clear CK2 hb10 b0 b1 b2 b3 b4 b5 b6 b7 b8 b9 hwt r1
        obtain ⟨b0, b1, b2, b3, b4, b5, b6, b7, b8, b9, -⟩ := HBX10.out
        obtain ⟨d0, d1, d2, d3, d4, d5, d6, d7, d8, d9, df⟩ := HX10.out
        have df0 := df 0
        have df1 := df 1
        have df2 := df 2
        have df3 := df 3
        have df4 := df 4
        have df5 := df 5
        have df6 := df 6
        have df7 := df 7
        have df8 := df 8
        have df9 := df 9
        go_wp2
        obtain ⟨p0, p1, p2, p3, p4, p5, p6, p7, p8, p9, -⟩ := HX10.out.put (.int .i64 3) (.int .u16 0) (.int .u32 0) (.int .u64 0) (.int .u64 0) (.slice none 0 0) (.int .u64 V.id) (.slice qm V.ms.length km) (.slice ql V.ls.length kl) (.slice qs V.ds.length ks)
        have p00 := World.cell?_setCell_same _ _ (.int .i64 3) d0
        exact bodyPost_ret (v := .agg #[.int .i64 3, .int .u16 0, .int .u32 0, .int .u64 0, .int .u64 0, .slice none 0 0, .int .u64 V.id, .slice qm V.ms.length km, .slice ql V.ls.length kl, .slice qs V.ds.length ks]) (by simp [results, Try.results135, go_sem, p0, p1, p2, p3, p4, p5, p6, p7, p8, p9]) rfl (by
          obtain ⟨eA, eS⟩ := Prod.mk.inj HRV.out
          subst eA; subst eS
          have hm := mut10 w10 w.heap.size (.int .i64 3) (.int .u16 0) (.int .u32 0) (.int .u64 0) (.int .u64 0) (.slice none 0 0) (.int .u64 V.id) (.slice qm V.ms.length km) (.slice ql V.ls.length kl) (.slice qs V.ds.length ks)
          refine ⟨none, qm, ql, qs, 0, km, kl, ks, rfl, (HOD10.out.mutT hm (fun k e => by rw [e]; exact Nat.lt_succ_self _)).mono (Nat.le_succ _), (HOM10.out.mutT hm (fun k e => by rw [e]; exact Nat.lt_succ_self _)).mono2 (Nat.le_succ _), (HOL10.out.mutT hm (fun k e => by rw [e]; exact Nat.lt_succ_self _)).mono (Nat.le_succ _), (HOS10.out.mutT hm (fun k e => by rw [e]; exact Nat.lt_succ_self _)).mono2 (Nat.le_succ _), ⟨_, _, HR10.out.mutT hm (fun k e => by rw [e]; exact hs)⟩, ?_⟩
          exact (HM10.out.trans (hm.mono (fun k _ e => .inr (by rw [e]; exact Nat.le_refl _)))).mono (fun k hk e => e.elim id (fun h => absurd h (by omega))))
      · have tc : ((ck : Int) != 0) = true := by simp; omega
        have HRV : Hid ((zeroC, (⟨S2.b, 5⟩ : RS)) = (A, S9)) := hid (by
          rw [← hx.out]; unfold rCmd; rw [HRC.out]
          simp only
          rw [if_neg (by simp [h5]), if_pos (by rw [hck]; exact hc0)])
        clear CK h5 hck hc0
        go_wp2_with fail
        refine CK2.out.mono ?_
        rintro e w10 ⟨rfl, hb10⟩
        have hR10 := HRt.out.ext hb10
        have HR11 : Hid (RdIs (w10.setCell ⟨s, 1, none⟩ (.int .i64 5)) s _ _ ⟨S2.b, 5⟩) := hid (hR10.bad 5)
        have HX11 := hid ((HX2.out.ext hb10 HX2.out.lt).mutT (mut1 (s := s) (i := 1) (v := .int .i64 5)) (fun e => by have e : w.heap.size = s := e; omega))
        have HM11 := hid ((HMW.out.trans (Mut.of_below hb10)).trans ((mut1 (s := s) (i := 1) (v := .int .i64 5)).mono (fun k _ e => .inl e)))
        have q1 := hR10.c1
        rw [H50.out] at q1
        have qf := hR10.f1
        have q51 : (w10.setCell ⟨s, 1, none⟩ (.int .i64 5)).cell? ⟨s, 1, none⟩ = some (.int .i64 5) := HR11.out.c1
        clear CK2 hb10 b0 b1 b2 b3 b4 b5 b6 b7 b8 b9 hwt hR10 r1
        obtain ⟨d0, d1, d2, d3, d4, d5, d6, d7, d8, d9, df⟩ := HX11.out
        have df0 := df 0
        have df1 := df 1
        have df2 := df 2
        have df3 := df 3
        have df4 := df 4
        have df5 := df 5
        have df6 := df 6
        have df7 := df 7
        have df8 := df 8
        have df9 := df 9
        go_wp2
        obtain ⟨p0, p1, p2, p3, p4, p5, p6, p7, p8, p9, -⟩ := HX11.out.put (.int .i64 0) (.int .u16 0) (.int .u32 0) (.int .u64 0) (.int .u64 0) (.slice none 0 0) (.int .u64 0) (.slice none 0 0) (.slice none 0 0) (.slice none 0 0)
        have p00 := World.cell?_setCell_same _ _ (.int .i64 0) d0
        exact bodyPost_ret (v := .agg #[.int .i64 0, .int .u16 0, .int .u32 0, .int .u64 0, .int .u64 0, .slice none 0 0, .int .u64 0, .slice none 0 0, .slice none 0 0, .slice none 0 0]) (by simp [results, Try.results135, go_sem, p0, p1, p2, p3, p4, p5, p6, p7, p8, p9]) rfl (by
          have hA := HRV.out
          obtain ⟨eA, eS⟩ := Prod.mk.inj hA
          subst eA; subst eS
          refine ⟨none, none, none, none, 0, 0, 0, 0, rfl, OwnB.nil _ _, OwnP.nil _ _, OwnLL.nil _ _, OwnP.nil _ _, ⟨_, _, HR11.out.mutT (mut10 _ w.heap.size _ _ _ _ _ _ _ _ _ _) (fun k e => by rw [e]; exact hs)⟩, ?_⟩
          exact (HM11.out.trans ((mut10 _ w.heap.size _ _ _ _ _ _ _ _ _ _).mono (fun k _ e => .inr (by rw [e]; exact Nat.le_refl _)))).mono (fun k hk e => e.elim id (fun h => absurd h (by omega))))
    · have t9 : ((S2.e : Int) == 0) = false := by simp; omega
      have t9' : ((S2.e : Int) != 0) = true := by simp; omega
      have HRV : Hid ((zeroC, S2) = (A, S9)) := hid (by
        rw [← hx.out]; unfold rCmd; rw [HRC.out]
        simp only
        rw [if_pos h5])
      obtain ⟨d0, d1, d2, d3, d4, d5, d6, d7, d8, d9, df⟩ := HX2.out
      have df0 := df 0
      have df1 := df 1
      have df2 := df 2
      have df3 := df 3
      have df4 := df 4
      have df5 := df 5
      have df6 := df 6
      have df7 := df 7
      have df8 := df 8
      have df9 := df 9
      clear h5
      go_wp2
      obtain ⟨p0, p1, p2, p3, p4, p5, p6, p7, p8, p9, -⟩ := HX2.out.put (.int .i64 0) (.int .u16 0) (.int .u32 0) (.int .u64 0) (.int .u64 0) (.slice none 0 0) (.int .u64 0) (.slice none 0 0) (.slice none 0 0) (.slice none 0 0)
      have p00 := World.cell?_setCell_same _ _ (.int .i64 0) d0
      exact bodyPost_ret (v := .agg #[.int .i64 0, .int .u16 0, .int .u32 0, .int .u64 0, .int .u64 0, .slice none 0 0, .int .u64 0, .slice none 0 0, .slice none 0 0, .slice none 0 0]) (by simp [results, Try.results135, go_sem, p0, p1, p2, p3, p4, p5, p6, p7, p8, p9]) rfl (by
        have hA := HRV.out
        obtain ⟨eA, eS⟩ := Prod.mk.inj hA
        subst eA; subst eS
        refine ⟨none, none, none, none, 0, 0, 0, 0, rfl, OwnB.nil _ _, OwnP.nil _ _, OwnLL.nil _ _, OwnP.nil _ _, ⟨_, _, HRt.out.mutT (mut10 _ w.heap.size _ _ _ _ _ _ _ _ _ _) (fun k e => by rw [e]; exact hs)⟩, ?_⟩
        exact (HMW.out.trans ((mut10 _ w.heap.size _ _ _ _ _ _ _ _ _ _).mono (fun k _ e => .inr (by rw [e]; exact Nat.le_refl _)))).mono (fun k hk e => e.elim id (fun h => absurd h (by omega))))
  case neg =>
    have HRC : Hid (rCmdParts S = (⟨((k : Nat) : Int), (0, 0), 0, 0, [], zeroV⟩, S1)) := hid (by unfold rCmdParts; simp only [H1.out]; rw [if_neg hk2, if_neg hk3'])
    have t2 : ((k : Int) == 2) = false := by simp; omega
    have t3 : ((k : Int) == 3) = false := by simp; omega
    have hwt := trivial
    have HBX := X3
    have HRt := HR3
    have HX2 := X23
    have HMW := HMW3
    have HOD : Hid (OwnB (w2.alloc (.cells #[.int .i64 k, .int .u16 0, .int .u32 0, .int .u64 0, .int .u64 0, .slice none 0 0, .int .u64 0, .slice none 0 0, .slice none 0 0, .slice none 0 0] 44)) (w.heap.size + 1) (.slice none 0 0) []) := hid (OwnB.nil _ _)
    have HOM : Hid (OwnP (w2.alloc (.cells #[.int .i64 k, .int .u16 0, .int .u32 0, .int .u64 0, .int .u64 0, .slice none 0 0, .int .u64 0, .slice none 0 0, .slice none 0 0, .slice none 0 0] 44)) (w.heap.size + 1) (.slice none 0 0) zeroV.ms) := hid (OwnP.nil _ _)
    have HOL : Hid (OwnLL (w2.alloc (.cells #[.int .i64 k, .int .u16 0, .int .u32 0, .int .u64 0, .int .u64 0, .slice none 0 0, .int .u64 0, .slice none 0 0, .slice none 0 0, .slice none 0 0] 44)) (w.heap.size + 1) (.slice none 0 0) zeroV.ls) := hid (OwnLL.nil _ _)
    have HOS : Hid (OwnP (w2.alloc (.cells #[.int .i64 k, .int .u16 0, .int .u32 0, .int .u64 0, .int .u64 0, .slice none 0 0, .int .u64 0, .slice none 0 0, .slice none 0 0, .slice none 0 0] 44)) (w.heap.size + 1) (.slice none 0 0) zeroV.ds) := hid (OwnP.nil _ _)
    have HCR : Hid (CmdR (w2.alloc (.cells #[.int .i64 k, .int .u16 0, .int .u32 0, .int .u64 0, .int .u64 0, .slice none 0 0, .int .u64 0, .slice none 0 0, .slice none 0 0, .slice none 0 0] 44)) none none none none ⟨((k : Nat) : Int), (0, 0), 0, 0, [], zeroV⟩) := hid (CmdR.zero (w2.alloc (.cells #[.int .i64 k, .int .u16 0, .int .u32 0, .int .u64 0, .int .u64 0, .slice none 0 0, .int .u64 0, .slice none 0 0, .slice none 0 0, .slice none 0 0] 44)) k)
    have HWF : Hid (WfPids zeroV.ms ∧ okP (0, 0) ∧ lens zeroV.ls ≤ 549755813888) := hid ⟨(by intro p hp; cases hp), by unfold okP; decide, by decide⟩
    clear hk2 hk3'
    have r1 := HRt.out.c1
    obtain ⟨b0, b1, b2, b3, b4, b5, b6, b7, b8, b9, -⟩ := HBX.out
    by_cases h5 : S1.e = 0
    · rw [h5] at r1
      have H50 := hid h5
      obtain ⟨ck, hck⟩ : ∃ r, cmdChk ⟨((k : Nat) : Int), (0, 0), 0, 0, [], zeroV⟩ = r := ⟨_, rfl⟩
      have CK := cmdCheckR_is (da := none) (dc := 0) (cm := 0) (cl := 0) (cd := 0) (r := (ck : Int)) (A := ⟨((k : Nat) : Int), (0, 0), 0, 0, [], zeroV⟩) (hid (by rw [hck])) HCR.out.v HWF.out.2.2 HWF.out.2.1
      have CK2 : Hid (Calls Try.prog 102 #[.agg #[.int .i64 ((k : Nat) : Int), .int .u16 0, .int .u32 0, .int .u64 0, .int .u64 0, .slice none 0 0, .int .u64 0, .slice none 0 0, .slice none 0 0, .slice none 0 0]] (w2.alloc (.cells #[.int .i64 k, .int .u16 0, .int .u32 0, .int .u64 0, .int .u64 0, .slice none 0 0, .int .u64 0, .slice none 0 0, .slice none 0 0, .slice none 0 0] 44)) fun e w' => e = .returned (.int .i64 (ck : Int)) ∧ Below (w2.alloc (.cells #[.int .i64 k, .int .u16 0, .int .u32 0, .int .u64 0, .int .u64 0, .slice none 0 0, .int .u64 0, .slice none 0 0, .slice none 0 0, .slice none 0 0] 44)).heap.size (w2.alloc (.cells #[.int .i64 k, .int .u16 0, .int .u32 0, .int .u64 0, .int .u64 0, .slice none 0 0, .int .u64 0, .slice none 0 0, .slice none 0 0, .slice none 0 0] 44)) w') := hid CK
      by_cases hc0 : ck = 0
      · have HRV : Hid ((⟨((k : Nat) : Int), (0, 0), 0, 0, [], zeroV⟩, S1) = (A, S9)) := hid (by
          rw [← hx.out]; unfold rCmd; rw [HRC.out]
          simp only
          rw [if_neg (by simp [h5]), if_neg (by rw [hck]; simp [hc0])])
        subst hc0
        clear CK h5 hck
        go_wp2_with fail
        refine CK2.out.mono ?_
        rintro e w10 ⟨rfl, hb10⟩
        have HX10 := hid (HX2.out.ext hb10 HX2.out.lt)
        have HBX10 := hid (HBX.out.ext hb10 HBX.out.lt)
        have HM10 := hid (HMW.out.trans (Mut.of_below hb10))
        have HR10 := hid (HRt.out.ext hb10)
        have HOD10 := hid (HOD.out.ext hb10)
        have HOM10 := hid (HOM.out.ext hb10)
        have HOL10 := hid (HOL.out.ext hb10)
        have HOS10 := hid (HOS.out.ext hb10)
        have q1 := HR10.out.c1
        rw [H50.out] at q1
        clear CK2 hb10 b0 b1 b2 b3 b4 b5 b6 b7 b8 b9 hwt r1
        obtain ⟨b0, b1, b2, b3, b4, b5, b6, b7, b8, b9, -⟩ := HBX10.out
        obtain ⟨d0, d1, d2, d3, d4, d5, d6, d7, d8, d9, df⟩ := HX10.out
        have df0 := df 0
        have df1 := df 1
        have df2 := df 2
        have df3 := df 3
        have df4 := df 4
        have df5 := df 5
        have df6 := df 6
        have df7 := df 7
        have df8 := df 8
        have df9 := df 9
        go_wp2
        obtain ⟨p0, p1, p2, p3, p4, p5, p6, p7, p8, p9, -⟩ := HX10.out.put (.int .i64 ((k : Nat) : Int)) (.int .u16 0) (.int .u32 0) (.int .u64 0) (.int .u64 0) (.slice none 0 0) (.int .u64 0) (.slice none 0 0) (.slice none 0 0) (.slice none 0 0)
        have p00 := World.cell?_setCell_same _ _ (.int .i64 ((k : Nat) : Int)) d0
        exact bodyPost_ret (v := .agg #[.int .i64 ((k : Nat) : Int), .int .u16 0, .int .u32 0, .int .u64 0, .int .u64 0, .slice none 0 0, .int .u64 0, .slice none 0 0, .slice none 0 0, .slice none 0 0]) (by simp [results, Try.results135, go_sem, p0, p1, p2, p3, p4, p5, p6, p7, p8, p9]) rfl (by
          obtain ⟨eA, eS⟩ := Prod.mk.inj HRV.out
          subst eA; subst eS
          have hm := mut10 w10 w.heap.size (.int .i64 ((k : Nat) : Int)) (.int .u16 0) (.int .u32 0) (.int .u64 0) (.int .u64 0) (.slice none 0 0) (.int .u64 0) (.slice none 0 0) (.slice none 0 0) (.slice none 0 0)
          refine ⟨none, none, none, none, 0, 0, 0, 0, rfl, (HOD10.out.mutT hm (fun k e => by rw [e]; exact Nat.lt_succ_self _)).mono (Nat.le_succ _), (HOM10.out.mutT hm (fun k e => by rw [e]; exact Nat.lt_succ_self _)).mono2 (Nat.le_succ _), (HOL10.out.mutT hm (fun k e => by rw [e]; exact Nat.lt_succ_self _)).mono (Nat.le_succ _), (HOS10.out.mutT hm (fun k e => by rw [e]; exact Nat.lt_succ_self _)).mono2 (Nat.le_succ _), ⟨_, _, HR10.out.mutT hm (fun k e => by rw [e]; exact hs)⟩, ?_⟩
          exact (HM10.out.trans (hm.mono (fun k _ e => .inr (by rw [e]; exact Nat.le_refl _)))).mono (fun k hk e => e.elim id (fun h => absurd h (by omega))))
      · have tc : ((ck : Int) != 0) = true := by simp; omega
        have HRV : Hid ((zeroC, (⟨S1.b, 5⟩ : RS)) = (A, S9)) := hid (by
          rw [← hx.out]; unfold rCmd; rw [HRC.out]
          simp only
          rw [if_neg (by simp [h5]), if_pos (by rw [hck]; exact hc0)])
        clear CK h5 hck hc0
        go_wp2_with fail
        refine CK2.out.mono ?_
        rintro e w10 ⟨rfl, hb10⟩
        have hR10 := HRt.out.ext hb10
        have HR11 : Hid (RdIs (w10.setCell ⟨s, 1, none⟩ (.int .i64 5)) s _ _ ⟨S1.b, 5⟩) := hid (hR10.bad 5)
        have HX11 := hid ((HX2.out.ext hb10 HX2.out.lt).mutT (mut1 (s := s) (i := 1) (v := .int .i64 5)) (fun e => by have e : w.heap.size = s := e; omega))
        have HM11 := hid ((HMW.out.trans (Mut.of_below hb10)).trans ((mut1 (s := s) (i := 1) (v := .int .i64 5)).mono (fun k _ e => .inl e)))
        have q1 := hR10.c1
        rw [H50.out] at q1
        have qf := hR10.f1
        have q51 : (w10.setCell ⟨s, 1, none⟩ (.int .i64 5)).cell? ⟨s, 1, none⟩ = some (.int .i64 5) := HR11.out.c1
        clear CK2 hb10 b0 b1 b2 b3 b4 b5 b6 b7 b8 b9 hwt hR10 r1
        obtain ⟨d0, d1, d2, d3, d4, d5, d6, d7, d8, d9, df⟩ := HX11.out
        have df0 := df 0
        have df1 := df 1
        have df2 := df 2
        have df3 := df 3
        have df4 := df 4
        have df5 := df 5
        have df6 := df 6
        have df7 := df 7
        have df8 := df 8
        have df9 := df 9
        go_wp2
        obtain ⟨p0, p1, p2, p3, p4, p5, p6, p7, p8, p9, -⟩ := HX11.out.put (.int .i64 0) (.int .u16 0) (.int .u32 0) (.int .u64 0) (.int .u64 0) (.slice none 0 0) (.int .u64 0) (.slice none 0 0) (.slice none 0 0) (.slice none 0 0)
        have p00 := World.cell?_setCell_same _ _ (.int .i64 0) d0
        exact bodyPost_ret (v := .agg #[.int .i64 0, .int .u16 0, .int .u32 0, .int .u64 0, .int .u64 0, .slice none 0 0, .int .u64 0, .slice none 0 0, .slice none 0 0, .slice none 0 0]) (by simp [results, Try.results135, go_sem, p0, p1, p2, p3, p4, p5, p6, p7, p8, p9]) rfl (by
          have hA := HRV.out
          obtain ⟨eA, eS⟩ := Prod.mk.inj hA
          subst eA; subst eS
          refine ⟨none, none, none, none, 0, 0, 0, 0, rfl, OwnB.nil _ _, OwnP.nil _ _, OwnLL.nil _ _, OwnP.nil _ _, ⟨_, _, HR11.out.mutT (mut10 _ w.heap.size _ _ _ _ _ _ _ _ _ _) (fun k e => by rw [e]; exact hs)⟩, ?_⟩
          exact (HM11.out.trans ((mut10 _ w.heap.size _ _ _ _ _ _ _ _ _ _).mono (fun k _ e => .inr (by rw [e]; exact Nat.le_refl _)))).mono (fun k hk e => e.elim id (fun h => absurd h (by omega))))
    · have t9 : ((S1.e : Int) == 0) = false := by simp; omega
      have t9' : ((S1.e : Int) != 0) = true := by simp; omega
      have HRV : Hid ((zeroC, S1) = (A, S9)) := hid (by
        rw [← hx.out]; unfold rCmd; rw [HRC.out]
        simp only
        rw [if_pos h5])
      obtain ⟨d0, d1, d2, d3, d4, d5, d6, d7, d8, d9, df⟩ := HX2.out
      have df0 := df 0
      have df1 := df 1
      have df2 := df 2
      have df3 := df 3
      have df4 := df 4
      have df5 := df 5
      have df6 := df 6
      have df7 := df 7
      have df8 := df 8
      have df9 := df 9
      clear h5
      go_wp2
      obtain ⟨p0, p1, p2, p3, p4, p5, p6, p7, p8, p9, -⟩ := HX2.out.put (.int .i64 0) (.int .u16 0) (.int .u32 0) (.int .u64 0) (.int .u64 0) (.slice none 0 0) (.int .u64 0) (.slice none 0 0) (.slice none 0 0) (.slice none 0 0)
      have p00 := World.cell?_setCell_same _ _ (.int .i64 0) d0
      exact bodyPost_ret (v := .agg #[.int .i64 0, .int .u16 0, .int .u32 0, .int .u64 0, .int .u64 0, .slice none 0 0, .int .u64 0, .slice none 0 0, .slice none 0 0, .slice none 0 0]) (by simp [results, Try.results135, go_sem, p0, p1, p2, p3, p4, p5, p6, p7, p8, p9]) rfl (by
        have hA := HRV.out
        obtain ⟨eA, eS⟩ := Prod.mk.inj hA
        subst eA; subst eS
        refine ⟨none, none, none, none, 0, 0, 0, 0, rfl, OwnB.nil _ _, OwnP.nil _ _, OwnLL.nil _ _, OwnP.nil _ _, ⟨_, _, HRt.out.mutT (mut10 _ w.heap.size _ _ _ _ _ _ _ _ _ _) (fun k e => by rw [e]; exact hs)⟩, ?_⟩
        exact (HMW.out.trans ((mut10 _ w.heap.size _ _ _ _ _ _ _ _ _ _).mono (fun k _ e => .inr (by rw [e]; exact Nat.le_refl _)))).mono (fun k hk e => e.elim id (fun h => absurd h (by omega))))
end Go.Proofs.Ytbpfhclcjedkcaa

