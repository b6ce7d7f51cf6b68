import Derived.Test.YtcdpaflmofljaaaGreatGNodeNil24
/- Parts of the proof of NodeNil: MH2 MH1. -/
namespace Go.Proofs.YtcdpaflmofljaaaGreat
open Go.RowKit
section
variable {w:World} {nb xb il iw lb i mc:Nat} {cs:List Value} {x y:Int} {A:VAd} {ma:Option Addr}
set_option maxRecDepth 100000 in
set_option maxHeartbeats 3200000 in
theorem nSeq1 {N:Nat→Prop} {qa:Option Addr} {qc:Nat} (hB:Zc w nb 98 cs) (c9:cs[9]?=some (.int .u64 i)) (c16:cs[16]?=some (.pointer (some ⟨xb,0,none⟩))) (c20:cs[20]?=some (.pointer (some ⟨lb,0,none⟩))) (hL:Zc w lb 149 [.int .u64 0,.slice none 0 0]) (hX:Zc w xb 199 (ibC i ma mc il iw 0)) (hr:Zb w ma [(x,y)]) (hl:Zj w il Yg n64 []) (hw:Zj w iw KQ sv [((x,y,1),.slice qa 1 qc)]) (hd:Zg w qa [109]) (hNs:∀k,N k→k<w.heap.size) :
  Calls Tryz.prog 201 #[.pointer (some ⟨nb,0,none⟩)] w λe w'=>∃B:MA,e=.returned (.agg (Yd B (VH x y i)))∧CR w' N B (VH x y i)∧Below w.heap.size w w':=by
 obtain ⟨W1,hW1⟩:∃W1,w.alloc (.cells #[.int .i64 0,.int .u16 0,.int .u32 0,.int .u64 0,.int .u64 0,.slice none 0 0,.int .u64 0,.slice none 0 0,.slice none 0 0,.slice none 0 0] 126)=W1:=⟨_,rfl⟩
 have hb1:Below w.heap.size w W1:=by rw [←hW1];exact bra
 have xR:Zc W1 w.heap.size 126 [.int .i64 0,.int .u16 0,.int .u32 0,.int .u64 0,.int .u64 0,.slice none 0 0,.int .u64 0,.slice none 0 0,.slice none 0 0,.slice none 0 0]:=by rw [←hW1];exact Zc.made _ _ _
 have hz1:w.heap.size<W1.heap.size:=xR.lt
 have n16:=(hB.ext hb1).cell c16
 have CX:=hid (xNext1 (n:=1) (bs:=[109]) (hX.ext hb1) (hr.ext hb1) (hl.ext hb1) (hw.ext hb1) rfl (by decide) (hd.ext hb1))
 have HX1:=hid xR
 have HB1:=hid hb1
 have HB:=hid hB
 have HC9:=hid c9
 have HC20:=hid c20
 have HL:=hid hL
 have HNs:=hid hNs
 have HZ1:=hid hz1
 clear hB c9 c16 c20 hL hX hr hl hw hd hNs hb1 xR hz1
 go_enter Tryz.func201,Tryz.ntmps201
 go_upto_region 1 with fail
 try rw [hW1]
 clear hW1
 go_wp2_with fail
 refine CX.out.mono ?_
 rintro e w2 ⟨ea,ec,rfl,hb2,ho2⟩
 have HDR2:Hid (zaF w2 (λk=>N k∨k=w.heap.size) ea [109]):=hid (zaF.of_own ho2 (λk hk=>by
  have:=HZ1.out
  rcases hk with hk | hk
  ·have:=HNs.out k hk;omega
  ·omega))
 have HCAP:Hid (1≤ec):=hid (ho2.cap _ _ _ rfl)
 clear n16 CX ho2
 go_upto_region 2 with fail
 obtain ⟨w3,hw3⟩:∃z,w2.alloc (.cells #[.int .u16 x,.int .u32 y] 25)=z:=⟨_,rfl⟩
 have hb3:Below w2.heap.size w2 w3:=by rw [←hw3];exact bra
 have hp3:Zc w3 w2.heap.size 25 [.int .u16 x,.int .u32 y]:=by rw [←hw3];exact Zc.made _ _ _
 try rw [hw3]
 clear hw3
 have hb13:=hb2.trans (hb3.mono hb2.size)
 have HX3:=hid (HX1.out.ext hb13)
 have HB3:Hid (Below w.heap.size w w3):=hid (HB1.out.trans (hb13.mono HB1.out.size))
 have HDR3:=hid (HDR2.out.ext hb3)
 have HP3:=hid hp3
 have HZ3:Hid (W1.heap.size≤w2.heap.size):=hid hb2.size
 have CR3:=hid (lRoom0 (HL.out.ext HB3.out) (.inl rfl))
 have n20:=(HB.out.ext HB3.out).cell HC20.out
 clear hb2 hb3 hb13 hp3 HDR2 HX1
 go_wp2_with fail
 refine CR3.out.mono ?_
 rintro e w9 ⟨rfl,rfl⟩
 rename World=>w3
 clear CR3 n20
 go_upto_region 4 with fail
 have HSM:Hid (∀W,Mut (λk=>k=w.heap.size∨w3.heap.size≤k) w3 W→W.cell? ⟨nb,9,none⟩=some (.int .u64 i)∧W.cell? ⟨w2.heap.size,0,none⟩=some (.int .u16 x)∧W.cell? ⟨w2.heap.size,1,none⟩=some (.int .u32 y)):=hid λW hm=>⟨(hm.cell (p:=⟨nb,9,none⟩) (HB.out.ext HB3.out).lt (λe=>by have:=HB.out.lt;have:=HB3.out.size;rcases e with e | e <;> simp only at e <;> omega)).trans ((HB.out.ext HB3.out).cell HC9.out),(hm.cell (p:=⟨w2.heap.size,0,none⟩) HP3.out.lt (λe=>by have:=HP3.out.lt;have:=HZ1.out;have:=HZ3.out;rcases e with e | e <;> simp only at e <;> omega)).trans (HP3.out.cell (j:=0) rfl),(hm.cell (p:=⟨w2.heap.size,1,none⟩) HP3.out.lt (λe=>by have:=HP3.out.lt;have:=HZ1.out;have:=HZ3.out;rcases e with e | e <;> simp only at e <;> omega)).trans (HP3.out.cell (j:=1) rfl)⟩
 have HS:Hid (∀W,Below w3.heap.size w3 W→W.cell? ⟨nb,9,none⟩=some (.int .u64 i)∧W.cell? ⟨w2.heap.size,0,none⟩=some (.int .u16 x)∧W.cell? ⟨w2.heap.size,1,none⟩=some (.int .u32 y)):=hid λW hb=>HSM.out W ((Mut.of_below hb).mono λk _ e=>.inr e)
 refine rhd HS.out ((Below.refl _ _).drew) λhHeld=>?_
 refine tkv 0 (.agg #[.int .u16 x,.int .u32 y]) rfl ?_
 refine tkv 1 (.int .u64 1) rfl ?_
 refine tkv 2 (.pointer (some ⟨nb,0,none⟩)) rfl ?_
 refine tkv 3 (.pointer (some ⟨nb,0,none⟩)) rfl ?_
 refine tkv 4 (.pointer (some ⟨nb,9,none⟩)) rfl ?_
 refine tkv 5 (.pointer (some ⟨nb,9,none⟩)) rfl ?_
 refine tkv 6 (.pointer (some ⟨nb,9,none⟩)) rfl ?_
 refine tkv 7 (.int .u64 i) rfl ?_
 refine tkv 8 (.slice ea 1 ec) rfl ?_
 refine tkv 9 (.agg #[.int .i64 2,.int .u16 x,.int .u32 y,.int .u64 1,.int .u64 i,.slice ea 1 ec,.int .u64 0,.slice none 0 0,.slice none 0 0,.slice none 0 0]) rfl ?_
 have hx4:=HX3.out
 have fz:=hx4.frozen
 have e0:=hx4.cell (j:=0) rfl
 have e1:=hx4.cell (j:=1) rfl
 have e2:=hx4.cell (j:=2) rfl
 have e3:=hx4.cell (j:=3) rfl
 have e4:=hx4.cell (j:=4) rfl
 have e5:=hx4.cell (j:=5) rfl
 have e6:=hx4.cell (j:=6) rfl
 have e7:=hx4.cell (j:=7) rfl
 have e8:=hx4.cell (j:=8) rfl
 have e9:=hx4.cell (j:=9) rfl
 clear hx4
 refine rd1 10 rfl λK hK=>?_
 go_simp
 have hxr:=(YF (n0:=.int .i64 2) (n1:=.int .u16 x) (n2:=.int .u32 y) (n3:=.int .u64 1) (n4:=.int .u64 i) (n5:=.slice ea 1 ec) (n6:=.int .u64 0) (n7:=.slice none 0 0) (n8:=.slice none 0 0) (n9:=.slice none 0 0) HX3.out).ext (Below.refl _ _).drew
 have hmr:=YG w3 w.heap.size (.int .i64 2) (.int .u16 x) (.int .u32 y) (.int .u64 1) (.int .u64 i) (.slice ea 1 ec) (.int .u64 0) (.slice none 0 0) (.slice none 0 0) (.slice none 0 0)
 obtain ⟨w4,hw4⟩:∃z,(((((((((((w3).setCell ⟨w.heap.size,0,none⟩ (.int .i64 2)).setCell ⟨w.heap.size,1,none⟩ (.int .u16 x)).setCell ⟨w.heap.size,2,none⟩ (.int .u32 y)).setCell ⟨w.heap.size,3,none⟩ (.int .u64 1)).setCell ⟨w.heap.size,4,none⟩ (.int .u64 i)).setCell ⟨w.heap.size,5,none⟩ (.slice ea 1 ec)).setCell ⟨w.heap.size,6,none⟩ (.int .u64 0)).setCell ⟨w.heap.size,7,none⟩ (.slice none 0 0)).setCell ⟨w.heap.size,8,none⟩ (.slice none 0 0)).setCell ⟨w.heap.size,9,none⟩ (.slice none 0 0)).drew=z:=⟨_,rfl⟩
 have hb4:Below w.heap.size w w4:=by rw [←hw4];exact (Jp HB3.out (Nat.le_refl _)).drew
 have hm4:Mut (λk=>k=w.heap.size∨w3.heap.size≤k) w3 w4:=by rw [←hw4];exact (hmr.mono λk _ e=>.inl e).trans ((Mut.of_below (Below.refl _ _).drew).mono λk _ e=>.inr (Nat.le_trans hmr.size e))
 rw [hw4] at hxr
 try rw [hw4]
 clear hw4 e0 e1 e2 e3 e4 e5 e6 e7 e8 e9 fz
 have HM4:=hid hm4
 have HXR:=hid hxr
 clear hxr hmr hm4
 refine hK.out _ _ (HSM.out _ HM4.out) (λhHeld=>?_)
 clear hK K
 try simp only [lay]
 refine dn ?_
 have HDR4:=hid (HDR3.out.mut HM4.out (λk e=>by
  rcases e with e | e
  ·exact .inl (.inr e)
  ·exact .inr e))
 have hCR:CR w4 N { Zu with da:=ea,dc:=ec } (VH x y i):=CR.more (N:=λk=>N k∨k=w.heap.size) ⟨HDR4.out,(show ([109]:List Nat).length≤200 by decide),(show ∀b∈([109]:List Nat),b<256 by decide),rfl,HCAP.out⟩ (λk e=>.inl (.inl e))
 have HCR:=hid hCR
 have HB4:=hid hb4
 clear hCR hb4
 go_wp2_with fail
 refine bodyPost_ret (v:=.agg #[.int .i64 2,.int .u16 x,.int .u32 y,.int .u64 1,.int .u64 i,.slice ea 1 ec,.int .u64 0,.slice none 0 0,.slice none 0 0,.slice none 0 0]) (VD (p:=2) rfl _ rfl HXR.out) rfl ⟨{ Zu with da:=ea,dc:=ec },rfl,HCR.out,?_⟩
 exact HB4.out
end
theorem zch {b:Bnd} {a:Option Addr} {c n:Nat} {ls:LL} {G:Int} {w:World} (hG:Hid (Yr b ls=G)) (hN:Hid (ls.length=n)) (hn:n≤1000000) (hrow:Zp w a ls) :
  Calls Tryz.prog 257 #[.slice a n c,.agg #[.int .i64 b.least,.int .i64 b.most,.int .i64 b.tmo]] w λe w'=>e=.returned (.int .i64 G)∧Below w.heap.size w w':=by
 have hN:=hN.out;subst hN
 rw [←hG.out]
 exact GQ (b:=b) (c:=c) (by omega) hrow
theorem zc2 {b:Bnd} {a:Option Addr} {c n:Nat} {ls:LL} {G:Int} {w:World} (hG:Hid (Yp b ls=G)) (hN:Hid (ls.length=n)) (hn:n≤1000000) (hrow:Zp w a ls) :
  Calls Tryz.prog 258 #[.slice a n c,.agg #[.int .i64 b.least,.int .i64 b.most,.int .i64 b.tmo]] w λe w'=>e=.returned (.int .i64 G)∧Below w.heap.size w w':=by
 have hN:=hN.out;subst hN
 rw [←hG.out]
 exact Gx (b:=b) (c:=c) (by omega) hrow
set_option maxRecDepth 100000 in
set_option maxHeartbeats 1600000 in
theorem EQ {V:Zs} {b:Bnd} {am al ad:Option Addr} {cm cl cd:Nat} {r:Bool} {w:World} (hr:Hid (EI b V.ls=r)) (hV:Zt w am al ad V) (hll:V.ls.length≤1000000) :
  Calls Tryz.prog 199 #[.agg #[.int .u64 V.id,.slice am V.ms.length cm,.slice al V.ls.length cl,.slice ad V.ds.length cd],.agg #[.int .i64 b.least,.int .i64 b.most,.int .i64 b.tmo]] w λe w'=>e=.returned (.bool r)∧Below w.heap.size w w':=by
 obtain ⟨W1,hW1⟩:∃W1,w.alloc (.cells #[.int .u64 V.id,.slice am V.ms.length cm,.slice al V.ls.length cl,.slice ad V.ds.length cd] 35)=W1:=⟨_,rfl⟩
 have s1:W1.heap.size=w.heap.size+1:=by rw [←hW1];simp
 have b1:Below w.heap.size w W1:=by rw [←hW1];exact bra
 have x1:ZB W1 w.heap.size V am al ad cm cl cd:=by rw [←hW1];exact ZB.made (V:=V) w
 obtain ⟨W2,hW2⟩:∃W2,W1.alloc (.cells #[.int .i64 b.least,.int .i64 b.most,.int .i64 b.tmo] 28)=W2:=⟨_,rfl⟩
 have b2:Below W1.heap.size W1 W2:=by rw [←hW2];exact bra
 have y2:Yx W2 (w.heap.size+1) b:=by rw [←hW2,← s1];exact Yx.made W1
 have x2:=x1.ext b2 x1.lt
 have hb2:=b1.trans (b2.mono b1.size)
 have hV2:=hV.ext hb2
 obtain ⟨G,hG⟩:∃G,Yr b V.ls=G:=⟨_,rfl⟩
 obtain ⟨M,hM⟩:∃M,Yp b V.ls=M:=⟨_,rfl⟩
 have hfit:=hr.out
 unfold EI at hfit
 rw [hG,hM] at hfit
 have C1:=hid (zch (c:=cl) (hid hG) (hid rfl) hll hV2.ls)
 have C2:Hid (∀X,Below W2.heap.size W2 X→Calls Tryz.prog 258 #[.slice al V.ls.length cl,.agg #[.int .i64 b.least,.int .i64 b.most,.int .i64 b.tmo]] X λe w'=>e=.returned (.int .i64 M)∧Below X.heap.size X w'):=hid λX h=>zc2 (c:=cl) (hid hM) (hid rfl) hll (hV2.ls.ext h)
 obtain ⟨v0,v1,v2,v3⟩:=id x2
 obtain ⟨z0,z1,z2⟩:=id y2
 have HX:=hid x2
 have HY:=hid y2
 have HB2:=hid hb2
 clear hr hV hll b1 x1 b2 y2 x2 hb2 hV2 hG hM
 cases hg:decide (G<0)
 ·rw [hg] at hfit
  have hfr:r=false:=hfit.symm
  subst hfr
  clear hfit
  go_enter Tryz.func199,Tryz.ntmps199
  go_wp2_with fail
  (with_reducible refine C1.out.mono ?_)
  rintro e w3 ⟨rfl,hb3⟩
  have HB3:=hid (HB2.out.trans (hb3.mono HB2.out.size))
  clear hb3 C1 v0 v1 v2 v3 z0 z1 z2 hW1 hW2 C2
  go_wp2
  go_ret
  exact ⟨rfl,HB3.out⟩
 ·rw [hg,Bool.true_and] at hfit
  go_enter Tryz.func199,Tryz.ntmps199
  go_wp2_with fail
  (with_reducible refine C1.out.mono ?_)
  rintro e w3 ⟨rfl,hb3⟩
  have C2w:=C2.out _ hb3
  have HB3:=hid (HB2.out.trans (hb3.mono HB2.out.size))
  clear C1 v0 v1 v2 v3 z0 z1 z2 hW1 hW2 C2
  obtain ⟨v0,v1,v2,v3⟩:=HX.out.ext hb3 HX.out.lt
  obtain ⟨z0,z1,z2⟩:=HY.out.ext hb3 HY.out.lt
  clear hb3
  go_wp2_with fail
  (with_reducible refine C2w.mono ?_)
  rintro e w4 ⟨rfl,hb4⟩
  have HB4:=hid (HB3.out.trans (hb4.mono HB3.out.size))
  have HF:=hid hfit
  clear hb4 C2w v0 v1 v2 v3 z0 z1 z2
  go_wp2
  go_ret
  exact ⟨by first | rfl | rw [HF.out] | (show _=_;simp [hfit]),HB4.out⟩
end Go.Proofs.YtcdpaflmofljaaaGreat
