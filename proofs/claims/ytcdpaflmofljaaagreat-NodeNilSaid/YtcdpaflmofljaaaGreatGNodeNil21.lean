import Derived.Test.YtcdpaflmofljaaaGreatGNodeNil20
/- Parts of the proof of NodeNil: ME. -/
namespace Go.Proofs.YtcdpaflmofljaaaGreat
open Go.RowKit
structure AppD (own:Nat→Nat) (b:PB) (x y:Int) (i mc:Nat) (ma:Option Addr) (v:Int) (cs:List Value) (w w':World):Prop where
 mt:Zl own [1,2,3,4,5,6,7] w w'
 n:∃ev ea ec,Vk w' w.heap.size 48 9 ev [[.int .i64 2,.int .u64 0,.slice none 0 0,.slice none 0 0,.slice none 0 0,.int .u16 x,.int .u32 y,.int .u64 1,.slice ea 1 ec]]∧YD own (Zg · ea [109]) w'∧Zc w' b.nb 98 (cs.set 48 ev)
 q:∃a c,Zc w' b.qb 159 [.int .u64 v,.int .u64 1,.slice a 0 c]
 bx:Zc w' b.xb 199 (ibC i ma mc b.il b.iw 1)
 bil:Zj w' b.il Yg n64 [((x,y),1)]
 biw:Zj w' b.iw KQ sv []
 bta:Zj w' b.ta Yg n64 [((x,y),1)]
 l:∃a c,1≤c∧Zc w' b.lb 149 [.int .u64 1,.slice (some ⟨a,0,none⟩) 1 c]
 a:Zc w' b.ab 250 (acC 2 1 x y (.pointer none))
section
variable {own:Nat→Nat} {b:PB} {x y v T s0 s1 s2 b0 b1 b2 m0 m1:Int} {i tl mc qg qc:Nat} {V:Zs} {A As At:VAd} {ma:Option Addr} {bd:Bnd} {w:World} {cs:List Value} {xv c5 c6 c7 c8 c9 c10 c11 c12 ld val has:Value} {B:MA} {C:Xu}
set_option maxRecDepth 100000 in
set_option maxHeartbeats 6400000 in
theorem nApply (F:Fix own b x y i tl mc V A As At ma T w) (t:Gy own b) (hN:NP cs x y i A bd b) (h48:cs[48]?=some (.slice none 0 0)) (hB:Zc w b.nb 98 cs) (hQ:Zc w b.qb 159 [.int .u64 v,.int .u64 1,.slice (some ⟨qg,0,none⟩) 1 qc]) (hqc:1≤qc) (hX:Zc w b.xb 199 (ibC i ma mc b.il b.iw 0)) (hil:Zj w b.il Yg n64 []) (hiw:Zj w b.iw KQ sv [((x,y,1),xv)]) (hta:Zj w b.ta Yg n64 []) (hL:Zc w b.lb 149 [.int .u64 0,.slice none 0 0]) (hS:Zc w b.sb 247 (vcl V i As ++ [.map (some b.sm),c5,c6,c7,c8,c9,c10,c11,c12])) (hsm:Zj w b.sm Yg n64 []) (hA:Zc w b.ab 250 (acC 1 1 x y has)) (hP:Zc w b.pb 255 (prC x y s0 s1 s2 2 ld 2 b0 b1 b2 val m0 m1)) (hC:CR w (λk=>own k≠0) B C) (hs:zab C x y i) (hd:C.data=[109]) (hc:YE C=0) (h1:V1 V x y i) :
  Calls Tryz.prog 240 #[.pointer (some ⟨b.nb,0,none⟩),.int .u64 1,.agg (Yd B C)] w λe w'=>e=.returned (.bool true)∧AppD own b x y i mc ma v cs w w':=by
 have HF:=hid F
 have HT:=hid t
 have HN:=hid hN
 have H48:=hid h48
 have HB:=hid hB
 have HQ:=hid hQ
 have HQC:=hid hqc
 have HX:=hid hX
 have HIL:=hid hil
 have HIW:=hid hiw
 have HTA:=hid hta
 have HL:=hid hL
 have HS:=hid hS
 have HSM:=hid hsm
 have HA:=hid hA
 have HP:=hid hP
 have HC:=hid hC
 have HSC:=hid hs
 have HD:=hid hd
 have HCK:=hid hc
 have H1:=hid h1
 clear F t hN h48 hB hQ hqc hX hil hiw hta hL hS hsm hA hP hC hs hd hc h1
 have HO:Hid (∀k,w.heap.size≤k→own k=0):=hid λk hk=>by
  by_cases e:own k=0
  ·exact e
  ·have:=HF.out.lt k e;omega
 have HFR:Hid (okP C.fr):=hid (by rw [HSC.out.fr];exact H1.out.ok)
 obtain ⟨W1,hW1⟩:∃W1,w.alloc (.cells (Yd B C) 126)=W1:=⟨_,rfl⟩
 have hb1:Below w.heap.size w W1:=by rw [←hW1];exact bra
 have HXC:Hid (Zc W1 w.heap.size 126 (Yd B C).toList):=hid (by rw [←hW1];exact Zc.made _ _ (Yd B C).toList)
 have HO0:Hid (own w.heap.size=0):=hid (HO.out _ (Nat.le_refl _))
 have HM1:Hid (Zl own [] w W1):=hid (Zl.below hb1)
 clear hb1
 go_enter Tryz.func240,Tryz.ntmps240
 go_upto_region 1 with fail
 try rw [hW1]
 clear hW1
 have HS1:Hid (∀W,Zl own [5] W1 W→W.cell? ⟨b.nb,20,none⟩=some (.pointer (some ⟨b.lb,0,none⟩))∧W.rangeAt w.heap.size 0 (Yd B C).toList):=hid λW hm=>⟨(Zc.o (HB.out.o HM1.out HT.out.nb (by simp)) hm HT.out.nb (by simp)).cell HN.out.c20,(Zc.o (HXC.out) hm HO0.out (by simp)).range⟩
 refine rhd HS1.out (Zl.below (Below.refl _ _).drew) λhHeld=>?_
 refine tkv 0 (.pointer (some ⟨b.nb,0,none⟩)) rfl ?_
 refine tkv 1 (.pointer (some ⟨b.nb,0,none⟩)) rfl ?_
 refine tkv 2 (.pointer (some ⟨b.nb,20,none⟩)) rfl ?_
 refine tkv 3 (.pointer (some ⟨b.lb,0,none⟩)) rfl ?_
 refine tkv 4 (.int .u64 1) rfl ?_
 refine tkT 5 (.agg (Yd B C)) rfl ((yieldsIf_load_mid (by rfl) 126 _ rfl w.heap.size 0 rfl (Yd B C).toList _ (λW h=>h.2) Tryz.underlying126 rfl Gv)) ?_
 try simp only [lay]
 refine rd1 6 rfl λK hK=>?_
 go_simp
 have hD:Below W1.heap.size W1 W1.drew:=(Below.refl _ _).drew
 refine (lAdd ((HL.out.o HM1.out HT.out.lb (by simp)).ext hD) ((HC.out.mut (HM1.out.n (by simp)) (λk e=>e)).ext hD) HFR.out HCK.out (λk hk=>Nat.lt_of_lt_of_le (HF.out.lt k hk) (Nat.le_trans HM1.out.size hD.size))).mono ?_
 rintro e w2 ⟨la,lc,hlc,rfl,hm,hx⟩
 have HM12:Hid (Zl own [5] W1 w2):=hid ((Zl.below hD).trans (Zl.one hm HT.out.lb (by simp)))
 have HL2:Hid (Zc w2 b.lb 149 [.int .u64 1,.slice (some ⟨la,0,none⟩) 1 lc]):=hid hx
 have HLC:=hid hlc
 clear hm hx hlc hD
 refine hK.out _ _ (HS1.out _ HM12.out) (λhHeld=>?_)
 clear hK K
 try simp only [lay]
 refine tkv 7 (.bool false) rfl ?_
 refine dn ?_
 have HM2:Hid (Zl own [5] w w2):=hid ((HM1.out.mono (by simp)).trans HM12.out)
 have HXC2:=hid (HXC.out.o HM12.out HO0.out (by simp))
 have n42:=(HB.out.o HM2.out HT.out.nb (by simp)).cell HN.out.c42
 clear HXC HS1 HM12
 go_wp2_with (at_range;refine Yo (HF.out.hm.o HM2.out HT.out.hm (by simp)) Tryz.underlying93 rfl rfl rfl ?_;intro w3 hR3 hb3)
 go_frame
 have HM23:Hid (Zl own [5] w2 w3):=hid (Zl.below hb3)
 have HM3:Hid (Zl own [5] w w3):=hid (HM2.out.trans HM23.out)
 have HXC3:=hid (HXC2.out.o HM23.out HO0.out (by simp))
 have HL3:=hid (HL2.out.ext hb3)
 have HR3:=hid hR3
 obtain ⟨ib,hib⟩:∃ib,w2.heap.size=ib:=⟨_,rfl⟩
 rw [hib] at HR3
 try rw [hib]
 clear n42 hR3 hb3 hib HM2 HXC2 HL2 HM23
 go_loopw [7] (λ_ wr=>wr=w3) (λ_ _=>0)
 case atStart=>rfl
 case round =>
  subst hrel
  rename World=>w3
  have n22:=(HB.out.o HM3.out HT.out.nb (by simp)).cell HN.out.c22
  have CA:=hid (aAdvance (s:=1) (t:=2) (HA.out.o HM3.out HT.out.ab (by simp)) (by decide))
  go_wp2_with (at_next;refine Yh HR3.out rfl rfl rfl ?_ ?_)
  ·intro hl
   go_wp2_with fail
   refine CA.out.mono ?_
   rintro e w4 ⟨rfl,hm,hx⟩
   have HM34:Hid (Zl own [7] w3 w4):=hid (Zl.only hm HT.out.ab (by simp))
   have HM4:Hid (Zl own [5,7] w w4):=hid ((HM3.out.mono (by simp)).trans (HM34.out.mono (by simp)))
   have HA4:=hid hx
   have HL4:=hid (HL3.out.o HM34.out HT.out.lb (by simp))
   have HXC4:=hid (HXC3.out.o HM34.out HO0.out (by simp))
   have n23:=(HB.out.o HM4.out HT.out.nb (by simp)).cell HN.out.c23
   have CM:=hid (n1Move (s:=2) (sl:=2) (HP.out.o HM4.out HT.out.pb (by simp)) (by decide))
   clear n22 CA hl hm hx HM34 HM3 HL3 HXC3 HR3
   go_wp2_with fail
   refine CM.out.mono ?_
   rintro e w5 ⟨rfl,hb⟩
   have HM45:Hid (Zl own [] w4 w5):=hid (Zl.below hb)
   have HM5:Hid (Zl own [5,7] w w5):=hid (HM4.out.trans (HM45.out.mono (by simp)))
   have HA5:=hid (HA4.out.ext hb)
   have HL5:=hid (HL4.out.ext hb)
   have HXC5:=hid (HXC4.out.ext hb)
   clear n23 CM hb HM45 HM4 HA4 HL4 HXC4
   go_upto_region 10 with fail
   have HS5:Hid (∀W,Zl own [4] w5 W→W.cell? ⟨b.nb,18,none⟩=some (.pointer (some ⟨b.tb,0,none⟩))∧W.cell? ⟨b.nb,0,none⟩=some (.int .u16 x)∧W.cell? ⟨b.nb,1,none⟩=some (.int .u32 y)):=hid λW hm=>⟨(Zc.o (HB.out.o HM5.out HT.out.nb (by simp)) hm HT.out.nb (by simp)).cell HN.out.c18,(Zc.o (HB.out.o HM5.out HT.out.nb (by simp)) hm HT.out.nb (by simp)).cell HN.out.c0,(Zc.o (HB.out.o HM5.out HT.out.nb (by simp)) hm HT.out.nb (by simp)).cell HN.out.c1⟩
   refine rhd HS5.out (Zl.below (Below.refl _ _).drew) λhHeld=>?_
   refine tkv 0 (.pointer (some ⟨b.nb,0,none⟩)) rfl ?_
   refine tkv 1 (.pointer (some ⟨b.nb,0,none⟩)) rfl ?_
   refine tkv 2 (.pointer (some ⟨b.nb,9,none⟩)) rfl ?_
   refine tkv 3 (.pointer (some ⟨b.nb,18,none⟩)) rfl ?_
   refine tkv 4 (.pointer (some ⟨b.tb,0,none⟩)) rfl ?_
   refine tkv 5 (.pointer (some ⟨b.nb,0,none⟩)) rfl ?_
   refine tkv 6 (.pointer (some ⟨b.nb,0,none⟩)) rfl ?_
   refine tkv 7 (.pointer (some ⟨b.nb,0,none⟩)) rfl ?_
   refine tkv 8 (.agg #[.int .u16 x,.int .u32 y]) rfl ?_
   refine tkv 9 (.int .u64 1) rfl ?_
   refine rd1 10 rfl λK hK=>?_
   go_simp
   have hD:Below w5.heap.size w5 w5.drew:=(Below.refl _ _).drew
   refine (tReport1 (A:=At) (tl:=tl) H1.out.id ((HF.out.tb.o HM5.out HT.out.tb (by simp)).ext hD) ((HF.out.tv.o HM5.out (by simp)).now.ext hD) ((HTA.out.o HM5.out HT.out.ta (by simp)).ext hD) (by rw [H1.out.ms];simp)).mono ?_
   rintro e w6 ⟨rfl,hm,hx⟩
   have HM56:Hid (Zl own [4] w5 w6):=hid ((Zl.below hD).trans (Zl.one hm HT.out.ta (by simp)))
   have HTA6:=hid hx
   clear hm hx hD
   refine hK.out _ _ (HS5.out _ HM56.out) (λhHeld=>?_)
   clear hK K
   try simp only [lay]
   refine dn ?_
   have HM6:Hid (Zl own [5,7,4] w w6):=hid ((HM5.out.mono (by simp)).trans (HM56.out.mono (by simp)))
   have HA6:=hid (HA5.out.o HM56.out HT.out.ab (by simp))
   have HL6:=hid (HL5.out.o HM56.out HT.out.lb (by simp))
   have HXC6:=hid (HXC5.out.o HM56.out HO0.out (by simp))
   clear HS5 HM56 HM5 HA5 HL5 HXC5
   go_upto_region 11 with fail
   have HS6:Hid (∀W,Zl own [6] w6 W→W.cell? ⟨b.nb,21,none⟩=some (.pointer (some ⟨b.sb,0,none⟩))∧W.rangeAt w.heap.size 0 (Yd B C).toList):=hid λW hm=>⟨(Zc.o (HB.out.o HM6.out HT.out.nb (by simp)) hm HT.out.nb (by simp)).cell HN.out.c21,(Zc.o (HXC6.out) hm HO0.out (by simp)).range⟩
   go_cut [8,9] (λu8 u9 wx=>u9=.bool true∧∃g ea ec,u8=.pointer (some ⟨g,0,none⟩)∧Hid (Zl own [6] w6 wx)∧Hid (Zc wx g 48 [.int .i64 2,.int .u64 0,.slice none 0 0,.slice none 0 0,.slice none 0 0,.int .u16 x,.int .u32 y,.int .u64 1,.slice ea 1 ec])∧Hid (w6.heap.size≤g)∧Hid (Ys wx w6.heap.size (.slice ea 1 ec) [109]))
   case first =>
    refine rhd HS6.out (Zl.below (Below.refl _ _).drew) λhHeld=>?_
    refine tkv 0 (.pointer (some ⟨b.nb,0,none⟩)) rfl ?_
    refine tkv 1 (.pointer (some ⟨b.nb,0,none⟩)) rfl ?_
    refine tkv 2 (.pointer (some ⟨b.nb,21,none⟩)) rfl ?_
    refine tkv 3 (.pointer (some ⟨b.sb,0,none⟩)) rfl ?_
    refine tkT 4 (.agg (Yd B C)) rfl ((yieldsIf_load_mid (by rfl) 126 _ rfl w.heap.size 0 rfl (Yd B C).toList _ (λW h=>h.2) Tryz.underlying126 rfl Gv)) ?_
    try simp only [lay]
    refine rd (rs:=[5,9]) ?_
    refine AllReadyH.cons (o:=_) rfl (λK hK=>?_) (AllReadyH.cons (o:=_) rfl (λK hK=>?_) AllReadyH.nil)
    ·go_simp
     have hD:Below w6.heap.size w6 w6.drew:=(Below.refl _ _).drew
     refine (sApply (A:=As) H1.out.id ((HS.out.o HM6.out HT.out.sb (by simp)).ext hD) ((HF.out.sw.o HM6.out (by simp)).now.ext hD) ((HSM.out.o HM6.out HT.out.sm (by simp)).ext hD) (by rw [H1.out.ms];simp) ((HC.out.mut (HM6.out.n (by simp)) (λk e=>e)).ext hD) HSC.out HD.out H1.out.ok HCK.out ⟨by simp only [HT.out.sb];decide,by simp only [HT.out.sm];decide⟩ HT.out.sbm (by have:=HC.out.cap;rw [HD.out] at this;exact this)).mono ?_
     rintro e w7 ⟨ea,ec,rfl,hm,hx,ho⟩
     clear hx
     have HM67:Hid (Zl own [6] w6 w7):=hid ((Zl.below hD).trans (hm.mono λk _ e=>by
      rcases e with e | e | e
      ·exact .inl (by rw [e,HT.out.sb];simp)
      ·exact .inl (by rw [e,HT.out.sm];simp)
      ·exact .inr e))
     have HOB:=hid (ho.mono hD.size)
     clear hm ho hD
     refine hK.out _ _ (HS6.out _ HM67.out) (λhHeld=>?_)
     clear hK K
     try simp only [lay]
     refine tkv 6 (.tuple #[.agg #[.int .i64 2,.int .u64 0,.slice none 0 0,.slice none 0 0,.slice none 0 0,.int .u16 x,.int .u32 y,.int .u64 1,.slice ea 1 ec],.bool true]) rfl ?_
     refine tkv 7 (.agg #[.int .i64 2,.int .u64 0,.slice none 0 0,.slice none 0 0,.slice none 0 0,.int .u16 x,.int .u32 y,.int .u64 1,.slice ea 1 ec]) rfl ?_
     refine tkv 8 (.bool true) rfl ?_
     refine rd1 9 rfl λK hK=>?_
     go_simp
     have HM68:Hid (Zl own [6] w6 (w7.alloc (.cells #[.int .i64 0,.int .u64 0,.slice none 0 0,.slice none 0 0,.slice none 0 0,.int .u16 0,.int .u32 0,.int .u64 0,.slice none 0 0] 48))):=hid (HM67.out.trans (Zl.below (bra)))
     refine hK.out _ _ (HS6.out _ HM68.out) (λhHeld=>?_)
     clear hK K
     try simp only [lay]
     refine rd1 10 rfl λK hK=>?_
     go_simp
     obtain ⟨w8,hw8⟩:∃z,w7.alloc (.cells #[.int .i64 2,.int .u64 0,.slice none 0 0,.slice none 0 0,.slice none 0 0,.int .u16 x,.int .u32 y,.int .u64 1,.slice ea 1 ec] 48)=z:=⟨_,rfl⟩
     have hx8:Zc w8 w7.heap.size 48 [.int .i64 2,.int .u64 0,.slice none 0 0,.slice none 0 0,.slice none 0 0,.int .u16 x,.int .u32 y,.int .u64 1,.slice ea 1 ec]:=by rw [←hw8];exact Zc.made _ _ _
     have hb8:Below w7.heap.size w7 w8:=by rw [←hw8];exact bra
     rw [hw8]
     clear hw8 HM68
     have HM8:Hid (Zl own [6] w6 w8):=hid (HM67.out.trans (Zl.below hb8))
     refine hK.out _ _ (HS6.out _ HM8.out) (λhHeld=>?_)
     clear hK K
     try simp only [lay]
     refine rd1 11 rfl λK hK=>?_
     go_simp
     refine hK.out _ _ (HS6.out _ HM8.out) (λhHeld=>?_)
     clear hK K
     try simp only [lay]
     refine dn ?_
     go_wp2_with fail
     go_meet
     exact ⟨rfl,_,_,_,rfl,HM8,hid hx8,hid HM67.out.size,hid (HOB.out.ext hb8)⟩
    ·go_simp
     obtain ⟨w61,hw61⟩:∃z,(w6.alloc (.cells #[.int .i64 0,.int .u64 0,.slice none 0 0,.slice none 0 0,.slice none 0 0,.int .u16 0,.int .u32 0,.int .u64 0,.slice none 0 0] 48)).drew=z:=⟨_,rfl⟩
     have hb61:Below w6.heap.size w6 w61:=by rw [←hw61];exact (Zd (Below.refl _ _) _).drew
     have hx61:Zc w61 w6.heap.size 48 [.int .i64 0,.int .u64 0,.slice none 0 0,.slice none 0 0,.slice none 0 0,.int .u16 0,.int .u32 0,.int .u64 0,.slice none 0 0]:=by rw [←hw61];exact (Zc.made w6 _ _).ext (Below.refl _ _).drew
     try rw [hw61]
     clear hw61
     refine hK.out _ _ (HS6.out _ (Zl.below hb61)) (λhHeld=>?_)
     clear hK K
     try simp only [lay]
     refine rd1 5 rfl λK hK=>?_
     go_simp
     have hD:Below w6.heap.size w6 w61:=hb61
     refine (sApply (A:=As) H1.out.id ((HS.out.o HM6.out HT.out.sb (by simp)).ext hD) ((HF.out.sw.o HM6.out (by simp)).now.ext hD) ((HSM.out.o HM6.out HT.out.sm (by simp)).ext hD) (by rw [H1.out.ms];simp) ((HC.out.mut (HM6.out.n (by simp)) (λk e=>e)).ext hD) HSC.out HD.out H1.out.ok HCK.out ⟨by simp only [HT.out.sb];decide,by simp only [HT.out.sm];decide⟩ HT.out.sbm (by have:=HC.out.cap;rw [HD.out] at this;exact this)).mono ?_
     rintro e w7 ⟨ea,ec,rfl,hm,hx,ho⟩
     clear hx
     have HM67:Hid (Zl own [6] w6 w7):=hid ((Zl.below hD).trans (hm.mono λk _ e=>by
      rcases e with e | e | e
      ·exact .inl (by rw [e,HT.out.sb];simp)
      ·exact .inl (by rw [e,HT.out.sm];simp)
      ·exact .inr e))
     have HOB:=hid (ho.mono hD.size)
     have hx7:=hx61.mut hm (λe=>by
      have h1:=HO.out w6.heap.size (HM6.out.size)
      have h2:=hx61.lt
      rcases e with e | e | e
      ·rw [e,HT.out.sb] at h1;cases h1
      ·rw [e,HT.out.sm] at h1;cases h1
      ·omega)
     clear hm
     refine hK.out _ _ (HS6.out _ HM67.out) (λhHeld=>?_)
     clear hK K
     try simp only [lay]
     refine tkv 6 (.tuple #[.agg #[.int .i64 2,.int .u64 0,.slice none 0 0,.slice none 0 0,.slice none 0 0,.int .u16 x,.int .u32 y,.int .u64 1,.slice ea 1 ec],.bool true]) rfl ?_
     refine tkv 7 (.agg #[.int .i64 2,.int .u64 0,.slice none 0 0,.slice none 0 0,.slice none 0 0,.int .u16 x,.int .u32 y,.int .u64 1,.slice ea 1 ec]) rfl ?_
     refine tkv 8 (.bool true) rfl ?_
     refine rd1 10 rfl λK hK=>?_
     have e0:=hx7.cell (j:=0) rfl
     have e1:=hx7.cell (j:=1) rfl
     have e2:=hx7.cell (j:=2) rfl
     have e3:=hx7.cell (j:=3) rfl
     have e4:=hx7.cell (j:=4) rfl
     have e5:=hx7.cell (j:=5) rfl
     have e6:=hx7.cell (j:=6) rfl
     have e7:=hx7.cell (j:=7) rfl
     have e8:=hx7.cell (j:=8) rfl
     have fz:=hx7.frozen
     go_simp
     obtain ⟨w8,hw8⟩:∃z,(((((((((w7.setCell ⟨w6.heap.size,0,none⟩ (.int .i64 2)).setCell ⟨w6.heap.size,1,none⟩ (.int .u64 0)).setCell ⟨w6.heap.size,2,none⟩ (.slice none 0 0)).setCell ⟨w6.heap.size,3,none⟩ (.slice none 0 0)).setCell ⟨w6.heap.size,4,none⟩ (.slice none 0 0)).setCell ⟨w6.heap.size,5,none⟩ (.int .u16 x)).setCell ⟨w6.heap.size,6,none⟩ (.int .u32 y)).setCell ⟨w6.heap.size,7,none⟩ (.int .u64 1)).setCell ⟨w6.heap.size,8,none⟩ (.slice ea 1 ec))=z:=⟨_,rfl⟩
     have hx8:Zc w8 w6.heap.size 48 [.int .i64 2,.int .u64 0,.slice none 0 0,.slice none 0 0,.slice none 0 0,.int .u16 x,.int .u32 y,.int .u64 1,.slice ea 1 ec]:=by rw [←hw8];exact ((((((((hx7.set (j:=0) (v:=.int .i64 2)).set (j:=1) (v:=.int .u64 0)).set (j:=2) (v:=.slice none 0 0)).set (j:=3) (v:=.slice none 0 0)).set (j:=4) (v:=.slice none 0 0)).set (j:=5) (v:=.int .u16 x)).set (j:=6) (v:=.int .u32 y)).set (j:=7) (v:=.int .u64 1)).set (j:=8) (v:=.slice ea 1 ec)
     have hm8:Mut (λk=>k=w6.heap.size) w7 w8:=by rw [←hw8];exact Zf (G:=λk=>k=w6.heap.size) (Zf (G:=λk=>k=w6.heap.size) (Zf (G:=λk=>k=w6.heap.size) (Zf (G:=λk=>k=w6.heap.size) (Zf (G:=λk=>k=w6.heap.size) (Zf (G:=λk=>k=w6.heap.size) (Zf (G:=λk=>k=w6.heap.size) (Zf (G:=λk=>k=w6.heap.size) (Zf (G:=λk=>k=w6.heap.size) (Mut.refl _ _) _ _ _ rfl) _ _ _ rfl) _ _ _ rfl) _ _ _ rfl) _ _ _ rfl) _ _ _ rfl) _ _ _ rfl) _ _ _ rfl) _ _ _ rfl
     rw [hw8]
     clear hw8
     have HM8:Hid (Zl own [6] w6 w8):=hid (Mut.trans HM67.out (hm8.mono λk _ e=>.inr (Nat.le_of_eq e.symm)))
     have hob8:Ys w8 w6.heap.size (.slice ea 1 ec) [109]:=(ho.mutD hm8 (λg hg e=>by have h1:=(ho.blkD hg).1;have h2:=hx61.lt;omega)).mono (by exact hb61.size)
     clear ho
     clear e0 e1 e2 e3 e4 e5 e6 e7 e8 fz
     refine hK.out _ _ (HS6.out _ HM8.out) (λhHeld=>?_)
     clear hK K
     try simp only [lay]
     refine rd1 11 rfl λK hK=>?_
     go_simp
     refine hK.out _ _ (HS6.out _ HM8.out) (λhHeld=>?_)
     clear hK K
     try simp only [lay]
     refine dn ?_
     go_wp2_with fail
     go_meet
     exact ⟨rfl,_,_,_,rfl,HM8,hid hx8,hid (Nat.le_refl _),hid hob8⟩
   case rest =>
    obtain ⟨rfl,g,ea,ec,rfl,HM67,HE,HG,HOB⟩:=hcut
    rename World=>w7
    have HM7:Hid (Zl own [5,7,4,6] w w7):=hid ((HM6.out.mono (by simp)).trans (HM67.out.mono (by simp)))
    have HTA7:=hid (HTA6.out.o HM67.out HT.out.ta (by simp))
    have HA7:=hid (HA6.out.o HM67.out HT.out.ab (by simp))
    have HL7:=hid (HL6.out.o HM67.out HT.out.lb (by simp))
    have HOG:Hid (own g=0):=hid (HO.out g (Nat.le_trans HM6.out.size HG.out))
    have HDR:Hid (zaF w7 (λk=>own k≠0) ea [109]):=hid (zaF.of_own HOB.out (λk hk=>Nat.lt_of_lt_of_le (HF.out.lt k hk) HM6.out.size))
    have e0:=HE.out.cell (j:=0) rfl
    clear HM67 HTA6 HA6 HL6 HOB HS6 HM6 HXC6
    go_upto_region 15 with fail
    have HS7:Hid (∀W,Zl own [3] w7 W→W.cell? ⟨b.nb,16,none⟩=some (.pointer (some ⟨b.xb,0,none⟩))∧W.cell? ⟨g,5,none⟩=some (.int .u16 x)∧W.cell? ⟨g,6,none⟩=some (.int .u32 y)∧W.cell? ⟨g,7,none⟩=some (.int .u64 1)):=hid λW hm=>⟨(Zc.o (HB.out.o HM7.out HT.out.nb (by simp)) hm HT.out.nb (by simp)).cell HN.out.c16,(Zc.o HE.out hm HOG.out (by simp)).cell (j:=5) rfl,(Zc.o HE.out hm HOG.out (by simp)).cell (j:=6) rfl,(Zc.o HE.out hm HOG.out (by simp)).cell (j:=7) rfl⟩
    clear e0
    refine rhd HS7.out (Zl.below (Below.refl _ _).drew) λhHeld=>?_
    refine tkv 0 (.pointer (some ⟨b.nb,0,none⟩)) rfl ?_
    refine tkv 1 (.pointer (some ⟨b.nb,0,none⟩)) rfl ?_
    refine tkv 2 (.pointer (some ⟨b.nb,9,none⟩)) rfl ?_
    refine tkv 3 (.pointer (some ⟨b.nb,16,none⟩)) rfl ?_
    refine tkv 4 (.pointer (some ⟨b.xb,0,none⟩)) rfl ?_
    refine tkv 5 (.pointer (some ⟨g,5,none⟩)) rfl ?_
    refine tkv 6 (.agg #[.int .u16 x,.int .u32 y]) rfl ?_
    refine tkv 7 (.pointer (some ⟨g,7,none⟩)) rfl ?_
    refine tkv 8 (.int .u64 1) rfl ?_
    refine rd1 9 rfl λK hK=>?_
    go_simp
    have hD:Below w7.heap.size w7 w7.drew:=(Below.refl _ _).drew
    refine (xDone ((HX.out.o HM7.out HT.out.xb (by simp)).ext hD) ((HF.out.mr.o HM7.out (by simp)).now.ext hD) ((HIL.out.o HM7.out HT.out.il (by simp)).ext hD) ((HIW.out.o HM7.out HT.out.iw (by simp)).ext hD) HT.out.ilw).mono ?_
    rintro e w8 ⟨rfl,hm,hx,hil,hiw⟩
    have HM78:Hid (Zl own [3] w7 w8):=hid ((Zl.below hD).trans (hm.mono λk _ e=>by
     rcases e with e | e | e | e
     ·exact .inl (by rw [e,HT.out.xb];simp)
     ·exact .inl (by rw [e,HT.out.il];simp)
     ·exact .inl (by rw [e,HT.out.iw];simp)
     ·exact .inr e))
    have HX8:=hid (And.intro hx (And.intro hil hiw))
    clear hm hx hil hiw hD
    refine hK.out _ _ (HS7.out _ HM78.out) (λhHeld=>?_)
    clear hK K
    try simp only [lay]
    refine dn ?_
    have HM8:Hid (Zl own [5,7,4,6,3] w w8):=hid ((HM7.out.mono (by simp)).trans (HM78.out.mono (by simp)))
    have HTA8:=hid (HTA7.out.o HM78.out HT.out.ta (by simp))
    have HA8:=hid (HA7.out.o HM78.out HT.out.ab (by simp))
    have HL8:=hid (HL7.out.o HM78.out HT.out.lb (by simp))
    have HE8:=hid (HE.out.o HM78.out HOG.out (by simp))
    have HDR8:=hid (HDR.out.mut (HM78.out.n (by simp)) (λk e=>e))
    clear HS7 HM7 HM78 HTA7 HA7 HL7 HE HDR
    go_upto_region 16 with fail
    have f5:=Za (HE8.out.cell (j:=5) rfl)
    have f6:=Za (HE8.out.cell (j:=6) rfl)
    have n0:=Za ((HB.out.o HM8.out HT.out.nb (by simp)).cell HN.out.c0)
    have n1:=Za ((HB.out.o HM8.out HT.out.nb (by simp)).cell HN.out.c1)
    have hpe:∀W,(binOp .eql 25 (.agg #[.int .u16 x,.int .u32 y]) (.agg #[.int .u16 x,.int .u32 y])).run Tryz.prog W=.ok (.bool true) W:=λW=>by have:=VK x y x y W;simpa using this
    refine Ze (w:=w8) (Below.refl _ _) (by kernel_rfl) (by kernel_rfl) ?_
    repeat (go_big_quiet_step (fail))
    refine wpQuiet_nil ?_
    rintro w9 ⟨⟨_,hb9⟩,rfl⟩
    have HM89:Hid (Zl own [] w8 w9):=hid (Zl.below hb9)
    have HM9:Hid (Zl own [5,7,4,6,3] w w9):=hid (HM8.out.trans (HM89.out.mono (by simp)))
    have HX9:Hid (Zc w9 b.xb 199 (ibC i ma mc b.il b.iw 1)∧Zj w9 b.il Yg n64 [((x,y),1)]∧Zj w9 b.iw KQ sv []):=hid ⟨HX8.out.1.o HM89.out HT.out.xb (by simp),HX8.out.2.1.o HM89.out HT.out.il (by simp),HX8.out.2.2.o HM89.out HT.out.iw (by simp)⟩
    have HTA9:=hid (HTA8.out.o HM89.out HT.out.ta (by simp))
    have HA9:=hid (HA8.out.o HM89.out HT.out.ab (by simp))
    have HL9:=hid (HL8.out.o HM89.out HT.out.lb (by simp))
    have HE9:=hid (HE8.out.o HM89.out HOG.out (by simp))
    have HDR9:=hid (HDR8.out.mut (HM89.out.n (by simp)) (λk e=>e))
    clear f5 f6 n0 n1 hpe hb9 HM8 HM89 HX8 HTA8 HA8 HL8 HE8 HDR8
    go_upto_region 17 with fail
    have HS9:Hid (∀W,Zl own [2] w9 W→W.cell? ⟨b.nb,15,none⟩=some (.pointer (some ⟨b.qb,0,none⟩))∧W.cell? ⟨g,7,none⟩=some (.int .u64 1)):=hid λW hm=>⟨(Zc.o (HB.out.o HM9.out HT.out.nb (by simp)) hm HT.out.nb (by simp)).cell HN.out.c15,(Zc.o HE9.out hm HOG.out (by simp)).cell (j:=7) rfl⟩
    refine rhd HS9.out (Zl.below (Below.refl _ _).drew) λhHeld=>?_
    refine tkv 0 (.pointer (some ⟨b.nb,0,none⟩)) rfl ?_
    refine tkv 1 (.pointer (some ⟨b.nb,0,none⟩)) rfl ?_
    refine tkv 2 (.pointer (some ⟨b.nb,9,none⟩)) rfl ?_
    refine tkv 3 (.pointer (some ⟨b.nb,15,none⟩)) rfl ?_
    refine tkv 4 (.pointer (some ⟨b.qb,0,none⟩)) rfl ?_
    refine tkv 5 (.pointer (some ⟨g,7,none⟩)) rfl ?_
    refine tkv 6 (.int .u64 1) rfl ?_
    refine rd1 7 rfl λK hK=>?_
    go_simp
    have hD:Below w9.heap.size w9 w9.drew:=(Below.refl _ _).drew
    refine (qDone ((HQ.out.o HM9.out HT.out.qb (by simp)).ext hD) HQC.out).mono ?_
    rintro e w10 ⟨qa,qc',rfl,hm,hx⟩
    have HM90:Hid (Zl own [2] w9 w10):=hid ((Zl.below hD).trans (Zl.one hm HT.out.qb (by simp)))
    have HQ10:=hid hx
    clear hm hx hD
    refine hK.out _ _ (HS9.out _ HM90.out) (λhHeld=>?_)
    clear hK K
    try simp only [lay]
    refine dn ?_
    have HM10:Hid (Zl own [5,7,4,6,3,2] w w10):=hid ((HM9.out.mono (by simp)).trans (HM90.out.mono (by simp)))
    have HX10:Hid (Zc w10 b.xb 199 (ibC i ma mc b.il b.iw 1)∧Zj w10 b.il Yg n64 [((x,y),1)]∧Zj w10 b.iw KQ sv []):=hid ⟨HX9.out.1.o HM90.out HT.out.xb (by simp),HX9.out.2.1.o HM90.out HT.out.il (by simp),HX9.out.2.2.o HM90.out HT.out.iw (by simp)⟩
    have HTA10:=hid (HTA9.out.o HM90.out HT.out.ta (by simp))
    have HA10:=hid (HA9.out.o HM90.out HT.out.ab (by simp))
    have HL10:=hid (HL9.out.o HM90.out HT.out.lb (by simp))
    have HE10:=hid (HE9.out.o HM90.out HOG.out (by simp))
    have HDR10:=hid (HDR9.out.mut (HM90.out.n (by simp)) (λk e=>e))
    have HB10:=hid (HB.out.o HM10.out HT.out.nb (by simp))
    clear HS9 HM9 HM90 HX9 HTA9 HA9 HL9 HE9 HDR9
    have g0:=HE10.out.cell (j:=0) rfl
    have g1:=HE10.out.cell (j:=1) rfl
    have g2:=HE10.out.cell (j:=2) rfl
    have g3:=HE10.out.cell (j:=3) rfl
    have g4:=HE10.out.cell (j:=4) rfl
    have g5:=HE10.out.cell (j:=5) rfl
    have g6:=HE10.out.cell (j:=6) rfl
    have g7:=HE10.out.cell (j:=7) rfl
    have g8:=HE10.out.cell (j:=8) rfl
    have CT:=hid (zbR 2 0 x y 1 none none none ea 0 0 0 1 0 0 0 ec HB10.out H48.out (Vk.nil w10 w.heap.size 48 9) HM10.out.size (by simp [Value.ownBlock]) (by decide))
    go_wp2_with fail
    refine CT.out.mono ?_
    rintro e w11 ⟨rfl,ev,hown,hx,hm,-⟩
    have HM01:Hid (Zl own [1] w10 w11):=hid (hm.mono λk _ e=>by
     rcases e with e | e
     ·exact .inl (by rw [e,HT.out.nb];simp)
     ·cases e)
    have HR:Hid (AppD own b x y i mc ma v cs w w11):=hid ⟨(HM10.out.mono (by simp)).trans (HM01.out.mono (by simp)),⟨ev,ea,ec,hown,λw' hm'=>((HDR10.out.mut (HM01.out.n (by simp)) (λk e=>e)).mut hm' (λk e=>e)).row,hx⟩,⟨qa,qc',HQ10.out.o HM01.out HT.out.qb (by simp)⟩,HX10.out.1.o HM01.out HT.out.xb (by simp),HX10.out.2.1.o HM01.out HT.out.il (by simp),HX10.out.2.2.o HM01.out HT.out.iw (by simp),HTA10.out.o HM01.out HT.out.ta (by simp),⟨la,lc,HLC.out,HL10.out.o HM01.out HT.out.lb (by simp)⟩,HA10.out.o HM01.out HT.out.ab (by simp)⟩
    clear g0 g1 g2 g3 g4 g5 g6 g7 g8 CT hown hx hm
    go_wp2_with fail
    go_ret
    exact ⟨rfl,HR.out⟩
  ·intro x1 v1 s u w6 hl hR6 hbut hen
   exact absurd hl.out (by simp)
end
end Go.Proofs.YtcdpaflmofljaaaGreat
