import Derived.Test.YtcdpaflmofljaaaGreatGNodeNil27
/- Parts of the proof of NodeNil: MJ1. -/
namespace Go.Proofs.YtcdpaflmofljaaaGreat
open Go.RowKit
section
variable {w:World} {nb lb pb i lc:Nat} {cs:List Value} {x y s0 s1 s2 b0 b1 b2 osl m0 m1:Int} {A:VAd} {V:Zs} {tick:Bool} {N:Nat→Prop} {R:World→Prop} {k ld val:Value} {la:Option Addr}
set_option maxRecDepth 100000 in
set_option maxHeartbeats 6400000 in
theorem nDrive1 (hB:Zc w nb 98 cs) (hN:N1 cs x y i A) (hV:Zt w A.am A.al A.ad V) (h1:V1 V x y i) (hf:Gb V) (c20:cs[20]?=some (.pointer (some ⟨lb,0,none⟩))) (c23:cs[23]?=some (.pointer (some ⟨pb,0,none⟩))) (hL:Zc w lb 149 [.int .u64 0,k]) (hP:Zc w pb 255 (prC x y 1 x y 2 (.slice la 1 lc) 1 1 x y (.pointer none) m0 m1)) (hr:Zb w la [(x,y)]) (hla:∀o off,la=some ⟨o,off,none⟩→¬ N o∧o<w.heap.size) (hne:nb≠pb) (hNl:∀k,N k→k<w.heap.size) (hNn:N nb) (hNp:N pb) (hck:YE (VH x y i)=0)
  (hR0:∀W,R W→W.cell? ⟨nb,23,none⟩=some (.pointer (some ⟨pb,0,none⟩)))
  (CW:∀W,Below w.heap.size w W→Calls Tryz.prog 104 #[.pointer (some ⟨nb,0,none⟩),.bool tick] W λe w'=>∃B:MA,e=.returned (.agg (Yd B (VH x y i)))∧CR w' (λk=>N k∨w.heap.size≤k∧k<W.heap.size) B (VH x y i)∧Mut (λk=>k=nb∨W.heap.size≤k) W w'∧Zc w' nb 98 cs)
  (CS:∀W (g1:Nat) (A1 B2:MA),Mut (λk=>k=nb∨k=pb∨w.heap.size≤k) w W→Zc W nb 98 cs→Zc W pb 255 (prC x y 1 x y 3 (.slice la 1 lc) 1 1 x y (.pointer (some ⟨g1,0,none⟩)) 0 0)→Zb W la [(x,y)]→w.heap.size≤g1→Zc W g1 285 (valC 1 x y A1 (VH x y i))→CR W N A1 (VH x y i)→CR W N B2 (VH x y i)→Calls Tryz.prog 90 #[.pointer (some ⟨nb,0,none⟩),.agg #[.int .u16 x,.int .u32 y],.agg (ML (mA B2) (EB 1 1 x y (VH x y i))).toArray] W λe w'=>ZC N R W e w') :
  Calls Tryz.prog 49 #[.pointer (some ⟨nb,0,none⟩),.bool tick] w λe w'=>ZC N R w e w':=by
 have CI:=hid (XR hB hN)
 have CC:=hid (EV hB hN hV h1 hf)
 have HB:=hid hB
 have HN:=hid hN
 have H1:=hid h1
 have HV:=hid hV
 have HC20:=hid c20
 have HC23:=hid c23
 have HL:=hid hL
 have HP:=hid hP
 have HCW:=hid CW
 have HCS:=hid CS
 have HRL:=hid hr
 have HLA:=hid hla
 have HNE:Hid (nb≠pb∧nb<w.heap.size∧pb<w.heap.size):=hid ⟨hne,hB.lt,hP.lt⟩
 have HNl:=hid hNl
 have HNn:=hid hNn
 have HNp:=hid hNp
 have HR0:=hid hR0
 have HCK:=hid hck
 clear hB hN hV h1 hf c20 c23 hL hP hr hla hne hNl hNn hNp hck hR0 CW CS
 go_enter Tryz.func49,Tryz.ntmps49
 go_wp2_with fail
 refine CI.out.mono ?_
 rintro e w1 ⟨rfl,rfl⟩
 rename World=>w
 clear CI
 go_wp2_with fail
 refine CC.out.mono ?_
 rintro e w1 ⟨rfl,hb1⟩
 have HB1:=hid (HB.out.ext hb1)
 have HP1:=hid (HP.out.ext hb1)
 have HW1:=hid hb1
 have CL:=hid (XT (HL.out.ext hb1))
 have CP:=hid (Jd HP1.out)
 have CT:=hid (Kl HP1.out)
 have n20:=HB1.out.cell HC20.out
 have n23:=HB1.out.cell HC23.out
 clear CC hb1
 go_wp2_with fail
 refine CL.out.mono ?_
 rintro e w9 ⟨rfl,rfl⟩
 rename World=>w1
 clear CL n20
 go_wp2_with fail
 refine CP.out.mono ?_
 rintro e w9 ⟨rfl,rfl⟩
 rename World=>w1
 go_wp2_with fail
 refine CT.out.mono ?_
 rintro e w9 ⟨rfl,rfl⟩
 rename World=>w1
 clear CT
 go_wp2_with fail
 refine CP.out.mono ?_
 rintro e w9 ⟨rfl,rfl⟩
 rename World=>w1
 have CV:=hid (VJ HP1.out)
 clear CP
 go_wp2_with fail
 refine CV.out.mono ?_
 rintro e w2 ⟨rfl,hb2⟩
 clear CV n23
 go_upto_region 15 with fail
 obtain ⟨w3,hw3⟩:∃z,w2.alloc (.cells #[.int .i64 0,.int .u16 0,.int .u32 0,.int .u64 0,.int .u64 0,.slice none 0 0,.int .u64 0,.slice none 0 0,.slice none 0 0,.slice none 0 0] 126)=z:=⟨_,rfl⟩
 have hb3:Below w2.heap.size w2 w3:=by rw [←hw3];exact bra
 have hx3:Zc w3 w2.heap.size 126 [.int .i64 0,.int .u16 0,.int .u32 0,.int .u64 0,.int .u64 0,.slice none 0 0,.int .u64 0,.slice none 0 0,.slice none 0 0,.slice none 0 0]:=by rw [←hw3];exact Zc.made _ _ _
 try rw [hw3]
 clear hw3
 have hb13:=hb2.trans (hb3.mono hb2.size)
 have HW3:=hid (HW1.out.trans (hb13.mono HW1.out.size))
 have HX3:=hid hx3
 have HB3:=hid (HB1.out.ext hb13)
 have HP3:=hid (HP1.out.ext hb13)
 have HZ3:Hid (w.heap.size≤w2.heap.size∧w2.heap.size<w3.heap.size):=hid ⟨Nat.le_trans HW1.out.size hb2.size,hx3.lt⟩
 have CW:=hid (HCW.out w3 HW3.out)
 clear hb2 hb3 hb13 hx3 HB1 HP1 HW1
 go_wp2_with fail
 refine CW.out.mono ?_
 rintro e w4 ⟨B,rfl,hcr4,hm4,hbx4⟩
 have HCR4:=hid hcr4
 clear hcr4
 rw [Ku]
 have hx4:=HX3.out.mut hm4 (λe=>by have:=HZ3.out;have:=HB.out.lt;rcases e with e | e <;> omega)
 have HX4:=hid hx4
 have HM4:=hid hm4
 have HB4:=hid hbx4
 have fz:=hx4.frozen
 have e0:=hx4.cell (j:=0) rfl
 have e1:=hx4.cell (j:=1) rfl
 have e2:=hx4.cell (j:=2) rfl
 have e3:=hx4.cell (j:=3) rfl
 have e4:=hx4.cell (j:=4) rfl
 have e5:=hx4.cell (j:=5) rfl
 have e6:=hx4.cell (j:=6) rfl
 have e7:=hx4.cell (j:=7) rfl
 have e8:=hx4.cell (j:=8) rfl
 have e9:=hx4.cell (j:=9) rfl
 clear hx4 hm4 hbx4 CW
 go_upto_region 17 with fail
 have hxr:=YF (n0:=.int .i64 2) (n1:=.int .u16 x) (n2:=.int .u32 y) (n3:=.int .u64 1) (n4:=.int .u64 i) (n5:=.slice B.da 1 B.dc) (n6:=.int .u64 0) (n7:=.slice B.am 0 B.cm) (n8:=.slice B.al 0 B.cl) (n9:=.slice B.ad 0 B.cd) HX4.out
 have hmr:=YG w4 w2.heap.size (.int .i64 2) (.int .u16 x) (.int .u32 y) (.int .u64 1) (.int .u64 i) (.slice B.da 1 B.dc) (.int .u64 0) (.slice B.am 0 B.cm) (.slice B.al 0 B.cl) (.slice B.ad 0 B.cd)
 obtain ⟨w5,hw5⟩:∃z,(((((((((((w4).setCell ⟨w2.heap.size,0,none⟩ (.int .i64 2)).setCell ⟨w2.heap.size,1,none⟩ (.int .u16 x)).setCell ⟨w2.heap.size,2,none⟩ (.int .u32 y)).setCell ⟨w2.heap.size,3,none⟩ (.int .u64 1)).setCell ⟨w2.heap.size,4,none⟩ (.int .u64 i)).setCell ⟨w2.heap.size,5,none⟩ (.slice B.da 1 B.dc)).setCell ⟨w2.heap.size,6,none⟩ (.int .u64 0)).setCell ⟨w2.heap.size,7,none⟩ (.slice B.am 0 B.cm)).setCell ⟨w2.heap.size,8,none⟩ (.slice B.al 0 B.cl)).setCell ⟨w2.heap.size,9,none⟩ (.slice B.ad 0 B.cd))=z:=⟨_,rfl⟩
 rw [hw5] at hxr hmr
 try rw [hw5]
 clear hw5 e0 e1 e2 e3 e4 e5 e6 e7 e8 e9 fz
 have HX5:=hid hxr
 have HB5:=hid (HB4.out.mut hmr (λe=>by have:=HZ3.out;have:=HNE.out;omega))
 have HM5:Hid (Mut (λk=>k=nb∨w.heap.size≤k) w w5):=hid ((((Mut.of_below HW3.out).mono λk _ e=>.inr e).trans (HM4.out.mono λk _ e=>e.imp id (Nat.le_trans HW3.out.size))).trans (hmr.mono λk _ e=>.inr (by rw [e];exact HZ3.out.1)))
 have HP5:=hid ((HP3.out.mut HM4.out (λe=>by have:=HNE.out;have:=HP3.out.lt;rcases e with e | e <;> omega)).mut hmr (λe=>by have:=HZ3.out;have:=HNE.out;omega))
 have HCR5:Hid (CR w5 N B (VH x y i)):=hid ((HCR4.out.mut hmr (λk e=>.inl (.inr (by rw [e];exact HZ3.out)))).more (λk e=>.inl (.inl e)))
 have HZ5:Hid (w2.heap.size<w5.heap.size∧w.heap.size≤w2.heap.size∧pb<w5.heap.size∧nb<w5.heap.size):=hid ⟨hxr.lt,HZ3.out.1,HP5.out.lt,HB5.out.lt⟩
 clear HX4 HB4 HM4 HP3 HB3 HX3 HW3 HCR4
 have e0:=hxr.cell (j:=0) rfl
 clear hxr hmr
 go_upto_region 18 with fail
 clear e0
 have HS18:Hid (∀W,Mut (λk=>k=pb∨w5.heap.size≤k) w5 W→W.cell? ⟨nb,23,none⟩=some (.pointer (some ⟨pb,0,none⟩))∧W.rangeAt w2.heap.size 0 (Yd B (VH x y i)).toList):=hid λW hm=>⟨(hm.cell (p:=⟨nb,23,none⟩) HB5.out.lt (λe=>by have:=HNE.out;have:=HZ5.out;rcases e with e | e <;> simp only at e <;> omega)).trans (HB5.out.cell HC23.out),(HX5.out.mut hm (λe=>by have:=HNE.out;have:=HZ5.out;rcases e with e | e <;> omega)).range⟩
 have CPR:Hid (∀(N':Nat→Prop) (W:World),Below w5.heap.size w5 W→(∀k,N' k→N k∨w5.heap.size≤k)→(∀k,N' k→k<W.heap.size)→N' pb→Calls Tryz.prog 105 #[.pointer (some ⟨pb,0,none⟩),.agg #[.int .i64 2,.int .u16 x,.int .u32 y,.int .u64 1,.int .u64 i,.slice B.da 1 B.dc,.int .u64 0,.slice B.am 0 B.cm,.slice B.al 0 B.cl,.slice B.ad 0 B.cd]] W λe w'=>∃(g1:Nat) (A1 B2:MA),e=.returned (.tuple #[.agg (Yd B2 (VH x y i)),.int .i64 0])∧Mut (λk=>k=pb∨W.heap.size≤k) W w'∧Zc w' pb 255 (prC x y 1 x y 3 (.slice la 1 lc) 1 1 x y (.pointer (some ⟨g1,0,none⟩)) 0 0)∧W.heap.size≤g1∧Zc w' g1 285 (valC 1 x y A1 (VH x y i))∧CR w' N' A1 (VH x y i)∧CR w' N' B2 (VH x y i)):=hid λN' W hb hN1 hN2 hN3=>zdw (HP5.out.ext hb) ((HCR5.out.more hN1).ext hb) H1.out.ok HCK.out hN2 hN3
 go_cut [10,11] (λu10 u11 wx=>u11=.int .i64 0∧∃g,u10=.pointer (some ⟨g,0,none⟩)∧∃g1 A1 B2,Hid (Mut (λk=>k=pb∨w5.heap.size≤k) w5 wx)∧Hid (Zc wx pb 255 (prC x y 1 x y 3 (.slice la 1 lc) 1 1 x y (.pointer (some ⟨g1,0,none⟩)) 0 0))∧Hid (Zc wx g1 285 (valC 1 x y A1 (VH x y i)))∧Hid (CR wx N A1 (VH x y i))∧Hid (CR wx N B2 (VH x y i))∧Hid (Zc wx g 126 [.int .i64 2,.int .u16 x,.int .u32 y,.int .u64 1,.int .u64 i,.slice B2.da 1 B2.dc,.int .u64 0,.slice B2.am 0 B2.cm,.slice B2.al 0 B2.cl,.slice B2.ad 0 B2.cd])∧Hid (w5.heap.size≤g1)∧Hid (w5.heap.size≤g))
 case first =>
  refine rhd HS18.out ((Mut.of_below (Below.refl _ _).drew).mono λk _ e=>.inr e) λhHeld=>?_
  refine tkv 0 (.pointer (some ⟨nb,0,none⟩)) rfl ?_
  refine tkv 1 (.pointer (some ⟨nb,0,none⟩)) rfl ?_
  refine tkv 2 (.pointer (some ⟨nb,23,none⟩)) rfl ?_
  refine tkv 3 (.pointer (some ⟨pb,0,none⟩)) rfl ?_
  refine tkT 4 (.agg #[.int .i64 2,.int .u16 x,.int .u32 y,.int .u64 1,.int .u64 i,.slice B.da 1 B.dc,.int .u64 0,.slice B.am 0 B.cm,.slice B.al 0 B.cl,.slice B.ad 0 B.cd]) rfl ((yieldsIf_load_mid (by rfl) 126 _ rfl w2.heap.size 0 rfl (Yd B (VH x y i)).toList _ (λW h=>h.2) Tryz.underlying126 rfl Gv)) ?_
  try simp only [lay]
  refine rd (rs:=[5,9]) ?_
  refine AllReadyH.cons (o:=_) rfl (λK hK=>?_) (AllReadyH.cons (o:=_) rfl (λK hK=>?_) AllReadyH.nil)
  ·go_simp
   refine (CPR.out (N) w5.drew (Below.refl w5.heap.size w5).drew (λk h=>.inl h) (λk h=>Nat.lt_of_lt_of_le (HNl.out k h) HM5.out.size) HNp.out).mono ?_
   rintro e w6 ⟨g1,A1,B2,rfl,hm6,hp6,hg6,hv6,hc6,hc6'⟩
   rw [Ku]
   have HM6:Hid (Mut (λk=>k=pb∨w5.heap.size≤k) w5 w6):=hid (((Mut.of_below (Below.refl w5.heap.size w5).drew).mono λk _ e=>.inr e).trans (hm6.mono λk _ e=>e.imp id (Nat.le_trans ((Below.refl w5.heap.size w5).drew).size)))
   have HP6:=hid hp6
   have HV6:=hid hv6
   have HCA:=hid hc6
   have HCB:=hid hc6'
   have HG6:Hid (w5.drew.heap.size≤g1):=hid hg6
   clear hm6 hp6 hv6 hc6 hc6' hg6
   refine hK.out _ _ (HS18.out _ HM6.out) (λhHeld=>?_)
   clear hK K
   try simp only [lay]
   refine tkv 6 (.tuple #[.agg #[.int .i64 2,.int .u16 x,.int .u32 y,.int .u64 1,.int .u64 i,.slice B2.da 1 B2.dc,.int .u64 0,.slice B2.am 0 B2.cm,.slice B2.al 0 B2.cl,.slice B2.ad 0 B2.cd],.int .i64 0]) rfl ?_
   refine tkv 7 (.agg #[.int .i64 2,.int .u16 x,.int .u32 y,.int .u64 1,.int .u64 i,.slice B2.da 1 B2.dc,.int .u64 0,.slice B2.am 0 B2.cm,.slice B2.al 0 B2.cl,.slice B2.ad 0 B2.cd]) rfl ?_
   refine tkv 8 (.int .i64 0) rfl ?_
   refine rd1 9 rfl λK hK=>?_
   go_simp
   refine hK.out _ _ (HS18.out _ (HM6.out.trans ((Mut.of_below ((Below.refl w6.heap.size w6).alloc (Nat.le_refl _) _)).mono λk _ e=>.inr (Nat.le_trans HM6.out.size e)))) (λhHeld=>?_)
   clear hK K
   try simp only [lay]
   refine rd1 10 rfl λK hK=>?_
   go_simp
   obtain ⟨w7,hw7⟩:∃z,w6.alloc (.cells #[.int .i64 2,.int .u16 x,.int .u32 y,.int .u64 1,.int .u64 i,.slice B2.da 1 B2.dc,.int .u64 0,.slice B2.am 0 B2.cm,.slice B2.al 0 B2.cl,.slice B2.ad 0 B2.cd] 126)=z:=⟨_,rfl⟩
   have hb7:Below w6.heap.size w6 w7:=by rw [←hw7];exact bra
   have hx7:Zc w7 w6.heap.size 126 [.int .i64 2,.int .u16 x,.int .u32 y,.int .u64 1,.int .u64 i,.slice B2.da 1 B2.dc,.int .u64 0,.slice B2.am 0 B2.cm,.slice B2.al 0 B2.cl,.slice B2.ad 0 B2.cd]:=by rw [←hw7];exact Zc.made _ _ _
   try rw [hw7]
   clear hw7
   have HM7:Hid (Mut (λk=>k=pb∨w5.heap.size≤k) w5 w7):=hid (HM6.out.trans ((Mut.of_below hb7).mono λk _ e=>.inr (Nat.le_trans HM6.out.size e)))
   refine hK.out _ _ (HS18.out _ HM7.out) (λhHeld=>?_)
   clear hK K
   try simp only [lay]
   refine rd1 11 rfl λK hK=>?_
   go_simp
   refine hK.out _ _ (HS18.out _ HM7.out) (λhHeld=>?_)
   clear hK K
   try simp only [lay]
   refine dn ?_
   go_wp2_with fail
   go_meet
   exact ⟨rfl,_,rfl,g1,A1,B2,HM7,hid (HP6.out.ext hb7),hid (HV6.out.ext hb7),hid (HCA.out.ext hb7),hid (HCB.out.ext hb7),hid hx7,hid HG6.out,hid HM6.out.size⟩
  ·go_simp
   obtain ⟨w51,hw51⟩:∃z,(w5.alloc (.cells #[.int .i64 0,.int .u16 0,.int .u32 0,.int .u64 0,.int .u64 0,.slice none 0 0,.int .u64 0,.slice none 0 0,.slice none 0 0,.slice none 0 0] 126)).drew=z:=⟨_,rfl⟩
   have hb51:Below w5.heap.size w5 w51:=by rw [←hw51];exact (Zd (Below.refl _ _) _).drew
   have hx51:Zc w51 w5.heap.size 126 [.int .i64 0,.int .u16 0,.int .u32 0,.int .u64 0,.int .u64 0,.slice none 0 0,.int .u64 0,.slice none 0 0,.slice none 0 0,.slice none 0 0]:=by rw [←hw51];exact (Zc.made w5 _ _).ext (Below.refl _ _).drew
   try rw [hw51]
   clear hw51
   refine hK.out _ _ (HS18.out _ ((Mut.of_below hb51).mono λk _ e=>.inr e)) (λhHeld=>?_)
   clear hK K
   try simp only [lay]
   refine rd1 5 rfl λK hK=>?_
   go_simp
   refine (CPR.out (λk=>N k∨k=w5.heap.size) w51 hb51 (λk h=>h.imp id (λe=>Nat.le_of_eq e.symm)) (λk h=>h.elim (λh=>Nat.lt_of_lt_of_le (HNl.out k h) (Nat.le_trans HM5.out.size hb51.size)) (λe=>by rw [e];exact hx51.lt)) (.inl HNp.out)).mono ?_
   rintro e w6 ⟨g1,A1,B2,rfl,hm6,hp6,hg6,hv6,hc6,hc6'⟩
   rw [Ku]
   have HM6:Hid (Mut (λk=>k=pb∨w5.heap.size≤k) w5 w6):=hid (((Mut.of_below hb51).mono λk _ e=>.inr e).trans (hm6.mono λk _ e=>e.imp id (Nat.le_trans (hb51).size)))
   have HP6:=hid hp6
   have HV6:=hid hv6
   have HCA:=hid hc6
   have HCB:=hid hc6'
   have HG6:Hid (w51.heap.size≤g1):=hid hg6
   have hx6:=hx51.mut hm6 (λe=>by have:=hx51.lt;have:=HZ5.out;rcases e with e | e <;> omega)
   have HL51:=hid hx51.lt
   clear hm6 hp6 hv6 hc6 hc6' hg6
   refine hK.out _ _ (HS18.out _ HM6.out) (λhHeld=>?_)
   clear hK K
   try simp only [lay]
   refine tkv 6 (.tuple #[.agg #[.int .i64 2,.int .u16 x,.int .u32 y,.int .u64 1,.int .u64 i,.slice B2.da 1 B2.dc,.int .u64 0,.slice B2.am 0 B2.cm,.slice B2.al 0 B2.cl,.slice B2.ad 0 B2.cd],.int .i64 0]) rfl ?_
   refine tkv 7 (.agg #[.int .i64 2,.int .u16 x,.int .u32 y,.int .u64 1,.int .u64 i,.slice B2.da 1 B2.dc,.int .u64 0,.slice B2.am 0 B2.cm,.slice B2.al 0 B2.cl,.slice B2.ad 0 B2.cd]) rfl ?_
   refine tkv 8 (.int .i64 0) rfl ?_
   refine rd1 10 rfl λK hK=>?_
   have fz:=hx6.frozen
   have e0:=hx6.cell (j:=0) rfl
   have e1:=hx6.cell (j:=1) rfl
   have e2:=hx6.cell (j:=2) rfl
   have e3:=hx6.cell (j:=3) rfl
   have e4:=hx6.cell (j:=4) rfl
   have e5:=hx6.cell (j:=5) rfl
   have e6:=hx6.cell (j:=6) rfl
   have e7:=hx6.cell (j:=7) rfl
   have e8:=hx6.cell (j:=8) rfl
   have e9:=hx6.cell (j:=9) rfl
   go_simp
   have hxr:=YF (n0:=.int .i64 2) (n1:=.int .u16 x) (n2:=.int .u32 y) (n3:=.int .u64 1) (n4:=.int .u64 i) (n5:=.slice B2.da 1 B2.dc) (n6:=.int .u64 0) (n7:=.slice B2.am 0 B2.cm) (n8:=.slice B2.al 0 B2.cl) (n9:=.slice B2.ad 0 B2.cd) hx6
   have hmr:=YG w6 w5.heap.size (.int .i64 2) (.int .u16 x) (.int .u32 y) (.int .u64 1) (.int .u64 i) (.slice B2.da 1 B2.dc) (.int .u64 0) (.slice B2.am 0 B2.cm) (.slice B2.al 0 B2.cl) (.slice B2.ad 0 B2.cd)
   obtain ⟨w7,hw7⟩:∃z,(((((((((((w6).setCell ⟨w5.heap.size,0,none⟩ (.int .i64 2)).setCell ⟨w5.heap.size,1,none⟩ (.int .u16 x)).setCell ⟨w5.heap.size,2,none⟩ (.int .u32 y)).setCell ⟨w5.heap.size,3,none⟩ (.int .u64 1)).setCell ⟨w5.heap.size,4,none⟩ (.int .u64 i)).setCell ⟨w5.heap.size,5,none⟩ (.slice B2.da 1 B2.dc)).setCell ⟨w5.heap.size,6,none⟩ (.int .u64 0)).setCell ⟨w5.heap.size,7,none⟩ (.slice B2.am 0 B2.cm)).setCell ⟨w5.heap.size,8,none⟩ (.slice B2.al 0 B2.cl)).setCell ⟨w5.heap.size,9,none⟩ (.slice B2.ad 0 B2.cd))=z:=⟨_,rfl⟩
   rw [hw7] at hxr hmr
   try rw [hw7]
   clear hw7 e0 e1 e2 e3 e4 e5 e6 e7 e8 e9 fz hx6 hx51
   have HM7:Hid (Mut (λk=>k=pb∨w5.heap.size≤k) w5 w7):=hid (HM6.out.trans (hmr.mono λk _ e=>.inr (Nat.le_of_eq e.symm)))
   have HMR:=hid hmr
   have HXR:=hid hxr
   clear hmr hxr
   refine hK.out _ _ (HS18.out _ HM7.out) (λhHeld=>?_)
   clear hK K
   try simp only [lay]
   refine rd1 11 rfl λK hK=>?_
   go_simp
   refine hK.out _ _ (HS18.out _ HM7.out) (λhHeld=>?_)
   clear hK K
   try simp only [lay]
   refine dn ?_
   go_wp2_with fail
   go_meet
   have hG:=HG6.out
   have hL:=HL51.out
   have hZ5:=HZ5.out
   exact ⟨rfl,_,rfl,g1,A1,B2,HM7,hid (HP6.out.mut HMR.out (λe=>by omega)),hid (HV6.out.mut HMR.out (λe=>by omega)),hid ((HCA.out.mut HMR.out (λk e=>.inl (.inr e))).more (λk e=>.inl (.inl e))),hid ((HCB.out.mut HMR.out (λk e=>.inl (.inr e))).more (λk e=>.inl (.inl e))),hid HXR.out,hid (by omega),hid (Nat.le_refl _)⟩
 case rest =>
  obtain ⟨rfl,g,rfl,g1,A1,B2,HM7,HP7,HV7,HCA7,HCB7,HX7,HG1,HG⟩:=hcut
  rename World=>w7
  have HB7:=hid (HB5.out.mut HM7.out (λe=>by have:=HNE.out;have:=HZ5.out;rcases e with e | e <;> omega))
  have HMW:Hid (Mut (λk=>k=nb∨k=pb∨w.heap.size≤k) w w7):=hid ((HM5.out.mono λk _ e=>e.imp id .inr).trans (HM7.out.mono λk _ e=>.inr (e.imp id (Nat.le_trans HM5.out.size))))
  have HMN:Hid (Mut (λk=>N k∨w.heap.size≤k) w w7):=hid (HMW.out.mono λk _ e=>by
   rcases e with e | e | e
   ·exact .inl (by rw [e];exact HNn.out)
   ·exact .inl (by rw [e];exact HNp.out)
   ·exact .inr e)
  have HRL7:Hid (Zb w7 la [(x,y)]):=hid (HRL.out.mutN HMN.out (λo off e hg=>by
   obtain ⟨h1,h2⟩:=HLA.out o off e
   rcases hg with hg | hg
   ·exact h1 hg
   ·omega))
  have HZ7:Hid (w.heap.size≤g1∧w.heap.size≤g∧g<w7.heap.size):=hid ⟨Nat.le_trans HM5.out.size HG1.out,Nat.le_trans HM5.out.size HG.out,HX7.out.lt⟩
  have HS20:Hid (∀W,Below w7.heap.size w7 W→W.cell? ⟨nb,23,none⟩=some (.pointer (some ⟨pb,0,none⟩))∧W.rangeAt g 0 (Yd B2 (VH x y i)).toList):=hid λW hb=>⟨(HB7.out.ext hb).cell HC23.out,(HX7.out.ext hb).range⟩
  have HSE:Hid (∀W,Mut (λk=>N k∨w7.heap.size≤k) w7 W→W.rangeAt g 0 (Yd B2 (VH x y i)).toList):=hid λW hm=>(HX7.out.mut hm (λe=>by
   have:=HZ7.out
   rcases e with e | e
   ·have:=HNl.out _ e;omega
   ·omega)).range
  have CBA:Hid (∀W,Below w7.heap.size w7 W→Calls Tryz.prog 101 #[.pointer (some ⟨pb,0,none⟩)] W λe w'=>e=.returned (.agg #[.int .u32 1,.int .u16 x,.int .u32 y])∧Below w7.heap.size w7 w'):=hid λW hb=>(QD (HP7.out.ext hb)).mono λe w' ⟨h1,h2⟩=>⟨h1,hb.trans (h2.mono hb.size)⟩
  have CWT:Hid (∀W,Below w7.heap.size w7 W→Calls Tryz.prog 102 #[.pointer (some ⟨pb,0,none⟩)] W λe w'=>∃a c,e=.returned (.slice a 1 c)∧Zb w' a [(x,y)]∧Below w7.heap.size w7 w'):=hid λW hb=>(GY (HP7.out.ext hb) (.inr rfl) (HRL7.out.ext hb)).mono λe w' ⟨a,c,h1,h2,h3⟩=>⟨a,c,h1,h2,hb.trans (h3.mono hb.size)⟩
  have CAL:Hid (∀(W:World) (a:Option Addr) (c:Nat),Below w7.heap.size w7 W→Zb W a [(x,y)]→Calls Tryz.prog 100 #[.pointer (some ⟨nb,0,none⟩),.agg #[.int .i64 6,.int .u16 0,.int .u32 0,.int .u64 0,.int .u64 1,.int .u64 0,.int .i64 0,.int .u32 1,.int .u16 x,.int .u32 y,.int .u32 0,.int .u16 0,.int .u32 0,.bool false,.int .i64 2,.int .u16 x,.int .u32 y,.int .u64 1,.int .u64 i,.slice B2.da 1 B2.dc,.int .u64 0,.slice B2.am 0 B2.cm,.slice B2.al 0 B2.cl,.slice B2.ad 0 B2.cd,.int .u64 0,.slice none 0 0,.slice none 0 0,.slice none 0 0,.slice none 0 0],.slice a 1 c] W λe w'=>ZC N R w7 e w'):=hid λW a c hb hr=>by
   have h:=nAll (nb:=nb) (c:=c) (M:=mA B2) (m:=EB 1 1 x y (VH x y i)) (N:=N) (R:=R) hr (λW' hb'=>by
    have hbb:=hb.trans (hb'.mono hb.size)
    exact HCS.out W' g1 A1 B2 (HMW.out.trans ((Mut.of_below hbb).mono λk _ e=>.inr (.inr (Nat.le_trans HMW.out.size e)))) (HB7.out.ext hbb) (HP7.out.ext hbb) (HRL7.out.ext hbb) HZ7.out.1 (HV7.out.ext hbb) (HCA7.out.ext hbb) (HCB7.out.ext hbb))
   rw [acptL] at h
   exact Calls.mono h λe w' h=>ZC.lift hb h
  clear HS18 CPR HB5 HX5 HP5 HCR5 HM5 HM7 HRL HCS HCW
  go_upto_region 20 with fail
  refine rhd HS20.out ((Below.refl _ _).drew) λhHeld=>?_
  refine tkv 0 (.pointer (some ⟨nb,0,none⟩)) rfl ?_
  refine tkv 1 (.int .u64 1) rfl ?_
  refine tkv 2 (.pointer (some ⟨nb,0,none⟩)) rfl ?_
  refine tkv 3 (.pointer (some ⟨nb,0,none⟩)) rfl ?_
  refine tkv 4 (.pointer (some ⟨nb,23,none⟩)) rfl ?_
  refine tkv 5 (.pointer (some ⟨pb,0,none⟩)) rfl ?_
  refine tkT 7 (.agg #[.int .i64 2,.int .u16 x,.int .u32 y,.int .u64 1,.int .u64 i,.slice B2.da 1 B2.dc,.int .u64 0,.slice B2.am 0 B2.cm,.slice B2.al 0 B2.cl,.slice B2.ad 0 B2.cd]) rfl ((yieldsIf_load_mid (by rfl) 126 _ rfl g 0 rfl (Yd B2 (VH x y i)).toList _ (λW h=>h.2) Tryz.underlying126 rfl Gv)) ?_
  try simp only [lay]
  refine tkv 9 (.pointer (some ⟨nb,0,none⟩)) rfl ?_
  refine tkv 10 (.pointer (some ⟨nb,0,none⟩)) rfl ?_
  refine tkv 11 (.pointer (some ⟨nb,23,none⟩)) rfl ?_
  refine tkv 12 (.pointer (some ⟨pb,0,none⟩)) rfl ?_
  refine rd1 6 rfl λK hK=>?_
  go_simp
  refine (CBA.out _ (Below.refl _ _).drew).mono ?_
  rintro e w8 ⟨rfl,hb8⟩
  refine hK.out _ _ (HS20.out _ hb8) (λhHeld=>?_)
  clear hK K
  try simp only [lay]
  refine tkv 8 (.agg #[.int .i64 6,.int .u16 0,.int .u32 0,.int .u64 0,.int .u64 1,.int .u64 0,.int .i64 0,.int .u32 1,.int .u16 x,.int .u32 y,.int .u32 0,.int .u16 0,.int .u32 0,.bool false,.int .i64 2,.int .u16 x,.int .u32 y,.int .u64 1,.int .u64 i,.slice B2.da 1 B2.dc,.int .u64 0,.slice B2.am 0 B2.cm,.slice B2.al 0 B2.cl,.slice B2.ad 0 B2.cd,.int .u64 0,.slice none 0 0,.slice none 0 0,.slice none 0 0,.slice none 0 0]) rfl ?_
  refine rd1 13 rfl λK hK=>?_
  go_simp
  refine (CWT.out w8 hb8).mono ?_
  rintro e w9 ⟨a9,c9,rfl,hr9,hb9⟩
  refine hK.out _ _ (HS20.out _ hb9) (λhHeld=>?_)
  clear hK K
  try simp only [lay]
  refine rd1 14 rfl λK hK=>?_
  go_simp
  refine (CAL.out w9 a9 c9 hb9 hr9).mono ?_
  rintro e w10 ⟨rfl,hR⟩
  have HR:=hid hR
  refine hK.out _ _ (⟨HR0.out _ hR.1,HSE.out _ hR.2⟩) (λhHeld=>?_)
  clear hK K
  try simp only [lay]
  refine dn ?_
  have HRR:=hid (ZC.liftM (e:=.returned (.tuple #[])) HMN.out ⟨rfl,HR.out⟩)
  clear hR
  go_wp2_with fail
  exact bodyPost_end (results_none rfl _ _ _) rfl HRR.out
end
end Go.Proofs.YtcdpaflmofljaaaGreat
