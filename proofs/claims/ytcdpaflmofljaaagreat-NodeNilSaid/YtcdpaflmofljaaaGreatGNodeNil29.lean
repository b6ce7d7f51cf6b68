import Derived.Test.YtcdpaflmofljaaaGreatGNodeNil28
/- Parts of the proof of NodeNil: MJI. -/
namespace Go.Proofs.YtcdpaflmofljaaaGreat
open Go.RowKit
section
variable {w:World} {nb lb pb i lc:Nat} {cs:List Value} {x y s0 s1 s2 b0 b1 b2 osl m0 m1:Int} {A:VAd} {V:Zs} {tick:Bool} {N:Nat→Prop} {R:World→Prop} {k ld val:Value} {la:Option Addr}
set_option maxRecDepth 100000 in
set_option maxHeartbeats 6400000 in
theorem nDriveI (hB:Zc w nb 98 cs) (hN:N1 cs x y i A) (hV:Zt w A.am A.al A.ad V) (h1:V1 V x y i) (hf:Gb V) (c20:cs[20]?=some (.pointer (some ⟨lb,0,none⟩))) (c23:cs[23]?=some (.pointer (some ⟨pb,0,none⟩))) (hsum:Kg V.ls≤549755813888) (hcb:Xh V=true) (hL:Zc w lb 149 [.int .u64 0,k]) (hP:Zc w pb 255 (prC x y 0 s1 s2 0 ld osl b0 b1 b2 val m0 m1)) (hne:nb≠pb) (hvd:∀o off,A.ad=some ⟨o,off,none⟩→o≠pb) (hNp:N pb)
  (hR0:∀W,R W→W.cell? ⟨nb,23,none⟩=some (.pointer (some ⟨pb,0,none⟩)))
  (CS:∀W a c,Mut (λk=>k=pb∨w.heap.size≤k) w W→Zc W nb 98 cs→Zc W pb 255 (prC x y 1 x y 1 (.slice a 1 c) 1 1 x y (.pointer none) 0 0)→Zb W a [(x,y)]→(∀g off,a=some ⟨g,off,none⟩→w.heap.size≤g)→Calls Tryz.prog 90 #[.pointer (some ⟨nb,0,none⟩),.agg #[.int .u16 x,.int .u32 y],.agg (ML Zu (Et 1 1 x y)).toArray] W λe w'=>ZC N R W e w') :
  Calls Tryz.prog 49 #[.pointer (some ⟨nb,0,none⟩),.bool tick] w λe w'=>ZC N R w e w':=by
 have CI:=hid (XR hB hN)
 have CC:=hid (EV hB hN hV h1 hf)
 have HB:=hid hB
 have HN:=hid hN
 have H1:=hid h1
 have HV:=hid hV
 have HC20:=hid c20
 have HC23:=hid c23
 have HL:=hid hL
 have HP:=hid hP
 have HCS:=hid CS
 have HNE:Hid (nb≠pb∧nb<w.heap.size∧pb<w.heap.size):=hid ⟨hne,hB.lt,hP.lt⟩
 have HNp:=hid hNp
 have HR0:=hid hR0
 have HSU:=hid hsum
 have HCB:=hid hcb
 have HVD:=hid hvd
 clear hB hN hV h1 hf c20 c23 hL hP hne hNp hR0 CS hsum hcb hvd
 go_enter Tryz.func49,Tryz.ntmps49
 go_wp2_with fail
 refine CI.out.mono ?_
 rintro e w1 ⟨rfl,rfl⟩
 rename World=>w
 clear CI
 go_wp2_with fail
 refine CC.out.mono ?_
 rintro e w1 ⟨rfl,hb1⟩
 have HB1:=hid (HB.out.ext hb1)
 have HP1:=hid (HP.out.ext hb1)
 have HW1:=hid hb1
 have CL:=hid (XT (HL.out.ext hb1))
 have CP:=hid (Jd HP1.out)
 have CT:=hid (Kl HP1.out)
 have n20:=HB1.out.cell HC20.out
 have n23:=HB1.out.cell HC23.out
 clear CC hb1
 go_wp2_with fail
 refine CL.out.mono ?_
 rintro e w9 ⟨rfl,rfl⟩
 rename World=>w1
 clear CL n20
 go_wp2_with fail
 refine CP.out.mono ?_
 rintro e w9 ⟨rfl,rfl⟩
 rename World=>w1
 clear CP n23 CT
 go_upto_region 6 with fail
 have HZ1:Hid (w.heap.size≤w1.heap.size):=hid HW1.out.size
 have HS6:Hid (∀W,Mut (λk=>k=pb∨w1.heap.size≤k) w1 W→W.cell? ⟨nb,23,none⟩=some (.pointer (some ⟨pb,0,none⟩))∧W.cell? ⟨nb,9,none⟩=some (.int .u64 i)∧W.cell? ⟨nb,10,none⟩=some (.slice A.am 1 A.cm)∧W.cell? ⟨nb,11,none⟩=some (.slice A.al 1 A.cl)∧W.cell? ⟨nb,12,none⟩=some (.slice A.ad 1 A.cd)):=hid λW hm=>⟨(hm.cell (p:=⟨nb,23,none⟩) HB1.out.lt (λe=>by have:=HNE.out;have:=HB1.out.lt;rcases e with e | e <;> simp only at e <;> omega)).trans (HB1.out.cell HC23.out),(hm.cell (p:=⟨nb,9,none⟩) HB1.out.lt (λe=>by have:=HNE.out;have:=HB1.out.lt;rcases e with e | e <;> simp only at e <;> omega)).trans (HB1.out.cell HN.out.c9),(hm.cell (p:=⟨nb,10,none⟩) HB1.out.lt (λe=>by have:=HNE.out;have:=HB1.out.lt;rcases e with e | e <;> simp only at e <;> omega)).trans (HB1.out.cell HN.out.c10),(hm.cell (p:=⟨nb,11,none⟩) HB1.out.lt (λe=>by have:=HNE.out;have:=HB1.out.lt;rcases e with e | e <;> simp only at e <;> omega)).trans (HB1.out.cell HN.out.c11),(hm.cell (p:=⟨nb,12,none⟩) HB1.out.lt (λe=>by have:=HNE.out;have:=HB1.out.lt;rcases e with e | e <;> simp only at e <;> omega)).trans (HB1.out.cell HN.out.c12)⟩
 have CST:Hid (∀W,Below w1.heap.size w1 W→Calls Tryz.prog 99 #[.pointer (some ⟨pb,0,none⟩),.agg #[.int .u64 i,.slice A.am 1 A.cm,.slice A.al 1 A.cl,.slice A.ad 1 A.cd],.int .u64 1] W λe w'=>∃a c,e=.returned (.tuple #[.agg #[.int .u32 1,.int .u16 x,.int .u32 y],.int .i64 0])∧Mut (λk=>k=pb∨W.heap.size≤k) W w'∧Zc w' pb 255 (prC x y 1 x y 1 (.slice a 1 c) 1 1 x y (.pointer none) 0 0)∧Zb w' a [(x,y)]∧(∀g off,a=some ⟨g,off,none⟩→W.heap.size≤g)):=hid λW hb=>by
  have h:=n1Start (sl:=1) (A:=A) (HP1.out.ext hb) H1.out.id ((HV.out.ext HW1.out).ext hb) HSU.out HCB.out H1.out.ds HVD.out
  have e:(vcl V i A).toArray=#[.int .u64 i,.slice A.am 1 A.cm,.slice A.al 1 A.cl,.slice A.ad 1 A.cd]:=by unfold vcl;rw [H1.out.ms,H1.out.ls,H1.out.ds];rfl
  rw [e] at h
  exact h
 go_cut [6,7] (λu6 u7 wx=>u7=.int .i64 0∧∃g,u6=.pointer (some ⟨g,0,none⟩)∧∃a c,Hid (Mut (λk=>k=pb∨w1.heap.size≤k) w1 wx)∧Hid (Zc wx pb 255 (prC x y 1 x y 1 (.slice a 1 c) 1 1 x y (.pointer none) 0 0))∧Hid (Zb wx a [(x,y)])∧Hid (∀g off,a=some ⟨g,off,none⟩→w1.heap.size≤g))
 case first =>
  refine rhd HS6.out ((Mut.of_below (Below.refl _ _).drew).mono λk _ e=>.inr e) λhHeld=>?_
  refine tkv 0 (.pointer (some ⟨nb,0,none⟩)) rfl ?_
  refine tkv 1 (.pointer (some ⟨nb,0,none⟩)) rfl ?_
  refine tkv 2 (.pointer (some ⟨nb,23,none⟩)) rfl ?_
  refine tkv 3 (.pointer (some ⟨pb,0,none⟩)) rfl ?_
  refine tkv 4 (.pointer (some ⟨nb,0,none⟩)) rfl ?_
  refine tkv 5 (.pointer (some ⟨nb,0,none⟩)) rfl ?_
  refine tkv 6 (.pointer (some ⟨nb,9,none⟩)) rfl ?_
  refine tkv 7 (.pointer (some ⟨nb,9,none⟩)) rfl ?_
  refine tkv 8 (.agg #[.int .u64 i,.slice A.am 1 A.cm,.slice A.al 1 A.cl,.slice A.ad 1 A.cd]) rfl ?_
  refine tkv 9 (.int .u64 1) rfl ?_
  refine rd (rs:=[10,14]) ?_
  refine AllReadyH.cons (o:=_) rfl (λK hK=>?_) (AllReadyH.cons (o:=_) rfl (λK hK=>?_) AllReadyH.nil)
  ·go_simp
   refine (CST.out w1.drew (Below.refl w1.heap.size w1).drew).mono ?_
   rintro e w6 ⟨a6,c6,rfl,hm6,hp6,hr6,hg6⟩
   have HM6:Hid (Mut (λk=>k=pb∨w1.heap.size≤k) w1 w6):=hid (((Mut.of_below (Below.refl w1.heap.size w1).drew).mono λk _ e=>.inr e).trans (hm6.mono λk _ e=>e.imp id (Nat.le_trans ((Below.refl w1.heap.size w1).drew).size)))
   have HP6:=hid hp6
   have HR6:=hid hr6
   have HG6:Hid (∀g off,a6=some ⟨g,off,none⟩→w1.drew.heap.size≤g):=hid hg6
   clear hm6 hp6 hr6 hg6
   refine hK.out _ _ (HS6.out _ HM6.out) (λhHeld=>?_)
   clear hK K
   try simp only [lay]
   refine tkv 11 (.tuple #[.agg #[.int .u32 1,.int .u16 x,.int .u32 y],.int .i64 0]) rfl ?_
   refine tkv 12 (.agg #[.int .u32 1,.int .u16 x,.int .u32 y]) rfl ?_
   refine tkv 13 (.int .i64 0) rfl ?_
   refine rd1 14 rfl λK hK=>?_
   go_simp
   refine hK.out _ _ (HS6.out _ (HM6.out.trans ((Mut.of_below ((Below.refl w6.heap.size w6).alloc (Nat.le_refl _) _)).mono λk _ e=>.inr (Nat.le_trans HM6.out.size e)))) (λhHeld=>?_)
   clear hK K
   try simp only [lay]
   refine rd1 15 rfl λK hK=>?_
   go_simp
   obtain ⟨w7,hw7⟩:∃z,w6.alloc (.cells #[.int .u32 1,.int .u16 x,.int .u32 y] 124)=z:=⟨_,rfl⟩
   have hb7:Below w6.heap.size w6 w7:=by rw [←hw7];exact bra
   try rw [hw7]
   clear hw7
   have HM7:Hid (Mut (λk=>k=pb∨w1.heap.size≤k) w1 w7):=hid (HM6.out.trans ((Mut.of_below hb7).mono λk _ e=>.inr (Nat.le_trans HM6.out.size e)))
   refine hK.out _ _ (HS6.out _ HM7.out) (λhHeld=>?_)
   clear hK K
   try simp only [lay]
   refine rd1 16 rfl λK hK=>?_
   go_simp
   refine hK.out _ _ (HS6.out _ HM7.out) (λhHeld=>?_)
   clear hK K
   try simp only [lay]
   refine dn ?_
   go_wp2_with fail
   go_meet
   exact ⟨rfl,_,rfl,a6,c6,HM7,hid (HP6.out.ext hb7),hid (HR6.out.ext hb7),hid HG6.out⟩
  ·go_simp
   obtain ⟨w51,hw51⟩:∃z,(w1.alloc (.cells #[.int .u32 0,.int .u16 0,.int .u32 0] 124)).drew=z:=⟨_,rfl⟩
   have hb51:Below w1.heap.size w1 w51:=by rw [←hw51];exact (Zd (Below.refl _ _) _).drew
   have hx51:Zc w51 w1.heap.size 124 [.int .u32 0,.int .u16 0,.int .u32 0]:=by rw [←hw51];exact (Zc.made w1 _ _).ext (Below.refl _ _).drew
   try rw [hw51]
   clear hw51
   refine hK.out _ _ (HS6.out _ ((Mut.of_below hb51).mono λk _ e=>.inr e)) (λhHeld=>?_)
   clear hK K
   try simp only [lay]
   refine rd1 10 rfl λK hK=>?_
   go_simp
   refine (CST.out w51 hb51).mono ?_
   rintro e w6 ⟨a6,c6,rfl,hm6,hp6,hr6,hg6⟩
   have HM6:Hid (Mut (λk=>k=pb∨w1.heap.size≤k) w1 w6):=hid (((Mut.of_below hb51).mono λk _ e=>.inr e).trans (hm6.mono λk _ e=>e.imp id (Nat.le_trans (hb51).size)))
   have HP6:=hid hp6
   have HR6:=hid hr6
   have HG6:Hid (∀g off,a6=some ⟨g,off,none⟩→w51.heap.size≤g):=hid hg6
   have hx6:=hx51.mut hm6 (λe=>by have:=hx51.lt;have:=HNE.out;have:=HB1.out.lt;have:=HZ1.out;rcases e with e | e <;> omega)
   have HL51:=hid hx51.lt
   clear hm6 hp6 hr6 hg6
   refine hK.out _ _ (HS6.out _ HM6.out) (λhHeld=>?_)
   clear hK K
   try simp only [lay]
   refine tkv 11 (.tuple #[.agg #[.int .u32 1,.int .u16 x,.int .u32 y],.int .i64 0]) rfl ?_
   refine tkv 12 (.agg #[.int .u32 1,.int .u16 x,.int .u32 y]) rfl ?_
   refine tkv 13 (.int .i64 0) rfl ?_
   refine rd1 15 rfl λK hK=>?_
   have fz:=hx6.frozen
   have e0:=hx6.cell (j:=0) rfl
   have e1:=hx6.cell (j:=1) rfl
   have e2:=hx6.cell (j:=2) rfl
   go_simp
   have hmr:Mut (λk=>k=w1.heap.size) w6 (((w6.setCell ⟨w1.heap.size,0,none⟩ (.int .u32 1)).setCell ⟨w1.heap.size,1,none⟩ (.int .u16 x)).setCell ⟨w1.heap.size,2,none⟩ (.int .u32 y)):=Zf (G:=λk=>k=w1.heap.size) (Zf (G:=λk=>k=w1.heap.size) (Zf (G:=λk=>k=w1.heap.size) (Mut.refl _ _) _ _ _ rfl) _ _ _ rfl) _ _ _ rfl
   obtain ⟨w7,hw7⟩:∃z,(((w6.setCell ⟨w1.heap.size,0,none⟩ (.int .u32 1)).setCell ⟨w1.heap.size,1,none⟩ (.int .u16 x)).setCell ⟨w1.heap.size,2,none⟩ (.int .u32 y))=z:=⟨_,rfl⟩
   rw [hw7] at hmr
   try rw [hw7]
   clear hw7 e0 e1 e2 fz hx6 hx51
   have HM7:Hid (Mut (λk=>k=pb∨w1.heap.size≤k) w1 w7):=hid (HM6.out.trans (hmr.mono λk _ e=>.inr (Nat.le_of_eq e.symm)))
   have HMR:=hid hmr
   clear hmr
   refine hK.out _ _ (HS6.out _ HM7.out) (λhHeld=>?_)
   clear hK K
   try simp only [lay]
   refine rd1 16 rfl λK hK=>?_
   go_simp
   refine hK.out _ _ (HS6.out _ HM7.out) (λhHeld=>?_)
   clear hK K
   try simp only [lay]
   refine dn ?_
   go_wp2_with fail
   go_meet
   have hL:=HL51.out
   have hZ:=HZ1.out
   have hE:=HNE.out
   exact ⟨rfl,_,rfl,a6,c6,HM7,hid (HP6.out.mut HMR.out (λe=>by omega)),hid (HR6.out.mutN HMR.out (λo off e hg=>by have:=HG6.out o off e;omega)),hid (λg off e=>by have:=HG6.out g off e;omega)⟩
 case rest =>
  obtain ⟨rfl,g,rfl,a,c,HM7,HP7,HR7,HG7⟩:=hcut
  rename World=>w7
  have HB7:=hid (HB1.out.mut HM7.out (λe=>by have:=HNE.out;have:=HB1.out.lt;have:=HZ1.out;rcases e with e | e <;> omega))
  have HMW:Hid (Mut (λk=>k=pb∨w.heap.size≤k) w w7):=hid (((Mut.of_below HW1.out).mono λk _ e=>.inr e).trans (HM7.out.mono λk _ e=>e.imp id (Nat.le_trans HW1.out.size)))
  have HMN:Hid (Mut (λk=>N k∨w.heap.size≤k) w w7):=hid (HMW.out.mono λk _ e=>by
   rcases e with e | e
   ·exact .inl (by rw [e];exact HNp.out)
   ·exact .inr e)
  have CP:=hid (Jd HP7.out)
  have n23:=HB7.out.cell HC23.out
  have HS12:Hid (∀W,Below w7.heap.size w7 W→W.cell? ⟨nb,23,none⟩=some (.pointer (some ⟨pb,0,none⟩))):=hid λW hb=>(HB7.out.ext hb).cell HC23.out
  have CBA:Hid (∀W,Below w7.heap.size w7 W→Calls Tryz.prog 101 #[.pointer (some ⟨pb,0,none⟩)] W λe w'=>e=.returned (.agg #[.int .u32 1,.int .u16 x,.int .u32 y])∧Below w7.heap.size w7 w'):=hid λW hb=>(QD (HP7.out.ext hb)).mono λe w' ⟨h1,h2⟩=>⟨h1,hb.trans (h2.mono hb.size)⟩
  have CWT:Hid (∀W,Below w7.heap.size w7 W→Calls Tryz.prog 102 #[.pointer (some ⟨pb,0,none⟩)] W λe w'=>∃a c,e=.returned (.slice a 1 c)∧Zb w' a [(x,y)]∧Below w7.heap.size w7 w'):=hid λW hb=>(GY (HP7.out.ext hb) (.inl rfl) (HR7.out.ext hb)).mono λe w' ⟨a,c,h1,h2,h3⟩=>⟨a,c,h1,h2,hb.trans (h3.mono hb.size)⟩
  have CAL:Hid (∀(W:World) (a9:Option Addr) (c9:Nat),Below w7.heap.size w7 W→Zb W a9 [(x,y)]→Calls Tryz.prog 100 #[.pointer (some ⟨nb,0,none⟩),.agg #[.int .i64 4,.int .u16 0,.int .u32 0,.int .u64 0,.int .u64 1,.int .u64 0,.int .i64 0,.int .u32 1,.int .u16 x,.int .u32 y,.int .u32 0,.int .u16 0,.int .u32 0,.bool false,.int .i64 0,.int .u16 0,.int .u32 0,.int .u64 0,.int .u64 0,.slice none 0 0,.int .u64 0,.slice none 0 0,.slice none 0 0,.slice none 0 0,.int .u64 0,.slice none 0 0,.slice none 0 0,.slice none 0 0,.slice none 0 0],.slice a9 1 c9] W λe w'=>ZC N R w7 e w'):=hid λW a9 c9 hb hr=>by
   have h:=nAll (nb:=nb) (c:=c9) (M:=Zu) (m:=Et 1 1 x y) (N:=N) (R:=R) hr (λW' hb'=>by
    have hbb:=hb.trans (hb'.mono hb.size)
    exact HCS.out W' a c (HMW.out.trans ((Mut.of_below hbb).mono λk _ e=>.inr (Nat.le_trans HMW.out.size e))) (HB7.out.ext hbb) (HP7.out.ext hbb) (HR7.out.ext hbb) (λg off e=>Nat.le_trans HZ1.out (HG7.out g off e)))
   rw [prepL] at h
   exact Calls.mono h λe w' h=>ZC.lift hb h
  clear HS6 CST HB1 HM7 HCS
  go_wp2_with fail
  refine CP.out.mono ?_
  rintro e w9 ⟨rfl,rfl⟩
  rename World=>w7
  clear CP n23
  go_upto_region 12 with fail
  refine rhd HS12.out ((Below.refl _ _).drew) λhHeld=>?_
  refine tkv 0 (.pointer (some ⟨nb,0,none⟩)) rfl ?_
  refine tkv 1 (.int .u64 1) rfl ?_
  refine tkv 2 (.pointer (some ⟨nb,0,none⟩)) rfl ?_
  refine tkv 3 (.pointer (some ⟨nb,0,none⟩)) rfl ?_
  refine tkv 4 (.pointer (some ⟨nb,23,none⟩)) rfl ?_
  refine tkv 5 (.pointer (some ⟨pb,0,none⟩)) rfl ?_
  refine tkv 8 (.pointer (some ⟨nb,0,none⟩)) rfl ?_
  refine tkv 9 (.pointer (some ⟨nb,0,none⟩)) rfl ?_
  refine tkv 10 (.pointer (some ⟨nb,23,none⟩)) rfl ?_
  refine tkv 11 (.pointer (some ⟨pb,0,none⟩)) rfl ?_
  refine rd1 6 rfl λK hK=>?_
  go_simp
  refine (CBA.out _ (Below.refl _ _).drew).mono ?_
  rintro e w8 ⟨rfl,hb8⟩
  refine hK.out _ _ (HS12.out _ hb8) (λhHeld=>?_)
  clear hK K
  try simp only [lay]
  refine tkv 7 (.agg #[.int .i64 4,.int .u16 0,.int .u32 0,.int .u64 0,.int .u64 1,.int .u64 0,.int .i64 0,.int .u32 1,.int .u16 x,.int .u32 y,.int .u32 0,.int .u16 0,.int .u32 0,.bool false,.int .i64 0,.int .u16 0,.int .u32 0,.int .u64 0,.int .u64 0,.slice none 0 0,.int .u64 0,.slice none 0 0,.slice none 0 0,.slice none 0 0,.int .u64 0,.slice none 0 0,.slice none 0 0,.slice none 0 0,.slice none 0 0]) rfl ?_
  refine rd1 12 rfl λK hK=>?_
  go_simp
  refine (CWT.out w8 hb8).mono ?_
  rintro e w9 ⟨a9,c9,rfl,hr9,hb9⟩
  refine hK.out _ _ (HS12.out _ hb9) (λhHeld=>?_)
  clear hK K
  try simp only [lay]
  refine rd1 13 rfl λK hK=>?_
  go_simp
  refine (CAL.out w9 a9 c9 hb9 hr9).mono ?_
  rintro e w10 ⟨rfl,hR⟩
  have HR:=hid hR
  refine hK.out _ _ (HR0.out _ hR.1) (λhHeld=>?_)
  clear hK K
  try simp only [lay]
  refine dn ?_
  have HRR:=hid (ZC.liftM (e:=.returned (.tuple #[])) HMN.out ⟨rfl,HR.out⟩)
  clear hR
  go_wp2_with fail
  exact bodyPost_end (results_none rfl _ _ _) rfl HRR.out
end
end Go.Proofs.YtcdpaflmofljaaaGreat
