import Derived.Test.YtcdpaflmofljaaaGreatGNodeNil22
/- Parts of the proof of NodeNil: MG. -/
namespace Go.Proofs.YtcdpaflmofljaaaGreat
open Go.RowKit
section
variable {w:World} {nb c:Nat} {a:Option Addr} {M:MA} {m:Jr}
theorem nAll0:Calls Tryz.prog 100 #[.pointer (some ⟨nb,0,none⟩),.agg (ML M m).toArray,.slice a 0 c] w λe w'=>e=.returned (.tuple #[])∧Below w.heap.size w w':=by
 obtain ⟨W1,hW1⟩:∃W1,w.alloc (.cells (ML M m).toArray 128)=W1:=⟨_,rfl⟩
 have hb1:Below w.heap.size w W1:=by rw [←hW1];exact bra
 have HX1:=hid hb1
 clear hb1
 go_enter Tryz.func100,Tryz.ntmps100
 go_upto_region 1 with fail
 try rw [hW1]
 clear hW1
 go_wp2_with fail
 go_loopw [10] (λiv wr=>iv=.int .i64 0∧wr=W1) (λ_ _=>0)
 case atStart=>exact ⟨rfl,rfl⟩
 case round =>
  obtain ⟨rfl,rfl⟩:=hrel
  go_wp2_with fail
  exact bodyPost_end (results_none rfl _ _ _) rfl ⟨rfl,HX1.out⟩
end
theorem chos0L (B:MA) (C:Xu):(ML (mA B) (chosM 1 0 C)).toArray=#[.int .i64 2,.int .u16 0,.int .u32 0,.int .u64 0,.int .u64 1,.int .u64 0,.int .i64 0,.int .u32 0,.int .u16 0,.int .u32 0,.int .u32 0,.int .u16 0,.int .u32 0,.bool false,.int .i64 C.kind,.int .u16 C.fr.1,.int .u32 C.fr.2,.int .u64 C.num,.int .u64 C.vw,.slice B.da C.data.length B.dc,.int .u64 C.v.id,.slice B.am C.v.ms.length B.cm,.slice B.al C.v.ls.length B.cl,.slice B.ad C.v.ds.length B.cd,.int .u64 0,.slice none 0 0,.slice none 0 0,.slice none 0 0,.slice none 0 0]:=by rfl
section
variable {ops:Array Oper} {rest:List Oper} {op:Oper} {a:Go.Act} {w:World} {Q:Exit→Go.Act→World→Prop} {x y:Operand} {q:Nat} {A:MA} {c:Xu}
end
theorem Xm {w:World} {base:Nat} {v:Value} (h:Zy w base v []):∃a c,v=.slice a 0 c∧Zb w a []:=by
 obtain ⟨a,c,e,h1,-⟩:=h.row
 exact ⟨a,c,e,h1⟩
section
variable {w:World} {nb pb g lc i:Nat} {cs:List Value} {x y s0 s1 s2 v0 v1 v2:Int} {la:Option Addr} {R:World→Prop} {N:Nat→Prop} {A:VAd} {V:Zs} {B:MA} {C:Xu} {own:Nat→Nat}
set_option maxRecDepth 100000 in
set_option maxHeartbeats 6400000 in
theorem nCountA (hB:Zc w nb 98 cs) (hN:N1 cs x y i A) (c23:cs[23]?=some (.pointer (some ⟨pb,0,none⟩))) (hP:Zc w pb 255 (prC x y s0 s1 s2 3 (.slice la 1 lc) 1 1 x y (.pointer (some ⟨g,0,none⟩)) 0 0)) (hr:Zb w la [(x,y)]) (hVa:Zc w g 285 (valC v0 v1 v2 B C)) (hC:CR w N B C) (hne:nb≠pb) (hF:N pb) (hNl:∀k,N k→k<w.heap.size) (hVV:YD own (Zt · A.am A.al A.ad V) w) (hNo:∀k,N k↔own k≠0) (h1:V1 V x y i) (hsm:KA V)
  (hR0:∀W,R W→W.cell? ⟨nb,0,none⟩=some (.int .u16 x)∧W.cell? ⟨nb,1,none⟩=some (.int .u32 y))
  (CL:∀W B',Mut (λk=>k=pb∨w.heap.size≤k) w W→Zc W pb 255 (prC x y s0 s1 s2 2 (.slice la 1 lc) 2 1 x y (.pointer none) 1 0)→CR W N B' C→Calls Tryz.prog 151 #[.pointer (some ⟨nb,0,none⟩),.agg #[.int .u16 x,.int .u32 y],.int .u64 1,.agg (Yd B' C),.int .i64 4] W λe w'=>ZC N R W e w') :
  Calls Tryz.prog 156 #[.pointer (some ⟨nb,0,none⟩),.agg #[.int .u16 x,.int .u32 y],.agg (ML Zu (Xd 1 1 x y)).toArray] w λe w'=>ZC N R w e w':=by
 obtain ⟨W1,hW1⟩:∃W1,w.alloc (.cells #[.int .u16 x,.int .u32 y] 25)=W1:=⟨_,rfl⟩
 obtain ⟨W2,hW2⟩:∃W2,W1.alloc (.cells (ML Zu (Xd 1 1 x y)).toArray 128)=W2:=⟨_,rfl⟩
 have hb1:Below w.heap.size w W1:=by rw [←hW1];exact bra
 have hb12:Below W1.heap.size W1 W2:=by rw [←hW2];exact bra
 have hb2:Below w.heap.size w W2:=hb1.trans (hb12.mono hb1.size)
 have xP:Zc W2 w.heap.size 25 [.int .u16 x,.int .u32 y]:=(by rw [←hW1];exact Zc.made _ _ _:Zc W1 w.heap.size 25 [.int .u16 x,.int .u32 y]).ext hb12
 have xM:Zr W2 W1.heap.size Zu (Xd 1 1 x y):=by rw [←hW2];exact Zr.made _ _ _ _ _
 have hz1:W1.heap.size=w.heap.size+1:=by rw [←hW1];simp
 have e23:=(hB.ext hb2).cell c23
 have CV:=hid (n1Value (hP.ext hb2) (hVa.ext hb2) (hC.ext hb2) (λk h=>Nat.lt_of_lt_of_le (hNl k h) hb2.size))
 have HP:=hid hP
 have HR:=hid hr
 have HCL:=hid CL
 have HC23:=hid c23
 have HFp:=hid hF
 have HN:=hid hN
 have HNl:=hid hNl
 have HVV:=hid hVV
 have HNo:=hid hNo
 have H1:=hid h1
 have HSM:=hid hsm
 have HR0:=hid hR0
 have HNE:Hid (nb≠pb∧pb<w.heap.size∧nb<w.heap.size∧W1.heap.size=w.heap.size+1∧W1.heap.size<W2.heap.size∧w.heap.size≤W2.heap.size):=hid ⟨hne,hP.lt,hB.lt,hz1,xM.lt,hb2.size⟩
 have HB2:=hid (hB.ext hb2)
 have HX2:=hid xP
 have HM2:=hid xM
 have HW2:=hid hb2
 clear hB hN c23 hP hr hVa hC hne hF hNl hVV hNo h1 hsm hR0 CL hb1 hb12 hb2 xP xM hz1
 go_enter Tryz.func156,Tryz.ntmps156
 go_upto_region 1 with fail
 try rw [hW2]
 clear hW1 hW2
 go_wp2_with fail
 refine CV.out.mono ?_
 rintro e w2 ⟨B',rfl,hcr,hb2⟩
 have HB3:=hid (HB2.out.ext hb2)
 have HX3:=hid (HX2.out.ext hb2)
 have HM3:Hid (Zr w2 W1.heap.size Zu (Xd 1 1 x y)):=hid (HM2.out.ext hb2 HM2.out.lt)
 have HW3:=hid (HW2.out.trans (hb2.mono HW2.out.size))
 have HCR3:=hid hcr
 have HZ3:=hid hb2.size
 clear e23 CV HB2 HX2 HM2 HW2 hcr
 rw [show Yd B' C=#[.int .i64 C.kind,.int .u16 C.fr.1,.int .u32 C.fr.2,.int .u64 C.num,.int .u64 C.vw,.slice B'.da C.data.length B'.dc,.int .u64 C.v.id,.slice B'.am C.v.ms.length B'.cm,.slice B'.al C.v.ls.length B'.cl,.slice B'.ad C.v.ds.length B'.cd] from rfl]
 go_upto_region 2 with fail
 obtain ⟨w3,hw3⟩:∃z,w2.alloc (.cells #[.int .i64 C.kind,.int .u16 C.fr.1,.int .u32 C.fr.2,.int .u64 C.num,.int .u64 C.vw,.slice B'.da C.data.length B'.dc,.int .u64 C.v.id,.slice B'.am C.v.ms.length B'.cm,.slice B'.al C.v.ls.length B'.cl,.slice B'.ad C.v.ds.length B'.cd] 126)=z:=⟨_,rfl⟩
 have hb3:Below w2.heap.size w2 w3:=by rw [←hw3];exact bra
 have hx3:Xe w3 w2.heap.size (Yd B' C).toList:=by rw [←hw3];exact Xe.made (Yd B' C).toList w2 _
 try rw [hw3]
 have HB4:=hid (HB3.out.ext hb3)
 have HX4:=hid (HX3.out.ext hb3)
 have HM4:Hid (Zr w3 W1.heap.size Zu (Xd 1 1 x y)):=hid (HM3.out.ext hb3 HM3.out.lt)
 have HW4:=hid (HW3.out.trans (hb3.mono HW3.out.size))
 have HCR4:=hid (HCR3.out.ext hb3)
 have HOC:=hid hx3
 have HZ4:Hid (W2.heap.size≤w2.heap.size∧w2.heap.size<w3.heap.size):=hid ⟨HZ3.out,hx3.lt (by simp [Yd,Gp])⟩
 have e23:=HB4.out.cell HC23.out
 have CS:=hid (Kl (HP.out.ext HW4.out))
 clear HB3 HX3 HM3 HW3 hb3 hw3 hx3 HCR3 hb2
 go_wp2_with fail
 refine CS.out.mono ?_
 rintro e w9 ⟨rfl,rfl⟩
 rename World=>w3
 have HS:Hid (∀W,Mut (λk=>k=pb∨w3.heap.size≤k) w3 W→W.cell? ⟨nb,23,none⟩=some (.pointer (some ⟨pb,0,none⟩))∧W.cell? ⟨w.heap.size,0,none⟩=some (.int .u16 x)∧W.cell? ⟨w.heap.size,1,none⟩=some (.int .u32 y)∧Zr W W1.heap.size Zu (Xd 1 1 x y)):=hid λW hm=>⟨(hm.cell (p:=⟨nb,23,none⟩) HB4.out.lt (λe=>by have:=HNE.out;have:=HB4.out.lt;rcases e with e | e <;> simp only at e <;> omega)).trans (HB4.out.cell HC23.out),(hm.cell (p:=⟨w.heap.size,0,none⟩) HX4.out.lt (λe=>by have:=HNE.out;have:=HX4.out.lt;rcases e with e | e <;> simp only at e <;> omega)).trans (HX4.out.cell (j:=0) rfl),(hm.cell (p:=⟨w.heap.size,1,none⟩) HX4.out.lt (λe=>by have:=HNE.out;have:=HX4.out.lt;rcases e with e | e <;> simp only at e <;> omega)).trans (HX4.out.cell (j:=1) rfl),λj v hv=>(hm.cell (p:=⟨W1.heap.size,0+j,none⟩) HM4.out.lt (λe=>by have:=HNE.out;have:=HM4.out.lt;rcases e with e | e <;> simp only at e <;> omega)).trans (HM4.out j v hv)⟩
 have CN:Hid (∀W,Below w3.heap.size w3 W→Calls Tryz.prog 247 #[.pointer (some ⟨pb,0,none⟩),.agg (ML Zu (Xd 1 1 x y)).toArray] W λe w'=>e=.returned (.bool false)∧Below w3.heap.size w3 w'):=hid λW hb=>(n1Nack (kind:=7) (HP.out.ext (HW4.out.trans (hb.mono HW4.out.size))) (by decide) rfl (by decide)).mono λe w' ⟨h1,h2⟩=>⟨h1,hb.trans (h2.mono hb.size)⟩
 have CP:Hid (∀W,Below w3.heap.size w3 W→Calls Tryz.prog 248 #[.pointer (some ⟨pb,0,none⟩),.agg #[.int .u16 x,.int .u32 y],.agg (ML Zu (Xd 1 1 x y)).toArray] W λe w'=>e=.returned (.bool false)∧Below w3.heap.size w3 w'):=hid λW hb=>(zcF (HP.out.ext (HW4.out.trans (hb.mono HW4.out.size))) (by decide)).mono λe w' ⟨h1,h2⟩=>⟨h1,hb.trans (h2.mono hb.size)⟩
 have CX:Hid (∀W,Below w3.heap.size w3 W→Calls Tryz.prog 249 #[.pointer (some ⟨pb,0,none⟩),.agg #[.int .u16 x,.int .u32 y],.agg (ML Zu (Xd 1 1 x y)).toArray] W λe w'=>e=.returned (.bool true)∧Mut (λk=>k=pb∨w3.heap.size≤k) w3 w'∧Zc w' pb 255 (prC x y s0 s1 s2 2 (.slice la 1 lc) 2 1 x y (.pointer none) 1 0)):=hid λW hb=>(zcO (sl:=1) (HP.out.ext (HW4.out.trans (hb.mono HW4.out.size))) (HR.out.ext (HW4.out.trans (hb.mono HW4.out.size))) rfl rfl ⟨rfl,rfl⟩ (by decide)).mono λe w' ⟨h1,h2,h3⟩=>⟨h1,((Mut.of_below hb).mono λk _ e=>.inr e).trans (h2.mono λk _ e=>e.imp id (Nat.le_trans hb.size)),h3⟩
 clear e23 CS
 go_upto_region 3 with fail
 refine rhd HS.out ((Mut.of_below (Below.refl _ _).drew).mono λk _ e=>.inr e) λhHeld=>?_
 refine tkv 0 (.pointer (some ⟨nb,0,none⟩)) rfl ?_
 refine tkv 1 (.pointer (some ⟨nb,0,none⟩)) rfl ?_
 refine tkv 2 (.pointer (some ⟨nb,23,none⟩)) rfl ?_
 refine tkv 3 (.pointer (some ⟨pb,0,none⟩)) rfl ?_
 refine tkT 4 (.agg (ML Zu (Xd 1 1 x y)).toArray) rfl ((yieldsIf_load_mid (by rfl) 128 _ rfl W1.heap.size 0 rfl (ML Zu (Xd 1 1 x y)) _ (λW h=>h.2.2.2) Tryz.underlying128 rfl (KJ _ _))) ?_
 try simp only [lay]
 refine rd1 5 rfl λK hK=>?_
 go_simp
 refine (CN.out _ (Below.refl _ _).drew).mono ?_
 rintro e w6 ⟨rfl,hb6⟩
 refine hK.out _ _ (HS.out _ ((Mut.of_below hb6).mono λk _ e=>.inr e)) (λhHeld=>?_)
 clear hK K
 try simp only [lay]
 refine rd1 6 rfl λK hK=>?_
 go_simp
 refine hK.out _ _ (HS.out _ ((Mut.of_below hb6).mono λk _ e=>.inr e)) (λhHeld=>?_)
 clear hK K
 try simp only [lay]
 refine dn ?_
 go_upto_region 4 with fail
 refine rhd HS.out ((Mut.of_below hb6.drew).mono λk _ e=>.inr e) λhHeld=>?_
 refine tkv 0 (.pointer (some ⟨nb,0,none⟩)) rfl ?_
 refine tkv 1 (.pointer (some ⟨nb,0,none⟩)) rfl ?_
 refine tkv 2 (.pointer (some ⟨nb,23,none⟩)) rfl ?_
 refine tkv 3 (.pointer (some ⟨pb,0,none⟩)) rfl ?_
 refine tkv 4 (.agg #[.int .u16 x,.int .u32 y]) rfl ?_
 refine tkT 5 (.agg (ML Zu (Xd 1 1 x y)).toArray) rfl ((yieldsIf_load_mid (by rfl) 128 _ rfl W1.heap.size 0 rfl (ML Zu (Xd 1 1 x y)) _ (λW h=>h.2.2.2) Tryz.underlying128 rfl (KJ _ _))) ?_
 try simp only [lay]
 refine rd1 6 rfl λK hK=>?_
 go_simp
 refine (CP.out _ hb6.drew).mono ?_
 rintro e w7 ⟨rfl,hb7⟩
 refine hK.out _ _ (HS.out _ ((Mut.of_below hb7).mono λk _ e=>.inr e)) (λhHeld=>?_)
 clear hK K
 try simp only [lay]
 refine rd1 7 rfl λK hK=>?_
 go_simp
 refine hK.out _ _ (HS.out _ ((Mut.of_below hb7).mono λk _ e=>.inr e)) (λhHeld=>?_)
 clear hK K
 try simp only [lay]
 refine dn ?_
 go_upto_region 6 with fail
 refine rhd HS.out ((Mut.of_below hb7.drew).mono λk _ e=>.inr e) λhHeld=>?_
 refine tkv 0 (.pointer (some ⟨nb,0,none⟩)) rfl ?_
 refine tkv 1 (.pointer (some ⟨nb,0,none⟩)) rfl ?_
 refine tkv 2 (.pointer (some ⟨nb,23,none⟩)) rfl ?_
 refine tkv 3 (.pointer (some ⟨pb,0,none⟩)) rfl ?_
 refine tkv 4 (.agg #[.int .u16 x,.int .u32 y]) rfl ?_
 refine tkT 5 (.agg (ML Zu (Xd 1 1 x y)).toArray) rfl ((yieldsIf_load_mid (by rfl) 128 _ rfl W1.heap.size 0 rfl (ML Zu (Xd 1 1 x y)) _ (λW h=>h.2.2.2) Tryz.underlying128 rfl (KJ _ _))) ?_
 try simp only [lay]
 refine rd1 6 rfl λK hK=>?_
 go_simp
 refine (CX.out _ hb7.drew).mono ?_
 rintro e w8 ⟨rfl,hm8,hx8⟩
 have HM8:Hid (Mut (λk=>k=pb∨w3.heap.size≤k) w3 w8):=hid hm8
 have HX8:=hid hx8
 clear hm8 hx8
 refine hK.out _ _ (HS.out _ HM8.out) (λhHeld=>?_)
 clear hK K
 try simp only [lay]
 refine rd1 7 rfl λK hK=>?_
 go_simp
 refine hK.out _ _ (HS.out _ HM8.out) (λhHeld=>?_)
 clear hK K
 try simp only [lay]
 refine dn ?_
 have HM9:Hid (Mut (λk=>k=pb∨w.heap.size≤k) w w8):=hid (((Mut.of_below HW4.out).mono λk _ e=>.inr e).trans (HM8.out.mono λk _ e=>e.imp id (Nat.le_trans HW4.out.size)))
 have HB8:=hid (HB4.out.mut HM8.out (λe=>by have:=HNE.out;have:=HB4.out.lt;rcases e with e | e <;> omega))
 have HCR8:=hid (HCR4.out.mut HM8.out (λk e=>by
  rcases e with e | e
  ·exact .inl (by rw [e];exact HFp.out)
  ·exact .inr e))
 have HOC8:=hid (HOC.out.mut (by simp [Yd,Gp]) HM8.out (λe=>by have:=HNE.out;have:=HZ4.out;rcases e with e | e <;> omega))
 have HVV8:=hid (HVV.out.m (HM9.out.mono λk _ e=>by
  rcases e with e | e
  ·exact .inl ((HNo.out k).1 (by rw [e];exact HFp.out))
  ·exact .inr e))
 have HZ8:=hid HM8.out.size
 clear hb6 hb7 HB4 HX4 HM4 HCR4 HOC HS CN CP CX HM8
 have HS7:Hid (∀W,Below w8.heap.size w8 W→W.cell? ⟨nb,0,none⟩=some (.int .u16 x)∧W.cell? ⟨nb,1,none⟩=some (.int .u32 y)∧W.cell? ⟨nb,9,none⟩=some (.int .u64 i)∧W.cell? ⟨nb,10,none⟩=some (.slice A.am 1 A.cm)∧W.cell? ⟨nb,11,none⟩=some (.slice A.al 1 A.cl)∧W.cell? ⟨nb,12,none⟩=some (.slice A.ad 1 A.cd)∧W.cell? ⟨nb,25,none⟩=some (.int .u32 0)∧W.cell? ⟨nb,26,none⟩=some (.int .u32 0)∧W.cell? ⟨nb,27,none⟩=some (.int .u32 0)∧W.cell? ⟨nb,28,none⟩=some (.int .u32 0)∧W.cell? ⟨nb,29,none⟩=some (.int .u32 0)∧W.cell? ⟨nb,30,none⟩=some (.int .u32 0)∧W.cell? ⟨nb,31,none⟩=some (.int .u32 0)∧W.cell? ⟨nb,32,none⟩=some (.int .u32 0)∧W.cell? ⟨nb,33,none⟩=some (.int .u32 0)∧W.cell? ⟨nb,34,none⟩=some (.int .u32 0)∧W.cell? ⟨nb,35,none⟩=some (.int .u32 0)∧W.cell? ⟨nb,36,none⟩=some (.int .u32 0)∧W.cell? ⟨nb,37,none⟩=some (.int .u32 0)∧W.cell? ⟨nb,38,none⟩=some (.int .u32 0)∧W.cell? ⟨nb,39,none⟩=some (.int .u32 0)∧W.cell? ⟨nb,40,none⟩=some (.int .u32 0)):=hid λW hb=>⟨(HB8.out.ext hb).cell HN.out.c0,(HB8.out.ext hb).cell HN.out.c1,(HB8.out.ext hb).cell HN.out.c9,(HB8.out.ext hb).cell HN.out.c10,(HB8.out.ext hb).cell HN.out.c11,(HB8.out.ext hb).cell HN.out.c12,(HB8.out.ext hb).cell (HN.out.ru 0 (by decide)),(HB8.out.ext hb).cell (HN.out.ru 1 (by decide)),(HB8.out.ext hb).cell (HN.out.ru 2 (by decide)),(HB8.out.ext hb).cell (HN.out.ru 3 (by decide)),(HB8.out.ext hb).cell (HN.out.ru 4 (by decide)),(HB8.out.ext hb).cell (HN.out.ru 5 (by decide)),(HB8.out.ext hb).cell (HN.out.ru 6 (by decide)),(HB8.out.ext hb).cell (HN.out.ru 7 (by decide)),(HB8.out.ext hb).cell (HN.out.ru 8 (by decide)),(HB8.out.ext hb).cell (HN.out.ru 9 (by decide)),(HB8.out.ext hb).cell (HN.out.ru 10 (by decide)),(HB8.out.ext hb).cell (HN.out.ru 11 (by decide)),(HB8.out.ext hb).cell (HN.out.ru 12 (by decide)),(HB8.out.ext hb).cell (HN.out.ru 13 (by decide)),(HB8.out.ext hb).cell (HN.out.ru 14 (by decide)),(HB8.out.ext hb).cell (HN.out.ru 15 (by decide))⟩
 have hdn:Gj V (Zv λ_=>0) (x,y)=[]:=by unfold Gj ZY;rw [H1.out.ms];simp
 have CDN:Hid (∀W,Below w8.heap.size w8 W→Calls Tryz.prog 250 #[.agg #[.int .u64 i,.slice A.am 1 A.cm,.slice A.al 1 A.cl,.slice A.ad 1 A.cd],.agg #[.int .u32 0,.int .u32 0,.int .u32 0,.int .u32 0,.int .u32 0,.int .u32 0,.int .u32 0,.int .u32 0,.int .u32 0,.int .u32 0,.int .u32 0,.int .u32 0,.int .u32 0,.int .u32 0,.int .u32 0,.int .u32 0],.agg #[.int .u16 x,.int .u32 y]] W λe w'=>∃da dc,e=.returned (.slice da 0 dc)∧Zb w' da []∧Below w8.heap.size w8 w'):=hid λW hb=>by
  have h:=down_any (λ_=>0) V A.am A.al A.ad A.cm A.cl A.cd x y W (HVV8.out.now.ext hb) HSM.out
  rw [hdn] at h
  have e:YM V A.am A.al A.ad A.cm A.cl A.cd=.agg #[.int .u64 i,.slice A.am 1 A.cm,.slice A.al 1 A.cl,.slice A.ad 1 A.cd]:=by unfold YM;rw [H1.out.id,H1.out.ms,H1.out.ls,H1.out.ds];rfl
  rw [e] at h
  refine Calls.mono h λe w' ⟨v,h1,h2,h3⟩=>?_
  obtain ⟨a,c,rfl,hr⟩:=Xm h2
  exact ⟨a,c,h1,hr,hb.trans (h3.mono hb.size)⟩
 have CCT:Hid (∀(q:Nat) (da:Option Addr) (dc:Nat) (W:World),Below w8.heap.size w8 W→W.cell? ⟨q,0,none⟩=some (.slice A.ad 1 A.cd)→W.cell? ⟨q,1,none⟩=some (.slice da 0 dc)→Zb W da []→Calls Tryz.prog 161 #[.slice (some ⟨q,0,none⟩) 2 2] W λe w'=>∃ca cc,e=.returned (.slice ca 1 cc)∧Zb w' ca [(x,y)]∧Below w8.heap.size w8 w'):=hid λq da dc W hb h0 h1 h2=>by
  have hd:=(HVV8.out.now.ext hb).ds
  rw [H1.out.ds] at hd
  refine (zaI (SN:=1) (C:=0) (stay:=[(x,y)]) (come:=[]) (ms:=[(x,y)]) (hid rfl) (hid rfl) (hid rfl) (by decide) (by decide) h0 h1 hd h2).mono λe w' ⟨v,h1,h2,h3⟩=>?_
  obtain ⟨a,c,rfl,hr,-⟩:=h2.row
  exact ⟨a,c,h1,hr,hb.trans (h3.mono hb.size)⟩
 have CCM:Hid (∀(ca:Option Addr) (cc:Nat) (W:World),Below w8.heap.size w8 W→Zb W ca [(x,y)]→Calls Tryz.prog 131 #[.slice A.am 1 A.cm,.slice ca 1 cc] W λe w'=>∃ka kc,e=.returned (.slice ka 1 kc)∧Zb w' ka [(x,y)]∧Below w8.heap.size w8 w'):=hid λca cc W hb h0=>by
  have hd:=(HVV8.out.now.ext hb).ms
  rw [H1.out.ms] at hd
  have he:ZA [(x,y)] [(x,y)]=[(x,y)]:=by simp [ZA]
  have h:=Vv A.am A.cm [(x,y)] ca cc [(x,y)] W (by simp) (by simp) hd h0
  rw [he] at h
  refine Calls.mono h λe w' ⟨v,h1,h2,h3⟩=>?_
  obtain ⟨a,c,rfl,hr,-⟩:=h2.row
  exact ⟨a,c,h1,hr,hb.trans (h3.mono hb.size)⟩
 have CMI:Hid (∀(ka:Option Addr) (kc q:Nat) (W:World),Below w8.heap.size w8 W→Zb W ka [(x,y)]→Zb W (some ⟨q,0,none⟩) [(x,y)]→Calls Tryz.prog 181 #[.slice ka 1 kc,.slice (some ⟨q,0,none⟩) 1 1] W λe w'=>∃ea ec,e=.returned (.slice ea 0 ec)∧Below w8.heap.size w8 w'):=hid λka kc q W hb h0 h1=>by
  have he:XZ [(x,y)] [(x,y)]=[]:=by simp [XZ]
  have h:=Qz ka kc [(x,y)] (some ⟨q,0,none⟩) 1 [(x,y)] W (by simp) (by simp) h0 h1
  rw [he] at h
  refine Calls.mono h λe w' ⟨v,h1,h2,h3⟩=>?_
  obtain ⟨a,c,rfl,hr⟩:=Xm h2
  exact ⟨a,c,h1,hb.trans (h3.mono hb.size)⟩
 have CAL:Hid (∀(W:World) (ea:Option Addr) (ec:Nat),Below w8.heap.size w8 W→Calls Tryz.prog 100 #[.pointer (some ⟨nb,0,none⟩),.agg #[.int .i64 2,.int .u16 0,.int .u32 0,.int .u64 0,.int .u64 1,.int .u64 0,.int .i64 0,.int .u32 0,.int .u16 0,.int .u32 0,.int .u32 0,.int .u16 0,.int .u32 0,.bool false,.int .i64 C.kind,.int .u16 C.fr.1,.int .u32 C.fr.2,.int .u64 C.num,.int .u64 C.vw,.slice B'.da C.data.length B'.dc,.int .u64 C.v.id,.slice B'.am C.v.ms.length B'.cm,.slice B'.al C.v.ls.length B'.cl,.slice B'.ad C.v.ds.length B'.cd,.int .u64 0,.slice none 0 0,.slice none 0 0,.slice none 0 0,.slice none 0 0],.slice ea 0 ec] W λe w'=>e=.returned (.tuple #[])∧Below w8.heap.size w8 w'):=hid λW ea ec hb=>by
  have h:=nAll0 (w:=W) (nb:=nb) (a:=ea) (c:=ec) (M:=mA B') (m:=chosM 1 0 C)
  rw [chos0L] at h
  exact Calls.mono h λe w' ⟨h1,h2⟩=>⟨h1,hb.trans (h2.mono hb.size)⟩
 have CLE:Hid (∀W,Below w8.heap.size w8 W→Calls Tryz.prog 151 #[.pointer (some ⟨nb,0,none⟩),.agg #[.int .u16 x,.int .u32 y],.int .u64 1,.agg (Yd B' C),.int .i64 4] W λe w'=>ZC N R w8 e w'):=hid λW hb=>(HCL.out W B' (HM9.out.trans ((Mut.of_below hb).mono λk _ e=>.inr (Nat.le_trans HM9.out.size e))) (HX8.out.ext hb) (HCR8.out.ext hb)).mono λe w' h=>ZC.lift hb h
 have HS8:Hid (∀W,Below w8.heap.size w8 W→W.cell? ⟨nb,0,none⟩=some (.int .u16 x)∧W.cell? ⟨nb,1,none⟩=some (.int .u32 y)∧W.rangeAt w2.heap.size 0 (Yd B' C).toList):=hid λW hb=>⟨(HB8.out.ext hb).cell HN.out.c0,(HB8.out.ext hb).cell HN.out.c1,(HOC8.out.ext hb (HOC8.out.lt (by simp [Yd,Gp]))).r⟩
 have HSE:Hid (∀W,Mut (λk=>N k∨w8.heap.size≤k) w8 W→W.rangeAt w2.heap.size 0 (Yd B' C).toList):=hid λW hm=>(HOC8.out.mut (by simp [Yd,Gp]) hm (λe=>by
  have h1:=HNE.out;have h2:=HZ4.out;have h3:=HZ8.out
  rcases e with e | e
  ·have:=HNl.out _ e;omega
  ·omega)).r
 clear HB8 HCR8 HOC8 HVV8 HX8 hdn HVV HCL HP HR
 go_upto_region 7 with fail
 refine rhd HS7.out ((Below.refl _ _).drew) λhHeld=>?_
 refine tkv 0 (.pointer (some ⟨nb,0,none⟩)) rfl ?_
 refine tkv 1 (.pointer (some ⟨nb,0,none⟩)) rfl ?_
 refine tkv 2 (.pointer (some ⟨nb,9,none⟩)) rfl ?_
 refine tkv 3 (.pointer (some ⟨nb,9,none⟩)) rfl ?_
 refine tkv 4 (.pointer (some ⟨nb,10,none⟩)) rfl ?_
 refine tkv 5 (.slice A.am 1 A.cm) rfl ?_
 refine tkv 6 (.pointer (some ⟨nb,0,none⟩)) rfl ?_
 refine tkv 7 (.pointer (some ⟨nb,0,none⟩)) rfl ?_
 refine tkv 8 (.pointer (some ⟨nb,9,none⟩)) rfl ?_
 refine tkv 9 (.pointer (some ⟨nb,9,none⟩)) rfl ?_
 refine tkv 10 (.pointer (some ⟨nb,12,none⟩)) rfl ?_
 refine tkv 11 (.slice A.ad 1 A.cd) rfl ?_
 refine tkv 12 (.pointer (some ⟨nb,0,none⟩)) rfl ?_
 refine tkv 13 (.pointer (some ⟨nb,0,none⟩)) rfl ?_
 refine tkv 14 (.pointer (some ⟨nb,9,none⟩)) rfl ?_
 refine tkv 15 (.pointer (some ⟨nb,9,none⟩)) rfl ?_
 refine tkv 16 (.agg #[.int .u64 i,.slice A.am 1 A.cm,.slice A.al 1 A.cl,.slice A.ad 1 A.cd]) rfl ?_
 refine tkv 17 (.pointer (some ⟨nb,0,none⟩)) rfl ?_
 refine tkv 18 (.pointer (some ⟨nb,0,none⟩)) rfl ?_
 refine tkv 19 (.pointer (some ⟨nb,25,none⟩)) rfl ?_
 refine tkv 20 (.agg #[.int .u32 0,.int .u32 0,.int .u32 0,.int .u32 0,.int .u32 0,.int .u32 0,.int .u32 0,.int .u32 0,.int .u32 0,.int .u32 0,.int .u32 0,.int .u32 0,.int .u32 0,.int .u32 0,.int .u32 0,.int .u32 0]) rfl ?_
 refine tkv 21 (.pointer (some ⟨nb,0,none⟩)) rfl ?_
 refine tkv 22 (.pointer (some ⟨nb,0,none⟩)) rfl ?_
 refine tkv 23 (.pointer (some ⟨nb,0,none⟩)) rfl ?_
 refine tkv 24 (.agg #[.int .u16 x,.int .u32 y]) rfl ?_
 refine rd1 25 rfl λK hK=>?_
 go_simp
 refine (CDN.out _ (Below.refl _ _).drew).mono ?_
 rintro e w9 ⟨da,dc,rfl,hrd,hb9⟩
 refine hK.out _ _ (HS7.out _ hb9) (λhHeld=>?_)
 clear hK K
 try simp only [lay]
 refine rd1 26 rfl λK hK=>?_
 go_simp
 obtain ⟨w10,hw10⟩:∃z,w9.alloc (.cells #[.slice A.ad 1 A.cd,.slice da 0 dc] 26)=z:=⟨_,rfl⟩
 have hx10:Zc w10 w9.heap.size 26 [.slice A.ad 1 A.cd,.slice da 0 dc]:=by rw [←hw10];exact Zc.made _ _ _
 have hb910:Below w9.heap.size w9 w10:=by rw [←hw10];exact bra
 have hb10:=hb9.trans (hb910.mono hb9.size)
 rw [hw10]
 have hrd:=hrd.ext hb910
 clear hw10
 refine hK.out _ _ (HS7.out _ hb10) (λhHeld=>?_)
 clear hK K
 try simp only [lay]
 refine rd1 27 rfl λK hK=>?_
 go_simp
 refine (CCT.out w9.heap.size da dc w10 hb10 (hx10.cell (j:=0) rfl) (hx10.cell (j:=1) rfl) hrd).mono ?_
 rintro e w11 ⟨ca,cc,rfl,hrc,hb11⟩
 clear hx10 hb910 hrd
 refine hK.out _ _ (HS7.out _ hb11) (λhHeld=>?_)
 clear hK K
 try simp only [lay]
 refine rd1 28 rfl λK hK=>?_
 go_simp
 refine (CCM.out ca cc w11 hb11 hrc).mono ?_
 rintro e w12 ⟨ka,kc,rfl,hrk,hb12⟩
 clear hrc
 refine hK.out _ _ (HS7.out _ hb12) (λhHeld=>?_)
 clear hK K
 try simp only [lay]
 refine rd1 29 rfl λK hK=>?_
 go_simp
 refine hK.out _ _ (HS7.out _ hb12) (λhHeld=>?_)
 clear hK K
 try simp only [lay]
 refine dn ?_
 clear HS7 CDN CCT CCM
 go_upto_region 8 with fail
 refine rhd HS8.out (hb12.drew) λhHeld=>?_
 refine tkv 0 (.pointer (some ⟨nb,0,none⟩)) rfl ?_
 refine tkv 1 (.int .u64 1) rfl ?_
 refine tkT 2 (.agg #[.int .i64 C.kind,.int .u16 C.fr.1,.int .u32 C.fr.2,.int .u64 C.num,.int .u64 C.vw,.slice B'.da C.data.length B'.dc,.int .u64 C.v.id,.slice B'.am C.v.ms.length B'.cm,.slice B'.al C.v.ls.length B'.cl,.slice B'.ad C.v.ds.length B'.cd]) rfl ((yieldsIf_load_mid (by rfl) 126 _ rfl w2.heap.size 0 rfl (Yd B' C).toList _ (λW h=>h.2.2) Tryz.underlying126 rfl Gv)) ?_
 try simp only [lay]
 refine tkv 3 (.agg #[.int .i64 2,.int .u16 0,.int .u32 0,.int .u64 0,.int .u64 1,.int .u64 0,.int .i64 0,.int .u32 0,.int .u16 0,.int .u32 0,.int .u32 0,.int .u16 0,.int .u32 0,.bool false,.int .i64 C.kind,.int .u16 C.fr.1,.int .u32 C.fr.2,.int .u64 C.num,.int .u64 C.vw,.slice B'.da C.data.length B'.dc,.int .u64 C.v.id,.slice B'.am C.v.ms.length B'.cm,.slice B'.al C.v.ls.length B'.cl,.slice B'.ad C.v.ds.length B'.cd,.int .u64 0,.slice none 0 0,.slice none 0 0,.slice none 0 0,.slice none 0 0]) rfl ?_
 refine tkv 4 (.slice ka 1 kc) rfl ?_
 refine tkv 5 (.pointer (some ⟨nb,0,none⟩)) rfl ?_
 refine tkv 6 (.pointer (some ⟨nb,0,none⟩)) rfl ?_
 refine tkv 7 (.pointer (some ⟨nb,0,none⟩)) rfl ?_
 refine tkv 8 (.agg #[.int .u16 x,.int .u32 y]) rfl ?_
 refine rd1 9 rfl λK hK=>?_
 go_simp
 obtain ⟨w13,hw13⟩:∃z,(w12.alloc (.cells #[.int .u16 x,.int .u32 y] 25)).drew=z:=⟨_,rfl⟩
 have hr13:Zb w13 (some ⟨w12.heap.size,0,none⟩) [(x,y)]:=by rw [←hw13];exact (Zb.one w12 x y).ext (Below.refl _ _).drew
 have hb123:Below w12.heap.size w12 w13:=by rw [←hw13];exact (bra).drew
 have hb13:=hb12.trans (hb123.mono hb12.size)
 try rw [hw13]
 have hrk:=hrk.ext hb123
 clear hw13 hb123
 refine hK.out _ _ (HS8.out _ hb13) (λhHeld=>?_)
 clear hK K
 try simp only [lay]
 refine rd1 10 rfl λK hK=>?_
 go_simp
 refine (CMI.out ka kc w12.heap.size w13 hb13 hrk hr13).mono ?_
 rintro e w14 ⟨ea,ec,rfl,hb14⟩
 clear hrk hr13
 refine hK.out _ _ (HS8.out _ hb14) (λhHeld=>?_)
 clear hK K
 try simp only [lay]
 refine rd1 11 rfl λK hK=>?_
 go_simp
 refine (CAL.out w14 ea ec hb14).mono ?_
 rintro e w15 ⟨rfl,hb15⟩
 refine hK.out _ _ (HS8.out _ hb15) (λhHeld=>?_)
 clear hK K
 try simp only [lay]
 refine dn ?_
 clear CMI CAL
 go_upto_region 9 with fail
 refine rhd HS8.out (hb15.drew) λhHeld=>?_
 refine tkv 0 (.pointer (some ⟨nb,0,none⟩)) rfl ?_
 refine tkv 1 (.pointer (some ⟨nb,0,none⟩)) rfl ?_
 refine tkv 2 (.pointer (some ⟨nb,0,none⟩)) rfl ?_
 refine tkv 3 (.pointer (some ⟨nb,0,none⟩)) rfl ?_
 refine tkv 4 (.agg #[.int .u16 x,.int .u32 y]) rfl ?_
 refine tkv 5 (.int .u64 1) rfl ?_
 refine tkT 6 (.agg (Yd B' C)) rfl ((yieldsIf_load_mid (by rfl) 126 _ rfl w2.heap.size 0 rfl (Yd B' C).toList _ (λW h=>h.2.2) Tryz.underlying126 rfl Gv)) ?_
 try simp only [lay]
 refine rd1 7 rfl λK hK=>?_
 go_simp
 refine (CLE.out _ hb15.drew).mono ?_
 rintro e w16 ⟨rfl,hR⟩
 have HR:=hid hR
 refine hK.out _ _ (⟨(HR0.out _ hR.1).1,(HR0.out _ hR.1).2,HSE.out _ hR.2⟩) (λhHeld=>?_)
 clear hK K
 try simp only [lay]
 refine dn ?_
 have HRR:=hid (ZC.liftM (e:=.returned (.tuple #[])) (HM9.out.mono λk _ e=>by
  rcases e with e | e
  ·exact .inl (by rw [e];exact HFp.out)
  ·exact .inr e) ⟨rfl,HR.out⟩)
 clear hR
 go_wp2_with fail
 exact bodyPost_end (results_none rfl _ _ _) rfl HRR.out
end
end Go.Proofs.YtcdpaflmofljaaaGreat
