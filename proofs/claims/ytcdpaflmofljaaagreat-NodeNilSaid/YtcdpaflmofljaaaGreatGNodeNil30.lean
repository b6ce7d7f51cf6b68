import Derived.Test.YtcdpaflmofljaaaGreatGNodeNil29
/- Parts of the proof of NodeNil: MK MK1 MK2 MM MN MO MPA MPB MP0 MP1. -/
namespace Go.Proofs.YtcdpaflmofljaaaGreat
open Go.RowKit
def zbV (da:Option Addr) (dc:Nat):MA:={ Zu with ya:=da,yc:=dc }
def zbU (x y:Int) (i:Nat):Jr:={ Vi with kind:=1,who:=(x,y),vw:=i,num:=1,y:=[109] }
section
variable {w:World} {nb xb il iw i mc dc:Nat} {cs:List Value} {x y:Int} {A:VAd} {V:Zs} {ma da:Option Addr} {N:Nat→Prop} {R:World→Prop}
set_option maxRecDepth 100000 in
set_option maxHeartbeats 3200000 in
theorem nAscend (hB:Zc w nb 98 cs) (hN:N1 cs x y i A) (hV:Zt w A.am A.al A.ad V) (h1:V1 V x y i) (hf:Gb V) (c16:cs[16]?=some (.pointer (some ⟨xb,0,none⟩))) (hX:Zc w xb 199 (ibC i ma mc il iw 0)) (hr:Zb w ma [(x,y)]) (hl:Zj w il Yg n64 []) (hw:Zj w iw KQ sv []) (hd:Zg w da [109]) (hne:nb≠iw) (hNw:N iw)
  (CD:∀W qa qc,Mut (λk=>k=iw∨w.heap.size≤k) w W→Zc W nb 98 cs→Zj W iw KQ sv [((x,y,1),.slice qa 1 qc)]→Ys W w.heap.size (.slice qa 1 qc) [109]→Calls Tryz.prog 49 #[.pointer (some ⟨nb,0,none⟩),.bool false] W λe w'=>ZC N R W e w') :
  Calls Tryz.prog 150 #[.pointer (some ⟨nb,0,none⟩),.agg (ML (zbV da dc) (zbU x y i)).toArray] w λe w'=>ZC N R w e w':=by
 obtain ⟨W1,hW1⟩:∃W1,w.alloc (.cells (ML (zbV da dc) (zbU x y i)).toArray 128)=W1:=⟨_,rfl⟩
 have hb1:Below w.heap.size w W1:=by rw [←hW1];exact bra
 have xM:Zr W1 w.heap.size (zbV da dc) (zbU x y i):=by rw [←hW1];exact Zr.made _ _ _ _ _
 have CC:=hid (EV (hB.ext hb1) hN (hV.ext hb1) h1 hf)
 have HB:=hid (hB.ext hb1)
 have HN:=hid hN
 have HC16:=hid c16
 have HX:=hid (hX.ext hb1)
 have HR:=hid (hr.ext hb1)
 have HL:=hid (hl.ext hb1)
 have HW:=hid (hw.ext hb1)
 have HD:=hid (hd.ext hb1)
 have HNE:=hid hne
 have HNW:=hid hNw
 have HCD:=hid CD
 have HM1:=hid xM
 have HB1:=hid hb1
 have HLT:Hid (nb<w.heap.size∧iw<w.heap.size):=hid ⟨hB.lt,hw.lt⟩
 clear hB hN hV h1 hf c16 hX hr hl hw hd hne hNw CD hb1 xM
 go_enter Tryz.func150,Tryz.ntmps150
 go_upto_region 1 with fail
 try rw [hW1]
 clear hW1
 go_wp2_with fail
 refine CC.out.mono ?_
 rintro e w2 ⟨rfl,hb2⟩
 have HMB:Hid (Zr w2 w.heap.size (zbV da dc) (zbU x y i)):=hid (HM1.out.ext hb2 HM1.out.lt)
 have HB2:=hid (HB.out.ext hb2)
 have HW2:Hid (Below w.heap.size w w2):=hid (HB1.out.trans (hb2.mono HB1.out.size))
 have HZ:Hid (nb<w.heap.size∧iw<w.heap.size∧w.heap.size<w2.heap.size∧nb≠iw):=hid ⟨HLT.out.1,HLT.out.2,HMB.out.lt,HNE.out⟩
 have CPU:Hid (∀W,Below w2.heap.size w2 W→Calls Tryz.prog 236 #[.pointer (some ⟨xb,0,none⟩),.agg #[.int .u16 x,.int .u32 y],.int .u64 1,.slice da 1 dc] W λe w'=>∃qa qc,e=.returned (.int .i64 0)∧Mut (λk=>k=iw∨w2.heap.size≤k) w2 w'∧Zj w' iw KQ sv [((x,y,1),.slice qa 1 qc)]∧Ys w' w2.heap.size (.slice qa 1 qc) [109]):=hid λW hb=>by
  have hbb:=hb2.trans (hb.mono hb2.size)
  exact (xPut (n:=1) (bs:=[109]) (HX.out.ext hbb) (HR.out.ext hbb) (HL.out.ext hbb) (HW.out.ext hbb) rfl (by decide) (HD.out.ext hbb)).mono λe w' ⟨qa,qc,h1,h2,h3,h4⟩=>⟨qa,qc,h1,((Mut.of_below hb).mono λk _ e=>.inr e).trans (h2.mono λk _ e=>e.imp id (Nat.le_trans hb.size)),h3,h4.mono hb.size⟩
 have m0:=HMB.out.cell (j:=0) (v:=.int .i64 1) rfl
 clear CC
 go_upto_region 5 with fail
 clear m0
 have HS5:Hid (∀W,Below w2.heap.size w2 W→W.cell? ⟨w.heap.size,3,none⟩=some (.int .u64 i)∧W.cell? ⟨nb,9,none⟩=some (.int .u64 i)):=hid λW hb=>⟨(HMB.out.ext hb HMB.out.lt).cell (j:=3) rfl,(HB2.out.ext hb).cell HN.out.c9⟩
 refine rhd HS5.out ((Below.refl _ _).drew) λhHeld=>?_
 refine tkv 0 (.pointer (some ⟨w.heap.size,3,none⟩)) rfl ?_
 refine tkv 1 (.int .u64 i) rfl ?_
 refine tkv 2 (.pointer (some ⟨nb,0,none⟩)) rfl ?_
 refine tkv 3 (.pointer (some ⟨nb,0,none⟩)) rfl ?_
 refine tkv 4 (.pointer (some ⟨nb,9,none⟩)) rfl ?_
 refine tkv 5 (.pointer (some ⟨nb,9,none⟩)) rfl ?_
 refine tkv 6 (.pointer (some ⟨nb,9,none⟩)) rfl ?_
 refine tkv 7 (.int .u64 i) rfl ?_
 refine tkv 8 (.bool true) rfl ?_
 refine dn ?_
 go_upto_region 6 with fail
 have HS6:Hid (∀W,Mut (λk=>k=iw∨w2.heap.size≤k) w2 W→W.cell? ⟨nb,16,none⟩=some (.pointer (some ⟨xb,0,none⟩))∧W.cell? ⟨w.heap.size,1,none⟩=some (.int .u16 x)∧W.cell? ⟨w.heap.size,2,none⟩=some (.int .u32 y)∧W.cell? ⟨w.heap.size,5,none⟩=some (.int .u64 1)∧W.cell? ⟨w.heap.size,28,none⟩=some (.slice da 1 dc)):=hid λW hm=>⟨(hm.cell (p:=⟨nb,16,none⟩) HB2.out.lt (λe=>by have:=HZ.out;rcases e with e | e <;> simp only at e <;> omega)).trans (HB2.out.cell HC16.out),(hm.cell (p:=⟨w.heap.size,1,none⟩) HMB.out.lt (λe=>by have:=HZ.out;rcases e with e | e <;> simp only at e <;> omega)).trans (HMB.out.cell (j:=1) rfl),(hm.cell (p:=⟨w.heap.size,2,none⟩) HMB.out.lt (λe=>by have:=HZ.out;rcases e with e | e <;> simp only at e <;> omega)).trans (HMB.out.cell (j:=2) rfl),(hm.cell (p:=⟨w.heap.size,5,none⟩) HMB.out.lt (λe=>by have:=HZ.out;rcases e with e | e <;> simp only at e <;> omega)).trans (HMB.out.cell (j:=5) rfl),(hm.cell (p:=⟨w.heap.size,28,none⟩) HMB.out.lt (λe=>by have:=HZ.out;rcases e with e | e <;> simp only at e <;> omega)).trans (HMB.out.cell (j:=28) rfl)⟩
 refine rhd HS6.out ((Mut.of_below (Below.refl w2.heap.size w2).drew.drew).mono λk _ e=>.inr e) λhHeld=>?_
 refine tkv 0 (.pointer (some ⟨nb,0,none⟩)) rfl ?_
 refine tkv 1 (.pointer (some ⟨nb,0,none⟩)) rfl ?_
 refine tkv 2 (.pointer (some ⟨nb,9,none⟩)) rfl ?_
 refine tkv 3 (.pointer (some ⟨nb,16,none⟩)) rfl ?_
 refine tkv 4 (.pointer (some ⟨xb,0,none⟩)) rfl ?_
 refine tkv 5 (.pointer (some ⟨w.heap.size,1,none⟩)) rfl ?_
 refine tkv 6 (.agg #[.int .u16 x,.int .u32 y]) rfl ?_
 refine tkv 7 (.pointer (some ⟨w.heap.size,5,none⟩)) rfl ?_
 refine tkv 8 (.int .u64 1) rfl ?_
 refine tkv 9 (.pointer (some ⟨w.heap.size,28,none⟩)) rfl ?_
 refine tkv 10 (.slice da 1 dc) rfl ?_
 refine rd1 11 rfl λK hK=>?_
 go_simp
 refine (CPU.out _ (Below.refl w2.heap.size w2).drew.drew).mono ?_
 rintro e w3 ⟨qa,qc,rfl,hm3,hx3,ho3⟩
 have HM3:=hid hm3
 have HX3:=hid hx3
 have HO3:=hid ho3
 clear hm3 hx3 ho3
 refine hK.out _ _ (HS6.out _ HM3.out) (λhHeld=>?_)
 clear hK K
 try simp only [lay]
 refine dn ?_
 have HM4:Hid (Mut (λk=>k=iw∨w.heap.size≤k) w w3):=hid (((Mut.of_below HW2.out).mono λk _ e=>.inr e).trans (HM3.out.mono λk _ e=>e.imp id (Nat.le_trans HW2.out.size)))
 have CX:=hid (HCD.out w3 qa qc HM4.out (HB2.out.mut HM3.out (λe=>by have:=HZ.out;rcases e with e | e <;> omega)) HX3.out (HO3.out.mono HW2.out.size))
 clear HX3 HO3
 go_wp2_with fail
 refine CX.out.mono ?_
 rintro e w9 ⟨rfl,hR⟩
 have HRR:=hid (ZC.liftM (e:=.returned (.tuple #[])) (HM4.out.mono λk _ e=>by
  rcases e with e | e
  ·exact .inl (by rw [e];exact HNW.out)
  ·exact .inr e) ⟨rfl,hR⟩)
 clear hR CX
 go_wp2_with fail
 exact bodyPost_end (results_none rfl _ _ _) rfl HRR.out
end
section
variable {w:World} {nb i dc:Nat} {cs:List Value} {x y:Int} {A:VAd} {da:Option Addr} {N:Nat→Prop} {R:World→Prop}
set_option maxRecDepth 100000 in
set_option maxHeartbeats 3200000 in
theorem nSubmit (hB:Zc w nb 98 cs) (hN:N1 cs x y i A) (hNl:∀k,N k→k<w.heap.size) (hR0:∀W,R W→W.cell? ⟨nb,0,none⟩=some (.int .u16 x)∧W.cell? ⟨nb,1,none⟩=some (.int .u32 y))
  (CT:∀W,Below w.heap.size w W→Calls Tryz.prog 62 #[.pointer (some ⟨nb,0,none⟩),.agg #[.int .u16 x,.int .u32 y],.agg (ML (zbV da dc) (zbU x y i)).toArray] W λe w'=>ZC N R W e w') :
  Calls Tryz.prog 41 #[.pointer (some ⟨nb,0,none⟩),.agg #[.int .u64 1,.slice da 1 dc]] w λe w'=>ZC N R w e w':=by
 obtain ⟨W1,hW1⟩:∃W1,w.alloc (.cells #[.int .u64 1,.slice da 1 dc] 106)=W1:=⟨_,rfl⟩
 have hb1:Below w.heap.size w W1:=by rw [←hW1];exact bra
 have xI:Zc W1 w.heap.size 106 [.int .u64 1,.slice da 1 dc]:=by rw [←hW1];exact Zc.made _ _ _
 have HB:=hid (hB.ext hb1)
 have HI:=hid xI
 have HN:=hid hN
 have HNl:=hid hNl
 have HR0:=hid hR0
 have HCT:=hid CT
 have HB1:=hid hb1
 have HS1:Hid (∀W,Below W1.heap.size W1 W→W.cell? ⟨nb,0,none⟩=some (.int .u16 x)∧W.cell? ⟨nb,1,none⟩=some (.int .u32 y)∧W.cell? ⟨nb,9,none⟩=some (.int .u64 i)∧W.cell? ⟨w.heap.size,0,none⟩=some (.int .u64 1)∧W.cell? ⟨w.heap.size,1,none⟩=some (.slice da 1 dc)):=hid λW hb=>⟨(HB.out.ext hb).cell HN.out.c0,(HB.out.ext hb).cell HN.out.c1,(HB.out.ext hb).cell HN.out.c9,(HI.out.ext hb).cell (j:=0) rfl,(HI.out.ext hb).cell (j:=1) rfl⟩
 clear hB hN hNl hR0 CT hb1 xI
 go_enter Tryz.func41,Tryz.ntmps41
 go_upto_region 1 with fail
 try rw [hW1]
 clear hW1
 refine rhd HS1.out ((Below.refl _ _).drew) λhHeld=>?_
 refine tkv 0 (.pointer (some ⟨nb,0,none⟩)) rfl ?_
 refine tkv 1 (.pointer (some ⟨nb,0,none⟩)) rfl ?_
 refine tkv 2 (.pointer (some ⟨nb,0,none⟩)) rfl ?_
 refine tkv 3 (.agg #[.int .u16 x,.int .u32 y]) rfl ?_
 refine tkv 4 (.pointer (some ⟨nb,0,none⟩)) rfl ?_
 refine tkv 5 (.pointer (some ⟨nb,0,none⟩)) rfl ?_
 refine tkv 6 (.pointer (some ⟨nb,9,none⟩)) rfl ?_
 refine tkv 7 (.pointer (some ⟨nb,9,none⟩)) rfl ?_
 refine tkv 8 (.pointer (some ⟨nb,9,none⟩)) rfl ?_
 refine tkv 9 (.int .u64 i) rfl ?_
 refine tkv 10 (.pointer (some ⟨w.heap.size,0,none⟩)) rfl ?_
 refine tkv 11 (.int .u64 1) rfl ?_
 refine tkv 12 (.pointer (some ⟨w.heap.size,1,none⟩)) rfl ?_
 refine tkv 13 (.slice da 1 dc) rfl ?_
 refine tkv 14 (.agg #[.int .i64 1,.int .u16 x,.int .u32 y,.int .u64 i,.int .u64 0,.int .u64 1,.int .i64 0,.int .u32 0,.int .u16 0,.int .u32 0,.int .u32 0,.int .u16 0,.int .u32 0,.bool false,.int .i64 0,.int .u16 0,.int .u32 0,.int .u64 0,.int .u64 0,.slice none 0 0,.int .u64 0,.slice none 0 0,.slice none 0 0,.slice none 0 0,.int .u64 0,.slice none 0 0,.slice none 0 0,.slice none 0 0,.slice da 1 dc]) rfl ?_
 refine rd1 15 rfl λK hK=>?_
 go_simp
 obtain ⟨wz,hwz⟩:∃z,(W1.alloc (.cells #[.int .i64 0,.int .u16 0,.int .u32 0,.int .u64 0,.int .u64 0,.int .u64 0,.int .i64 0,.int .u32 0,.int .u16 0,.int .u32 0,.int .u32 0,.int .u16 0,.int .u32 0,.bool false,.int .i64 0,.int .u16 0,.int .u32 0,.int .u64 0,.int .u64 0,.slice none 0 0,.int .u64 0,.slice none 0 0,.slice none 0 0,.slice none 0 0,.int .u64 0,.slice none 0 0,.slice none 0 0,.slice none 0 0,.slice none 0 0] 128)).drew=z:=⟨_,rfl⟩
 have hbz:Below W1.heap.size W1 wz:=by rw [←hwz];exact (Zd (Below.refl _ _) _).drew
 have hoz:Xe wz W1.heap.size [.int .i64 0,.int .u16 0,.int .u32 0,.int .u64 0,.int .u64 0,.int .u64 0,.int .i64 0,.int .u32 0,.int .u16 0,.int .u32 0,.int .u32 0,.int .u16 0,.int .u32 0,.bool false,.int .i64 0,.int .u16 0,.int .u32 0,.int .u64 0,.int .u64 0,.slice none 0 0,.int .u64 0,.slice none 0 0,.slice none 0 0,.slice none 0 0,.int .u64 0,.slice none 0 0,.slice none 0 0,.slice none 0 0,.slice none 0 0]:=by
  have h0:Xe (W1.alloc (.cells #[.int .i64 0,.int .u16 0,.int .u32 0,.int .u64 0,.int .u64 0,.int .u64 0,.int .i64 0,.int .u32 0,.int .u16 0,.int .u32 0,.int .u32 0,.int .u16 0,.int .u32 0,.bool false,.int .i64 0,.int .u16 0,.int .u32 0,.int .u64 0,.int .u64 0,.slice none 0 0,.int .u64 0,.slice none 0 0,.slice none 0 0,.slice none 0 0,.int .u64 0,.slice none 0 0,.slice none 0 0,.slice none 0 0,.slice none 0 0] 128)) W1.heap.size [.int .i64 0,.int .u16 0,.int .u32 0,.int .u64 0,.int .u64 0,.int .u64 0,.int .i64 0,.int .u32 0,.int .u16 0,.int .u32 0,.int .u32 0,.int .u16 0,.int .u32 0,.bool false,.int .i64 0,.int .u16 0,.int .u32 0,.int .u64 0,.int .u64 0,.slice none 0 0,.int .u64 0,.slice none 0 0,.slice none 0 0,.slice none 0 0,.int .u64 0,.slice none 0 0,.slice none 0 0,.slice none 0 0,.slice none 0 0]:=Xe.made [.int .i64 0,.int .u16 0,.int .u32 0,.int .u64 0,.int .u64 0,.int .u64 0,.int .i64 0,.int .u32 0,.int .u16 0,.int .u32 0,.int .u32 0,.int .u16 0,.int .u32 0,.bool false,.int .i64 0,.int .u16 0,.int .u32 0,.int .u64 0,.int .u64 0,.slice none 0 0,.int .u64 0,.slice none 0 0,.slice none 0 0,.slice none 0 0,.int .u64 0,.slice none 0 0,.slice none 0 0,.slice none 0 0,.slice none 0 0] W1 _
  rw [←hwz]
  exact h0.ext (Below.refl _ _).drew (h0.lt (by simp))
 try rw [hwz]
 clear hwz
 refine hK.out _ _ (HS1.out _ hbz) (λhHeld=>?_)
 clear hK K
 try simp only [lay]
 have ht:wz.there W1.heap.size 0 29:=hoz.there (by simp)
 refine rd1 16 rfl λK hK=>?_
 refine (show _ from ?_)
 rw [if_pos (by rfl)]
 refine wp_store_mid 128 _ _ rfl W1.heap.size 0 (ML (zbV da dc) (zbU x y i)).toArray rfl rfl ht zew (zbD _ _) ?_
 obtain ⟨w2,hw2⟩:∃z,wz.setCells W1.heap.size 0 (ML (zbV da dc) (zbU x y i)).toArray.toList=z:=⟨_,rfl⟩
 have hb2:Below W1.heap.size W1 w2:=by rw [←hw2];exact Yl _ _ hbz (Nat.le_refl _)
 have hx0:Xe w2 W1.heap.size (ML (zbV da dc) (zbU x y i)):=by rw [←hw2];exact hoz.all (by rfl)
 have hx2:Zr w2 W1.heap.size (zbV da dc) (zbU x y i):=hx0.r
 rw [hw2]
 clear hw2 hx0 ht hoz hbz
 refine hK.out _ _ (HS1.out _ hb2) (λhHeld=>?_)
 clear hK K
 try simp only [lay]
 refine dn ?_
 have HB2:=hid (HB.out.ext hb2)
 have HX2:=hid hx2
 have HW2:Hid (Below w.heap.size w w2):=hid (HB1.out.trans (hb2.mono HB1.out.size))
 have HZ:Hid (w.heap.size≤W1.heap.size∧W1.heap.size<w2.heap.size):=hid ⟨HB1.out.size,hx2.lt⟩
 have HS2:Hid (∀W,Below w2.heap.size w2 W→W.cell? ⟨nb,0,none⟩=some (.int .u16 x)∧W.cell? ⟨nb,1,none⟩=some (.int .u32 y)∧Zr W W1.heap.size (zbV da dc) (zbU x y i)):=hid λW hb=>⟨(HB2.out.ext hb).cell HN.out.c0,(HB2.out.ext hb).cell HN.out.c1,HX2.out.ext hb HX2.out.lt⟩
 have HSE:Hid (∀W,Mut (λk=>N k∨w2.heap.size≤k) w2 W→Zr W W1.heap.size (zbV da dc) (zbU x y i)):=hid λW hm=>λj v hv=>(hm.cell (p:=⟨W1.heap.size,0+j,none⟩) HX2.out.lt (λe=>by
  have:=HZ.out
  rcases e with e | e
  ·have:=HNl.out _ e;simp only at this;omega
  ·simp only at e;omega)).trans (HX2.out j v hv)
 have CTK:Hid (∀W,Below w2.heap.size w2 W→Calls Tryz.prog 62 #[.pointer (some ⟨nb,0,none⟩),.agg #[.int .u16 x,.int .u32 y],.agg (ML (zbV da dc) (zbU x y i)).toArray] W λe w'=>ZC N R w2 e w'):=hid λW hb=>(HCT.out W (HW2.out.trans (hb.mono HW2.out.size))).mono λe w' h=>ZC.lift hb h
 clear hb2 hx2 HS1 HCT
 go_upto_region 2 with fail
 refine rhd HS2.out ((Below.refl _ _).drew) λhHeld=>?_
 refine tkv 0 (.pointer (some ⟨nb,0,none⟩)) rfl ?_
 refine tkv 1 (.pointer (some ⟨nb,0,none⟩)) rfl ?_
 refine tkv 2 (.pointer (some ⟨nb,0,none⟩)) rfl ?_
 refine tkv 3 (.pointer (some ⟨nb,0,none⟩)) rfl ?_
 refine tkv 4 (.agg #[.int .u16 x,.int .u32 y]) rfl ?_
 refine tkT 5 (.agg (ML (zbV da dc) (zbU x y i)).toArray) rfl ((yieldsIf_load_mid (by rfl) 128 _ rfl W1.heap.size 0 rfl (ML (zbV da dc) (zbU x y i)) _ (λW h=>h.2.2) Tryz.underlying128 rfl (KJ _ _))) ?_
 try simp only [lay]
 refine rd1 6 rfl λK hK=>?_
 go_simp
 refine (CTK.out _ (Below.refl _ _).drew).mono ?_
 rintro e w3 ⟨rfl,hR⟩
 have HR:=hid hR
 refine hK.out _ _ (⟨(HR0.out _ hR.1).1,(HR0.out _ hR.1).2,HSE.out _ hR.2⟩) (λhHeld=>?_)
 clear hK K
 try simp only [lay]
 refine dn ?_
 have HRR:=hid (ZC.lift (e:=.returned (.tuple #[])) HW2.out ⟨rfl,HR.out⟩)
 clear hR
 go_wp2_with fail
 exact bodyPost_end (results_none rfl _ _ _) rfl HRR.out
end
section
variable {w:World} {nb qb dc:Nat} {cs:List Value} {v:Int} {da:Option Addr} {N:Nat→Prop} {R:World→Prop}
set_option maxRecDepth 100000 in
set_option maxHeartbeats 3200000 in
theorem nSendUp (hB:Zc w nb 98 cs) (c5:cs[5]?=some (.int .i64 1)) (c15:cs[15]?=some (.pointer (some ⟨qb,0,none⟩))) (c19:cs[19]?=some (.bool false)) (hQ:Zc w qb 159 [.int .u64 v,.int .u64 0,.slice none 0 0]) (hd:Zg w da [109]) (hdq:∀o off,da=some ⟨o,off,none⟩→o≠qb) (hNq:N qb) (hne:nb≠qb)
  (CS:∀W a c,1≤c→Mut (λk=>k=qb∨w.heap.size≤k) w W→Zc W nb 98 cs→Zc W qb 159 [.int .u64 v,.int .u64 1,.slice (some ⟨a,0,none⟩) 1 c]→Calls Tryz.prog 41 #[.pointer (some ⟨nb,0,none⟩),.agg #[.int .u64 1,.slice da 1 dc]] W λe w'=>ZC N R W e w') :
  Calls Tryz.prog 19 #[.pointer (some ⟨nb,0,none⟩),.slice da 1 dc] w λe w'=>e=.returned (.tuple #[.int .u64 1,.int .i64 0])∧R w'∧Mut (λk=>N k∨w.heap.size≤k) w w':=by
 have n5:=hB.cell c5
 have n15:=hB.cell c15
 have n19:=hB.cell c19
 have CQ:=hid (qPut (dc:=dc) (n:=1) (bs:=[109]) hQ rfl (by decide) hd hdq)
 have HB:=hid hB
 have HNE:=hid hne
 have HNQ:=hid hNq
 have HCS:=hid CS
 clear hB c5 c15 c19 hQ hd hdq hNq hne CS
 go_enter Tryz.func19,Tryz.ntmps19
 go_wp2_with fail
 refine CQ.out.mono ?_
 rintro e w2 ⟨a,c,hc,rfl,hm,hx⟩
 have HM:=hid hm
 have CX:=hid (HCS.out w2 a c hc hm (HB.out.mut hm (λe=>by have:=HNE.out;have:=HB.out.lt;rcases e with e | e <;> omega)) hx)
 clear CQ hc hm hx n5 n15 n19
 go_wp2_with fail
 refine CX.out.mono ?_
 rintro e w3 ⟨rfl,hR⟩
 have HR:=hid (ZC.liftM (e:=.returned (.tuple #[])) (HM.out.mono λk _ e=>by
  rcases e with e | e
  ·exact .inl (by rw [e];exact HNQ.out)
  ·exact .inr e) ⟨rfl,hR⟩)
 clear CX hR
 go_wp2_with fail
 exact bodyPost_ret (v:=.tuple #[_,_]) (by simp [results,Tryz.results19,go_sem]) rfl ⟨rfl,HR.out.2⟩
end
abbrev NO (own:Nat→Nat):Nat→Prop:=λk=>own k≠0
theorem Vs {own:Nat→Nat} {a c i j:Nat} (h1:own a=i) (h2:own c=j) (h:i≠j):a≠c:=λe=>h (by rw [←h1,← h2,e])
theorem YQ {own:Nat→Nat} {a i:Nat} (h1:own a=i) (h:i≠0):own a≠0:=by rw [h1];exact h
structure Env (own:Nat→Nat) (b:PB) (x y:Int) (i:Nat) (V:Zs) (A:VAd) (bd:Bnd) (cs:List Value):Prop where
 t:Gy own b
 h1:V1 V x y i
 sm:KA V
 sum:Kg V.ls≤549755813888
 cb:Xh V=true
 ck:YE (VH x y i)=0
 fit:EI bd V.ls=true
 ok:ok (x,y)
 vd:∀o off,A.ad=some ⟨o,off,none⟩→o≠b.pb
 n:NP cs x y i A bd b
 n48:cs[48]?=some (.slice none 0 0)
structure Mid (own:Nat→Nat) (b:PB) (x y:Int) (i tl mc:Nat) (V:Zs) (A As At:VAd) (ma:Option Addr) (T v:Int) (cs:List Value) (w:World):Prop where
 F:Fix own b x y i tl mc V A As At ma T w
 B:Zc w b.nb 98 cs
 Q:∃qg qc,1≤qc∧Zc w b.qb 159 [.int .u64 v,.int .u64 1,.slice (some ⟨qg,0,none⟩) 1 qc]
 X:Zc w b.xb 199 (ibC i ma mc b.il b.iw 0)
 il:Zj w b.il Yg n64 []
 iw:∃qa qc,Zj w b.iw KQ sv [((x,y,1),.slice qa 1 qc)]∧YD own (Zg · qa [109]) w
 ta:Zj w b.ta Yg n64 []
 L:Zc w b.lb 149 [.int .u64 0,.slice none 0 0]
 S:∃c5 c6 c7 c8 c9 c10 c11 c12,Zc w b.sb 247 (vcl V i As ++ [.map (some b.sm),c5,c6,c7,c8,c9,c10,c11,c12])
 sm:Zj w b.sm Yg n64 []
structure zaO (own:Nat→Nat) (b:PB) (x y:Int) (i tl mc:Nat) (V:Zs) (A As At:VAd) (ma:Option Addr) (T v:Int) (cs:List Value) (w:World):Prop where
 F:Fix own b x y i tl mc V A As At ma T w
 N:∃ev ea ec,Vk w 0 48 9 ev [[.int .i64 2,.int .u64 0,.slice none 0 0,.slice none 0 0,.slice none 0 0,.int .u16 x,.int .u32 y,.int .u64 1,.slice ea 1 ec]]∧(∀g,ev.ownBlock=some g→own g=0)∧YD own (Zg · ea [109]) w∧Zc w b.nb 98 (cs.set 48 ev)
 Q:∃a c,Zc w b.qb 159 [.int .u64 v,.int .u64 1,.slice a 0 c]
 X:Zc w b.xb 199 (ibC i ma mc b.il b.iw 1)
 il:Zj w b.il Yg n64 [((x,y),1)]
 iw:Zj w b.iw KQ sv []
 ta:Zj w b.ta Yg n64 [((x,y),1)]
 L:∃a n c,(n=0∨n=1∧(∃g,a=some ⟨g,0,none⟩)∧1≤c)∧Zc w b.lb 149 [.int .u64 1,.slice a n c]
 a:Zc w b.ab 250 (acC 2 1 x y (.pointer none))
 p:∃ld m0 m1,Zc w b.pb 255 (prC x y 1 x y 2 ld 2 1 x y (.pointer none) m0 m1)
section
variable {own:Nat→Nat} {b:PB} {x y T v:Int} {i tl mc:Nat} {V:Zs} {A As At:VAd} {ma:Option Addr} {bd:Bnd} {cs:List Value} {w w':World}
theorem Mid.o (M:Mid own b x y i tl mc V A As At ma T v cs w) (t:Gy own b) (hm:Zl own [1,7,8] w w') (hB:Zc w' b.nb 98 cs):Mid own b x y i tl mc V A As At ma T v cs w':=by
 obtain ⟨qg,qc,h1,h2⟩:=M.Q
 obtain ⟨qa,qe,h3,h4⟩:=M.iw
 obtain ⟨c5,c6,c7,c8,c9,c10,c11,c12,h5⟩:=M.S
 exact ⟨M.F.o t hm (by intro j hj;simp at hj;omega),hB,⟨qg,qc,h1,h2.o hm t.qb (by simp)⟩,M.X.o hm t.xb (by simp),M.il.o hm t.il (by simp),⟨qa,qe,h3.o hm t.iw (by simp),h4.o hm (by simp)⟩,M.ta.o hm t.ta (by simp),M.L.o hm t.lb (by simp),⟨c5,c6,c7,c8,c9,c10,c11,c12,h5.o hm t.sb (by simp)⟩,M.sm.o hm t.sm (by simp)⟩
theorem Mid.ext (M:Mid own b x y i tl mc V A As At ma T v cs w) (t:Gy own b) (hb:Below w.heap.size w w'):Mid own b x y i tl mc V A As At ma T v cs w':=M.o t (Zl.below hb) (M.B.ext hb)
theorem zaO.cells (h:zaO own b x y i tl mc V A As At ma T v cs w) (E:Env own b x y i V A bd cs):w.cell? ⟨b.nb,0,none⟩=some (.int .u16 x)∧w.cell? ⟨b.nb,1,none⟩=some (.int .u32 y)∧w.cell? ⟨b.nb,23,none⟩=some (.pointer (some ⟨b.pb,0,none⟩)):=by
 obtain ⟨ev,ea,ec,-,-,-,hB⟩:=h.N
 have hn:=E.n.put 48 ev (.inr (.inr rfl))
 exact ⟨hB.cell hn.c0,hB.cell hn.c1,hB.cell hn.c23⟩
set_option maxHeartbeats 1600000 in
theorem Kw {k ld:Value} {s0 s1 s2 b0 b1 b2 m0 m1:Int} {tick:Bool} {cz:List Value} (E:Env own b x y i V A bd cs) (F:Fix own b x y i tl mc V A As At ma T w) (hN:NP cz x y i A bd b) (hB:Zc w b.nb 98 cz) (hX:Zc w b.xb 199 (ibC i ma mc b.il b.iw 1)) (hil:Zj w b.il Yg n64 [((x,y),1)]) (hiw:Zj w b.iw KQ sv []) (hL:Zc w b.lb 149 [.int .u64 1,k]) (hP:Zc w b.pb 255 (prC x y s0 s1 s2 2 ld 2 b0 b1 b2 (.pointer none) m0 m1)) :
  Calls Tryz.prog 49 #[.pointer (some ⟨b.nb,0,none⟩),.bool tick] w λe w'=>e=.returned (.tuple #[])∧Mut (λk=>k=b.nb∨w.heap.size≤k) w w'∧Zc w' b.nb 98 cz:=by
 have hMO:∀W W',Mut (λk=>k=b.nb∨W.heap.size≤k) W W'→Zl own [1] W W':=λW W' h=>Zl.one h E.t.nb (by simp)
 refine nDrive0 hB hN.toN1 F.hv.now E.h1 E.sm.fine hN.c20 hN.c23 hL hP (λW hb=>?_)
 have hm0:Zl own [1] w W:=Zl.below hb
 refine nWants0 (own:=own) (V:=V) (vr:=b.vr) (hB.ext hb) hN E.h1 E.fit (YQ E.t.nb (by decide)) (F.hv.o hm0 (by simp)) (λW2 hm=>?_) (λW2 hm hlt hB2=>?_)
 ·have hm2:=hm0.trans (hMO _ _ hm)
  exact F.se.mut hm2 (λe=>by
   rcases e with e | e
   ·rw [E.t.vb] at e;simp at e
   ·have:=F.lt b.vb (YQ E.t.vb (by decide));omega) (λe=>by
   rcases e with e | e
   ·rw [E.t.vr] at e;simp at e
   ·have:=F.lt b.vr (YQ E.t.vr (by decide));omega)
 ·have hm2:=hm0.trans (hMO _ _ hm)
  exact nSeq0 hB2 hN.c16 (hX.o hm2 E.t.xb (by simp)) (F.mr.o hm2 (by simp)).now (hil.o hm2 E.t.il (by simp)) (hiw.o hm2 E.t.iw (by simp))
set_option maxHeartbeats 1600000 in
theorem lkLearn {la:Option Addr} {lc:Nat} {has:Value} {B:MA} (E:Env own b x y i V A bd cs) (M:Mid own b x y i tl mc V A As At ma T v cs w) (hA:Zc w b.ab 250 (acC 1 1 x y has)) (hP:Zc w b.pb 255 (prC x y 1 x y 2 (.slice la 1 lc) 2 1 x y (.pointer none) 1 0)) (hC:CR w (NO own) B (VH x y i)) :
  Calls Tryz.prog 151 #[.pointer (some ⟨b.nb,0,none⟩),.agg #[.int .u16 x,.int .u32 y],.int .u64 1,.agg (Yd B (VH x y i)),.int .i64 4] w λe w'=>ZC (NO own) (zaO own b x y i tl mc V A As At ma T v cs) w e w':=by
 obtain ⟨qg,qc,h1,h2⟩:=M.Q
 obtain ⟨qa,qe,h3,h4⟩:=M.iw
 obtain ⟨c5,c6,c7,c8,c9,c10,c11,c12,h5⟩:=M.S
 refine nLearn M.F E.t E.n E.n48 M.B h2 h1 M.X M.il h3 M.ta M.L h5 M.sm hA hP hC ⟨rfl,rfl,rfl,rfl,rfl⟩ rfl E.ck E.h1 (λW hD=>?_)
 obtain ⟨ev,ea,ec,n1,n2,n3⟩:=hD.n
 obtain ⟨la1,lc1,l1,l2⟩:=hD.l
 have hFW:=M.F.o E.t hD.mt (by intro j hj;simp at hj;omega)
 have hPW:=hP.o hD.mt E.t.pb (by simp)
 refine (Kw E hFW (E.n.put 48 ev (.inr (.inr rfl))) n3 hD.bx hD.bil hD.biw l2 hPW).mono λe w' ⟨h6,h7,h8⟩=>?_
 have hm:=Zl.one h7 E.t.nb (by simp:(1:Nat)∈[1])
 have hwo:∀g,w.heap.size≤g→own g=0:=λg hg=>by
  by_cases e:own g=0
  ·exact e
  ·have:=M.F.lt g e;omega
 refine ⟨h6,⟨hFW.o E.t hm (by simp),⟨ev,ea,ec,(n1.mut hm (λg hg e=>?_)).mono (Nat.zero_le _),λg hg=>hwo g (n1.blk hg).1,n2.o hm (by simp),h8⟩,?_,hD.bx.o hm E.t.xb (by simp),hD.bil.o hm E.t.il (by simp),hD.biw.o hm E.t.iw (by simp),hD.bta.o hm E.t.ta (by simp),⟨_,1,_,.inr ⟨rfl,⟨_,rfl⟩,l1⟩,l2.o hm E.t.lb (by simp)⟩,hD.a.o hm E.t.ab (by simp),⟨_,_,_,hPW.o hm E.t.pb (by simp)⟩⟩,hm.n (by simp)⟩
 ·have h9:=n1.blk hg
  rcases e with e | e
  ·rw [hwo g h9.1] at e;simp at e
  ·omega
 ·obtain ⟨a,c,hq⟩:=hD.q
  exact ⟨a,c,hq.o hm E.t.qb (by simp)⟩
end
section
variable {own:Nat→Nat} {b:PB} {x y T v:Int} {i tl mc lc:Nat} {V:Zs} {A As At:VAd} {ma la:Option Addr} {bd:Bnd} {cs:List Value} {w w':World}
abbrev RR (own:Nat→Nat) (b:PB) (x y:Int) (i tl mc:Nat) (V:Zs) (A As At:VAd) (ma:Option Addr) (T v:Int) (cs:List Value):World→Prop:=zaO own b x y i tl mc V A As At ma T v cs
theorem zbE {M:MA} {m:Jr} (E:Env own b x y i V A bd cs) (hB:Zc w b.nb 98 cs) (hl:∀k,own k≠0→k<w.heap.size) (CT:∀W,Below w.heap.size w W→Calls Tryz.prog 62 #[.pointer (some ⟨b.nb,0,none⟩),.agg #[.int .u16 x,.int .u32 y],.agg (ML M m).toArray] W λe w'=>ZC (NO own) (RR own b x y i tl mc V A As At ma T v cs) W e w') :
  Calls Tryz.prog 90 #[.pointer (some ⟨b.nb,0,none⟩),.agg #[.int .u16 x,.int .u32 y],.agg (ML M m).toArray] w λe w'=>ZC (NO own) (RR own b x y i tl mc V A As At ma T v cs) w e w' :=
 nSend hB E.n.c0 E.n.c1 (λW h=>⟨(zaO.cells h E).1,(zaO.cells h E).2.1⟩) hl CT
theorem lkCountA {g1:Nat} {A1:MA} {has:Value} (E:Env own b x y i V A bd cs) (M:Mid own b x y i tl mc V A As At ma T v cs w) (hA:Zc w b.ab 250 (acC 1 1 x y has)) (hP:Zc w b.pb 255 (prC x y 1 x y 3 (.slice la 1 lc) 1 1 x y (.pointer (some ⟨g1,0,none⟩)) 0 0)) (hr:Zb w la [(x,y)]) (hV:Zc w g1 285 (valC 1 x y A1 (VH x y i))) (hC:CR w (NO own) A1 (VH x y i)) :
  Calls Tryz.prog 156 #[.pointer (some ⟨b.nb,0,none⟩),.agg #[.int .u16 x,.int .u32 y],.agg (ML Zu (Xd 1 1 x y)).toArray] w λe w'=>ZC (NO own) (RR own b x y i tl mc V A As At ma T v cs) w e w' :=
 nCountA M.B E.n.toN1 E.n.c23 hP hr hV hC (Vs E.t.nb E.t.pb (by decide)) (YQ E.t.pb (by decide)) M.F.lt M.F.hv (λk=>Iff.rfl) E.h1 E.sm (λW h=>⟨(zaO.cells h E).1,(zaO.cells h E).2.1⟩) (λW B' hm hP' hC'=>by
  have hmo:Zl own [1,7,8] w W:=Zl.one hm E.t.pb (by simp)
  have hm8:Zl own [8] w W:=Zl.one hm E.t.pb (by simp)
  exact lkLearn E (M.o E.t hmo (M.B.o hm8 E.t.nb (by simp))) (hA.o hm8 E.t.ab (by simp)) hP' hC')
theorem lkVoteA {g1:Nat} {A1 B2:MA} (E:Env own b x y i V A bd cs) (M:Mid own b x y i tl mc V A As At ma T v cs w) (hA:Zc w b.ab 250 (acC 1 1 x y (.pointer none))) (hP:Zc w b.pb 255 (prC x y 1 x y 3 (.slice la 1 lc) 1 1 x y (.pointer (some ⟨g1,0,none⟩)) 0 0)) (hr:YD own (Zb · la [(x,y)]) w) (hg1:own g1=0) (hV:Zc w g1 285 (valC 1 x y A1 (VH x y i))) (hC:CR w (NO own) A1 (VH x y i)) (hC2:CR w (NO own) B2 (VH x y i)) :
  Calls Tryz.prog 155 #[.pointer (some ⟨b.nb,0,none⟩),.agg #[.int .u16 x,.int .u32 y],.agg (ML (mA B2) (EB 1 1 x y (VH x y i))).toArray] w λe w'=>ZC (NO own) (RR own b x y i tl mc V A As At ma T v cs) w e w' :=
 nVoteA M.B E.n.c22 E.n.c23 hP hA E.ok E.h1.may (Vs E.t.nb E.t.ab (by decide)) hC2 E.h1.ok E.ck M.F.lt (YQ E.t.ab (by decide)) (λW hm ⟨g,hA'⟩=>by
  have hm7:Zl own [7] w W:=Zl.one hm E.t.ab (by simp)
  have hmo:Zl own [1,7,8] w W:=Zl.one hm E.t.ab (by simp)
  have M':=M.o E.t hmo (M.B.o hm7 E.t.nb (by simp))
  refine zbE E M'.B M'.F.lt (λW2 hb2=>GD (M'.B.ext hb2) E.n.c5 (.inr rfl) (λW3 hb3=>?_))
  have hbb:=hb2.trans (hb3.mono hb2.size)
  have hm3:=hm7.trans (Zl.below hbb)
  exact lkCountA E (M'.ext E.t hbb) (hA'.ext hbb) (hP.o hm3 E.t.pb (by simp)) (hr.o hm3 (by simp)).now (hV.o hm3 hg1 (by simp)) (hC.mut (hm3.n (by simp)) (λk e=>e))) (YQ E.t.ab (by decide))
set_option maxHeartbeats 1600000 in
theorem lkDrive1 (E:Env own b x y i V A bd cs) (M:Mid own b x y i tl mc V A As At ma T v cs w) (hA:Zc w b.ab 250 (acC 1 1 x y (.pointer none))) (hP:Zc w b.pb 255 (prC x y 1 x y 2 (.slice la 1 lc) 1 1 x y (.pointer none) 1 0)) (hr:YD own (Zb · la [(x,y)]) w) (hla:∀o off,la=some ⟨o,off,none⟩→own o=0∧o<w.heap.size) :
  Calls Tryz.prog 49 #[.pointer (some ⟨b.nb,0,none⟩),.bool false] w λe w'=>ZC (NO own) (RR own b x y i tl mc V A As At ma T v cs) w e w':=by
 have hMO:∀W W',Mut (λk=>k=b.nb∨W.heap.size≤k) W W'→Zl own [1] W W':=λW W' h=>Zl.one h E.t.nb (by simp)
 refine nDrive1 M.B E.n.toN1 M.F.hv.now E.h1 E.sm.fine E.n.c20 E.n.c23 M.L hP hr.now (λo off e=>⟨λh=>h (hla o off e).1,(hla o off e).2⟩) (Vs E.t.nb E.t.pb (by decide)) M.F.lt (YQ E.t.nb (by decide)) (YQ E.t.pb (by decide)) E.ck (λW h=>(zaO.cells h E).2.2) (λW hb=>?_) (λW g1 A1 B2 hm hB hP' hr' hg hV hC1 hC2=>?_)
 ·have hm0:Zl own [1] w W:=Zl.below hb
  obtain ⟨qa,qe,h3,h4⟩:=M.iw
  refine nWants1 (own:=own) (V:=V) (vr:=b.vr) (M.B.ext hb) E.n E.h1 E.fit (YQ E.t.nb (by decide)) (M.F.hv.o hm0 (by simp)) (λW2 hm=>?_) (λW2 hm hlt hB2=>?_)
  ·have hm2:=hm0.trans (hMO _ _ hm)
   exact M.F.se.mut hm2 (λe=>by
    rcases e with e | e
    ·rw [E.t.vb] at e;simp at e
    ·have:=M.F.lt b.vb (YQ E.t.vb (by decide));omega) (λe=>by
    rcases e with e | e
    ·rw [E.t.vr] at e;simp at e
    ·have:=M.F.lt b.vr (YQ E.t.vr (by decide));omega)
  ·have hm2:=hm0.trans (hMO _ _ hm)
   exact nSeq1 hB2 E.n.c9 E.n.c16 E.n.c20 (M.L.o hm2 E.t.lb (by simp)) (M.X.o hm2 E.t.xb (by simp)) (M.F.mr.o hm2 (by simp)).now (M.il.o hm2 E.t.il (by simp)) (h3.o hm2 E.t.iw (by simp)) (h4.o hm2 (by simp)).now (λk hk=>by
    have hz:=hb.size
    rcases hk with (hk | hk) | hk
    ·have:=M.F.lt k hk;omega
    ·omega
    ·omega)
 ·have hmo:Zl own [1,8] w W:=hm.mono λk _ e=>by
   rcases e with e | e | e
   ·exact .inl (by rw [e,E.t.nb];simp)
   ·exact .inl (by rw [e,E.t.pb];simp)
   ·exact .inr e
  have hg0:own g1=0:=by
   by_cases e:own g1=0
   ·exact e
   ·have:=M.F.lt g1 e;omega
  have M':=M.o E.t (hmo.mono (by simp)) hB
  refine zbE E M'.B M'.F.lt (λW2 hb2=>Eu (M'.B.ext hb2) E.n.c5 (.inr rfl) (λW3 hb3=>?_))
  have hbb:=hb2.trans (hb3.mono hb2.size)
  have hm3:Zl own [1,8] w W3:=hmo.trans (Zl.below hbb)
  exact lkVoteA E (M'.ext E.t hbb) (hA.o hm3 E.t.ab (by simp)) (hP'.ext hbb) (hr.o hm3 (by simp)) hg0 (hV.ext hbb) (hC1.ext hbb) (hC2.ext hbb)
theorem lkCountP (E:Env own b x y i V A bd cs) (M:Mid own b x y i tl mc V A As At ma T v cs w) (hA:Zc w b.ab 250 (acC 1 1 x y (.pointer none))) (hP:Zc w b.pb 255 (prC x y 1 x y 1 (.slice la 1 lc) 1 1 x y (.pointer none) 0 0)) (hr:YD own (Zb · la [(x,y)]) w) (hla:∀o off,la=some ⟨o,off,none⟩→own o=0∧o<w.heap.size) :
  Calls Tryz.prog 156 #[.pointer (some ⟨b.nb,0,none⟩),.agg #[.int .u16 x,.int .u32 y],.agg (ML Zu (YU 1 1 x y)).toArray] w λe w'=>ZC (NO own) (RR own b x y i tl mc V A As At ma T v cs) w e w' :=
 nCountP M.B E.n.c23 hP hr.now (Vs E.t.nb E.t.pb (by decide)) (YQ E.t.pb (by decide)) (λW hm hP'=>by
  have hm8:Zl own [8] w W:=Zl.one hm E.t.pb (by simp)
  exact lkDrive1 E (M.o E.t (hm8.mono (by simp)) (M.B.o hm8 E.t.nb (by simp))) (hA.o hm8 E.t.ab (by simp)) hP' (hr.o hm8 (by simp)) (λo off e=>⟨(hla o off e).1,Nat.lt_of_lt_of_le (hla o off e).2 hm8.size⟩))
theorem lkVoteP {p1 p2:Int} (E:Env own b x y i V A bd cs) (M:Mid own b x y i tl mc V A As At ma T v cs w) (hA:Zc w b.ab 250 (acC 1 0 p1 p2 (.pointer none))) (hP:Zc w b.pb 255 (prC x y 1 x y 1 (.slice la 1 lc) 1 1 x y (.pointer none) 0 0)) (hr:YD own (Zb · la [(x,y)]) w) (hla:∀o off,la=some ⟨o,off,none⟩→own o=0∧o<w.heap.size) :
  Calls Tryz.prog 155 #[.pointer (some ⟨b.nb,0,none⟩),.agg #[.int .u16 x,.int .u32 y],.agg (ML Zu (Et 1 1 x y)).toArray] w λe w'=>ZC (NO own) (RR own b x y i tl mc V A As At ma T v cs) w e w' :=
 nVoteP M.B E.n.c22 E.n.c23 hP hA E.ok E.h1.may (Vs E.t.nb E.t.ab (by decide)) (λW hm hA'=>by
  have hm7:Zl own [7] w W:=Zl.one hm E.t.ab (by simp)
  have M':=M.o E.t (hm7.mono (by simp)) (M.B.o hm7 E.t.nb (by simp))
  refine zbE E M'.B M'.F.lt (λW2 hb2=>GD (M'.B.ext hb2) E.n.c5 (.inl rfl) (λW3 hb3=>?_))
  have hbb:=hb2.trans (hb3.mono hb2.size)
  have hm3:=hm7.trans (Zl.below hbb)
  exact lkCountP E (M'.ext E.t hbb) (hA'.ext hbb) (hP.o hm3 E.t.pb (by simp)) (hr.o hm3 (by simp)) (λo off e=>⟨(hla o off e).1,Nat.lt_of_lt_of_le (hla o off e).2 hm3.size⟩)) (YQ E.t.ab (by decide))
theorem lkDriveI {p1 p2 s1 s2 osl b0 b1 b2 m0 m1:Int} {ld val:Value} (E:Env own b x y i V A bd cs) (M:Mid own b x y i tl mc V A As At ma T v cs w) (hA:Zc w b.ab 250 (acC 1 0 p1 p2 (.pointer none))) (hP:Zc w b.pb 255 (prC x y 0 s1 s2 0 ld osl b0 b1 b2 val m0 m1)) :
  Calls Tryz.prog 49 #[.pointer (some ⟨b.nb,0,none⟩),.bool false] w λe w'=>ZC (NO own) (RR own b x y i tl mc V A As At ma T v cs) w e w' :=
 nDriveI M.B E.n.toN1 M.F.hv.now E.h1 E.sm.fine E.n.c20 E.n.c23 E.sum E.cb M.L hP (Vs E.t.nb E.t.pb (by decide)) E.vd (YQ E.t.pb (by decide)) (λW h=>(zaO.cells h E).2.2) (λW a c hm hB hP' hr hg=>by
  have hm8:Zl own [8] w W:=Zl.one hm E.t.pb (by simp)
  have M':=M.o E.t (hm8.mono (by simp)) hB
  have hla:∀o off,a=some ⟨o,off,none⟩→own o=0∧o<W.heap.size:=λo off e=>by
   subst e
   obtain ⟨o',off',e',hlt,-⟩:=hr.get (by simp)
   injection e' with e';injection e' with e1 e2 e3
   subst e1
   refine ⟨?_,hlt⟩
   by_cases e:own o=0
   ·exact e
   ·have h1:=M.F.lt o e;have h2:=hg o off rfl;omega
  have hk:YD own (Zb · a [(x,y)]) W:=YD.pids hr hla
  refine zbE E M'.B M'.F.lt (λW2 hb2=>Eu (M'.B.ext hb2) E.n.c5 (.inl rfl) (λW3 hb3=>?_))
  have hbb:=hb2.trans (hb3.mono hb2.size)
  have hm3:=hm8.trans (Zl.below hbb)
  exact lkVoteP E (M'.ext E.t hbb) (hA.o hm3 E.t.ab (by simp)) (hP'.ext hbb) (hk.o ((Zl.below hbb):Zl own [] W W3) (by simp)) (λo off e=>⟨(hla o off e).1,Nat.lt_of_lt_of_le (hla o off e).2 hbb.size⟩))
end
structure Ini (own:Nat→Nat) (b:PB) (x y:Int) (i tl mc:Nat) (V:Zs) (A As At:VAd) (ma:Option Addr) (T v:Int) (cs:List Value) (w:World):Prop where
 F:Fix own b x y i tl mc V A As At ma T w
 B:Zc w b.nb 98 cs
 Q:Zc w b.qb 159 [.int .u64 v,.int .u64 0,.slice none 0 0]
 X:Zc w b.xb 199 (ibC i ma mc b.il b.iw 0)
 il:Zj w b.il Yg n64 []
 iw:Zj w b.iw KQ sv []
 ta:Zj w b.ta Yg n64 []
 L:Zc w b.lb 149 [.int .u64 0,.slice none 0 0]
 S:∃c5 c6 c7 c8 c9 c10 c11 c12,Zc w b.sb 247 (vcl V i As ++ [.map (some b.sm),c5,c6,c7,c8,c9,c10,c11,c12])
 sm:Zj w b.sm Yg n64 []
 a:∃p1 p2,Zc w b.ab 250 (acC 1 0 p1 p2 (.pointer none))
 p:∃s1 s2 ld osl b0 b1 b2 val m0 m1,Zc w b.pb 255 (prC x y 0 s1 s2 0 ld osl b0 b1 b2 val m0 m1)
section
variable {own:Nat→Nat} {b:PB} {x y T v:Int} {i tl mc dc:Nat} {V:Zs} {A As At:VAd} {ma da:Option Addr} {bd:Bnd} {cs:List Value} {w:World}
set_option maxHeartbeats 1600000 in
theorem nSendOne (E:Env own b x y i V A bd cs) (I:Ini own b x y i tl mc V A As At ma T v cs w) (hd:Zg w da [109]) (hda:∀o off,da=some ⟨o,off,none⟩→own o=0∧o<w.heap.size) :
  Calls Tryz.prog 19 #[.pointer (some ⟨b.nb,0,none⟩),.slice da 1 dc] w λe w'=>e=.returned (.tuple #[.int .u64 1,.int .i64 0])∧zaO own b x y i tl mc V A As At ma T v cs w'∧Mut (λk=>own k≠0∨w.heap.size≤k) w w':=by
 have hK:YD own (Zg · da [109]) w:=YD.bytes hd hda
 obtain ⟨p1,p2,hA⟩:=I.a
 obtain ⟨s1,s2,ld,osl,b0,b1,b2,val,m0,m1,hP⟩:=I.p
 obtain ⟨c5,c6,c7,c8,c9,c10,c11,c12,hS⟩:=I.S
 refine nSendUp (N:=NO own) (R:=zaO own b x y i tl mc V A As At ma T v cs) I.B E.n.c5 E.n.c15 E.n.c19 I.Q hd (λo off e h=>?_) (YQ E.t.qb (by decide)) (Vs E.t.nb E.t.qb (by decide)) (λW a c hc hm hB hQ=>?_)
 ·have h1:=(hda o off e).1
  rw [h,E.t.qb] at h1;cases h1
 have hm2:Zl own [2] w W:=Zl.one hm E.t.qb (by simp)
 have hlt:∀k,own k≠0→k<W.heap.size:=λk hk=>Nat.lt_of_lt_of_le (I.F.lt k hk) hm2.size
 refine nSubmit hB E.n.toN1 hlt (λW h=>⟨(zaO.cells h E).1,(zaO.cells h E).2.1⟩) (λW2 hb2=>za7 (hB.ext hb2) E.n.c5 rfl (λW3 hb3=>?_))
 have hbb:=hb2.trans (hb3.mono hb2.size)
 have hm3:Zl own [2] w W3:=hm2.trans (Zl.below hbb)
 have hX3:=I.X.o hm3 E.t.xb (by simp)
 have hil3:=I.il.o hm3 E.t.il (by simp)
 have hiw3:=I.iw.o hm3 E.t.iw (by simp)
 refine nAscend (hB.ext hbb) E.n.toN1 (I.F.hv.o hm3 (by simp)).now E.h1 E.sm.fine E.n.c16 hX3 (I.F.mr.o hm3 (by simp)).now hil3 hiw3 (hK.o hm3 (by simp)).now (Vs E.t.nb E.t.iw (by decide)) (YQ E.t.iw (by decide)) (λW4 qa qc hm4 hB4 hiw4 hown4=>?_)
 have hm34:Zl own [3] W3 W4:=Zl.one hm4 E.t.iw (by simp)
 have hm04:Zl own [2,3] w W4:=(hm3.mono (by simp)).trans (hm34.mono (by simp))
 have hDR:zaF W4 (NO own) qa [109]:=zaF.of_own hown4 (λk hk=>Nat.lt_of_lt_of_le (I.F.lt k hk) hm3.size)
 have hxi:b.xb≠b.iw:=hiw3.ne_cell (hX3.cell (j:=0) rfl)
 have hX4:=hX3.mut hm4 (λe=>by
  rcases e with e | e
  ·exact hxi e
  ·have:=hX3.lt;omega)
 have hil4:=hil3.same (Mut.block hm4 b.il hil3.lt (λe=>by
  rcases e with e | e
  ·exact E.t.ilw e
  ·have:=hil3.lt;omega))
 refine lkDriveI E ⟨I.F.o E.t hm04 (by intro j hj;simp at hj;omega),hB4,⟨a,c,hc,(hQ.ext hbb).o hm34 E.t.qb (by simp)⟩,hX4,hil4,⟨qa,qc,hiw4,λw' hm'=>(hDR.mut hm' (λk e=>e)).row⟩,I.ta.o hm04 E.t.ta (by simp),I.L.o hm04 E.t.lb (by simp),⟨c5,c6,c7,c8,c9,c10,c11,c12,hS.o hm04 E.t.sb (by simp)⟩,I.sm.o hm04 E.t.sm (by simp)⟩ (hA.o hm04 E.t.ab (by simp)) (hP.o hm04 E.t.pb (by simp))
end
open Go.Instr Go.MapKept
abbrev kiI:Int→Value:=λn=>.int .i64 n
theorem keyI (K:TypeId) (hK:Tryz.prog.underlying K=some (.int .i64)):Kz Tryz.prog K kiI where
 find:=by
  intro x L es w h
  simp only [findKey,Sem.run_bind,run_underlying hK,Result.andThen]
  have:∀(es:List MapEntry) (L:List (Int × Value)) (i:Nat),es.map (λe=>(e.key,e.val))=L.map (λp=>(kiI p.1,p.2))→findNow (.int .i64) (kiI x) es i=some (Yk x L i):=by
   intro es
   induction es with
   | nil=>intro L i h;cases L with | nil=>rfl | cons _ _=>simp at h
   | cons e es ih =>
    intro L i h
    cases L with
    | nil=>simp at h
    | cons p L =>
     simp only [List.map_cons,List.cons.injEq,Prod.mk.injEq] at h
     obtain ⟨⟨h1,h2⟩,h3⟩:=h
     simp only [findNow,h1,sameNow,Yk,if_true]
     by_cases hx:x=p.1
     ·simp [hx,h2]
     ·have hb:((x:Int) == (p.1:Int))=false:=by simp;omega
      simp [hx,hb,ih L (i+1) h3]
  rw [this es L 0 h]
  simp
 check:=by intro b x w;exact run_checkKey (n:=9999) hK (by simp [IsKey]) b
 same:=by intro x;simp [sameBits]
theorem leafNo {w:World} {r:Nat} (h:Zj w r kiI n64 ([]:List (Int × Nat))) (k:Int):(Instr.lookup 275 (.map (some r)) (.int .i64 k) false).run Tryz.prog w=.ok (.int .u64 0) w:=by
 have:=h.lookup_no (keyI 3 Tryz.underlying3) Tryz.underlying275 (zdE w) k
 exact this
section
variable {w:World} {b ta tl i cm cl cd:Nat} {am al ad:Option Addr} {x y:Int}
theorem tThere (hB:Zc w b 277 [.int .u64 i,.slice am 1 cm,.slice al 1 cl,.slice ad 1 cd,.map (some ta),.map (some tl)]) :
  Calls Tryz.prog 203 #[.pointer (some ⟨b,0,none⟩),.int .i64 0] w λe w'=>e=.returned (.bool true)∧w'=w:=by
 have c2:=hB.cell (j:=2) rfl
 clear hB
 go_enter Tryz.func203,Tryz.ntmps203
 go_wp2_with fail
 go_ret
 exact ⟨rfl,rfl⟩
set_option maxRecDepth 100000 in
set_option maxHeartbeats 3200000 in
theorem tLeaf0 (hB:Zc w b 277 [.int .u64 i,.slice am 1 cm,.slice al 1 cl,.slice ad 1 cd,.map (some ta),.map (some tl)]) (hls:Zp w al [[(x,y)]]) (hta:Zj w ta Yg n64 [((x,y),1)]) (htl:Zj w tl kiI n64 ([]:List (Int × Nat))) :
  Calls Tryz.prog 106 #[.pointer (some ⟨b,0,none⟩),.int .i64 0] w λe w'=>e=.returned (.int .u64 1)∧Below w.heap.size w w':=by
 rcases hls with h | ⟨g,off,rfl,hgl,hc⟩
 ·cases h
 obtain ⟨ai,ci,g0,hr⟩:=hc 0 (by simp)
 obtain ⟨pb,po,rfl,hplt,hcell⟩:=hr.get (by simp)
 obtain ⟨m0,m1⟩:=hcell 0 (by simp)
 simp only [Nat.zero_mul,Nat.add_zero,List.getElem_cons_zero,List.length_cons,List.length_nil,Nat.zero_add] at g0 m0 m1
 have CT:=hid (tThere hB)
 have HB:=hid hB
 have HTA:=hid hta
 have HTL:=hid htl
 have c2:=hB.cell (j:=2) rfl
 have HG:=hid hgl
 have HPL:=hid hplt
 clear hB hta htl hc hr hcell hgl hplt
 go_enter Tryz.func106,Tryz.ntmps106
 go_wp2_with fail
 refine CT.out.mono ?_
 rintro e w2 ⟨rfl,rfl⟩
 rename World=>w1
 clear CT
 go_wp2_with fail
 go_loopw [5,21] (λu iv wr=>(iv=.int .i64 0∧u=.int .u64 18446744073709551615∨iv=.int .i64 1∧u=.int .u64 1)∧Hid (Below w1.heap.size w1 wr)) (λ_ iv _=>1 - (intOf iv).toNat)
 case atStart=>exact ⟨.inl ⟨rfl,rfl⟩,hid (Below.refl _ _)⟩
 case round =>
  obtain ⟨⟨rfl,rfl⟩ | ⟨rfl,rfl⟩,HW⟩:=hrel
  ·have n0:=Zk m0 HW.out
   have n1:=Zk m1 HW.out
   go_upto_region 7 with fail
   rename World=>wr
   obtain ⟨w2,hw2⟩:∃z,wr.alloc (.cells #[.int .u16 x,.int .u32 y] 25)=z:=⟨_,rfl⟩
   have hb2:Below wr.heap.size wr w2:=by rw [←hw2];exact bra
   have xP:Zc w2 wr.heap.size 25 [.int .u16 x,.int .u32 y]:=by rw [←hw2];exact Zc.made _ _ _
   try rw [hw2]
   clear hw2 n0 n1
   have hbb:=HW.out.trans (hb2.mono HW.out.size)
   have s4:=Za ((HB.out.ext hbb).cell (j:=4) rfl)
   have p0:=Za (xP.cell (j:=0) rfl)
   have p1:=Za (xP.cell (j:=1) rfl)
   have hM2:=HTA.out.ext hbb
   have hl:∀U:YB w2,(Instr.lookup 196 (.map (some ta)) (.agg #[.int .u16 x,.int .u32 y]) false).run Tryz.prog U.W=.ok (.int .u64 1) U.W:=λU=>(hM2.ext U.h).one64 x y
   have HBB:=hid hbb
   clear hbb hb2 hM2 xP
   refine Ze (w:=w2) (Below.refl _ _) (by kernel_rfl) (by kernel_rfl) ?_
   repeat (go_big_quiet_step (fail))
   refine wpQuiet_nil ?_
   rintro w3 ⟨⟨_,hb3⟩,rfl⟩
   have HB3:Hid (Below w1.heap.size w1 w3):=hid (HBB.out.trans (hb3.mono HBB.out.size))
   clear s4 p0 p1 hl hb3
   go_wp2_with fail
   go_roundw
   case rel=>exact ⟨.inr ⟨rfl,by first | rfl | simp⟩,HB3⟩
   case measure=>simp [intOf]
  ·rename World=>wr
   have d2:=Zk c2 HW.out
   have h0:=Zk g0 HW.out
   have d5:=(HB.out.ext HW.out).cell (j:=5) rfl
   have hlk:=leafNo (HTL.out.ext HW.out) 0
   go_wp2_with fail
   go_ret
   exact ⟨rfl,HW.out⟩
set_option maxRecDepth 100000 in
set_option maxHeartbeats 3200000 in
theorem tAll0 (hB:Zc w b 277 [.int .u64 i,.slice am 1 cm,.slice al 1 cl,.slice ad 1 cd,.map (some ta),.map (some tl)]) (hls:Zp w al [[(x,y)]]) (hta:Zj w ta Yg n64 [((x,y),1)]) (htl:Zj w tl kiI n64 ([]:List (Int × Nat))) :
  Calls Tryz.prog 93 #[.pointer (some ⟨b,0,none⟩)] w λe w'=>e=.returned (.int .u64 1)∧Below w.heap.size w w':=by
 have CL:Hid (∀W,Below w.heap.size w W→Calls Tryz.prog 106 #[.pointer (some ⟨b,0,none⟩),.int .i64 0] W λe w'=>e=.returned (.int .u64 1)∧Below w.heap.size w w'):=hid λW hb=>(tLeaf0 (hB.ext hb) (hls.ext hb) (hta.ext hb) (htl.ext hb)).mono λe w' ⟨h1,h2⟩=>⟨h1,hb.trans (h2.mono hb.size)⟩
 have c2:=hB.cell (j:=2) rfl
 have HB:=hid hB
 clear hB hls hta htl
 go_enter Tryz.func93,Tryz.ntmps93
 go_wp2_with fail
 refine (CL.out _ (Below.refl _ _)).mono ?_
 rintro e w2 ⟨rfl,hb2⟩
 have HB2:=hid hb2
 have c2:=Zk c2 hb2
 clear hb2
 go_wp2_with fail
 go_loopw [3,24] (λu iv wr=>(iv=.int .i64 0∧u=.int .u64 1∨iv=.int .i64 1∧u=.int .u64 1)∧Hid (Below w.heap.size w wr)) (λ_ iv _=>1 - (intOf iv).toNat)
 case atStart=>exact ⟨.inl ⟨rfl,rfl⟩,HB2⟩
 case round =>
  obtain ⟨⟨rfl,rfl⟩ | ⟨rfl,rfl⟩,HW⟩:=hrel
  ·go_wp2_with fail
   refine (CL.out _ HW.out).mono ?_
   rintro e w3 ⟨rfl,hb3⟩
   have HB3:=hid hb3
   clear hb3
   go_wp2_with fail
   go_roundw
   case rel=>exact ⟨.inr ⟨rfl,by first | rfl | simp⟩,HB3⟩
   case measure=>simp [intOf]
  ·go_wp2_with fail
   go_ret
   exact ⟨rfl,HW.out⟩
end
theorem zbC {P:Program} {f:FuncId} {args:Array Value} {w0:World} {U:YB w0} {v v':Value} (h:Calls P f args U.W λe w'=>e=.returned v∧Below U.W.heap.size U.W w') (hv:v=v') :
  Calls P f args U.W λe w'=>e=.returned v'∧∃U':YB w0,w'=U'.W:=by
 subst hv
 refine h.mono ?_
 rintro e w' ⟨rfl,hb⟩
 exact ⟨rfl,⟨_,U.h.trans (hb.mono U.h.size)⟩,rfl⟩
theorem ret_u64B {a b:Int} (h:a=b):Ending.returned (.int .u64 a)=.returned (.int .u64 b):=by rw [h]
theorem zdB (x y:Int) (hy₀:0≤y) (hy:y<4294967296) (hx₀:0≤x) (hx:x % 4294967296=0) (hx₁:x<18446744073709551616):bits .or .u64 x y=x+y :=
 bits_join .u64 64 (by decide) wraps_u64 32 x y hx₀ hx hx₁ hy₀ hy (by omega)
def KG (p:Pid):Int:=p.1 * 4294967296+p.2
set_option maxHeartbeats 400000 in
theorem Qx (x y:Int) (w:World) (h:okP (x,y)):Calls Tryz.prog 184 #[.agg #[.int .u16 x,.int .u32 y]] w λe w'=>e=.returned (.int .u64 (KG (x,y)))∧Below w.heap.size w w':=by
 obtain ⟨hx,hx2,hy,hy2⟩:=h
 simp only at hx hx2 hy hy2
 have hB:Below w.heap.size w (w.alloc (.cells #[.int .u16 x,.int .u32 y] 25)):=bra
 go_enter Tryz.func184,Tryz.ntmps184
 go_wp2
 go_ret
 exact ⟨ret_u64B (zdB _ _ hy hy2 (by omega) (by omega) (by omega)),hB⟩
def zb8 (p q:Pid):Bool:=decide (KG p<KG q)
set_option maxHeartbeats 400000 in
theorem zcq (a b c d:Int) (w:World) (h1:okP (a,b)) (h2:okP (c,d)):Calls Tryz.prog 84 #[.agg #[.int .u16 a,.int .u32 b],.agg #[.int .u16 c,.int .u32 d]] w λe w'=>e=.returned (.bool (zb8 (a,b) (c,d)))∧Below w.heap.size w w':=by
 have hB:Below w.heap.size w ((w.alloc (.cells #[.int .u16 a,.int .u32 b] 25)).alloc (.cells #[.int .u16 c,.int .u32 d] 25)):=(bra).alloc (by simp) _
 have hz:w.heap.size≤((w.alloc (.cells #[.int .u16 a,.int .u32 b] 25)).alloc (.cells #[.int .u16 c,.int .u32 d] 25)).heap.size:=by simp;omega
 have k0:((w.alloc (.cells #[.int .u16 a,.int .u32 b] 25)).alloc (.cells #[.int .u16 c,.int .u32 d] 25)).cell? ⟨w.heap.size,0,none⟩=some (.int .u16 a):=by simp
 have k1:((w.alloc (.cells #[.int .u16 a,.int .u32 b] 25)).alloc (.cells #[.int .u16 c,.int .u32 d] 25)).cell? ⟨w.heap.size,1,none⟩=some (.int .u32 b):=by simp
 have k2:((w.alloc (.cells #[.int .u16 a,.int .u32 b] 25)).alloc (.cells #[.int .u16 c,.int .u32 d] 25)).cell? ⟨w.heap.size+1,0,none⟩=some (.int .u16 c):=by simp
 have k3:((w.alloc (.cells #[.int .u16 a,.int .u32 b] 25)).alloc (.cells #[.int .u16 c,.int .u32 d] 25)).cell? ⟨w.heap.size+1,1,none⟩=some (.int .u32 d):=by simp
 go_enter Tryz.func84,Tryz.ntmps84
 go_wp2
 revert hB hz k0 k1 k2 k3
 generalize (w.alloc (.cells #[.int .u16 a,.int .u32 b] 25)).alloc (.cells #[.int .u16 c,.int .u32 d] 25)=wr
 intro hB hz k0 k1 k2 k3
 have f0:=Za k0
 have f1:=Za k1
 have f2:=Za k2
 have f3:=Za k3
 clear k0 k1 k2 k3
 have n1:∀U:YB wr,Calls Tryz.prog 184 #[.agg #[.int .u16 a,.int .u32 b]] U.W λe w'=>e=.returned (.int .u64 (KG (a,b)))∧∃U':YB wr,w'=U'.W:=λU=>zbC (Qx a b U.W h1) rfl
 have n2:∀U:YB wr,Calls Tryz.prog 184 #[.agg #[.int .u16 c,.int .u32 d]] U.W λe w'=>e=.returned (.int .u64 (KG (c,d)))∧∃U':YB wr,w'=U'.W:=λU=>zbC (Qx c d U.W h2) rfl
 have hs:zb8 (a,b) (c,d)=decide (KG (a,b)<KG (c,d)):=rfl
 have HS:=hid hs
 clear hs
 revert n1 n2 HS
 generalize KG (a,b)=A
 generalize KG (c,d)=B
 intro n1 n2 HS
 refine Ze (w:=wr) (Below.refl _ _) (by kernel_rfl) (by kernel_rfl) ?_
 repeat (go_big_quiet_step (first | (go_at_call_of 184 c;exact n2 _) | exact n1 _))
 refine wpQuiet_nil ?_
 rintro w9 ⟨⟨_,hb9⟩,rfl⟩
 go_wp2
 go_ret
 exact ⟨Zm HS.out.symm,hB.trans (hb9.mono hz)⟩
theorem zcn {p q:Pid} (h1:okP p) (h2:okP q):zb8 p q=GF p q:=by
 obtain ⟨x1,x2,x3,x4⟩:=h1
 obtain ⟨y1,y2,y3,y4⟩:=h2
 unfold zb8 GF KG
 congr 1
 simp only [eq_iff_iff]
 omega
theorem zc9 {a b c d:Int} {w:World} {r:Bool} (h:Hid (GF (a,b) (c,d)=r)) (h1:okP (a,b)) (h2:okP (c,d)):Calls Tryz.prog 84 #[.agg #[.int .u16 a,.int .u32 b],.agg #[.int .u16 c,.int .u32 d]] w λe w'=>e=.returned (.bool r)∧Below w.heap.size w w' :=
 (zcq a b c d w h1 h2).mono λ_ _ ⟨e1,e2⟩=>⟨by rw [e1,zcn h1 h2,h.out],e2⟩
def FD (l:List Pid) (k:Nat):Bool:=susB (JH l k) (l.drop k)
def zdx (pr:Option Pid) (p:Pid):Bool:=match pr with | none=>true | some q=>GF q p
theorem zcP {l:List Pid} {k:Nat} (h:k<l.length) {x y:Int} (hx:(x,y)=l[k]):FD l k=((Ez (x,y) && zdx (JH l k) (x,y)) && FD l (k+1)):=by
 unfold FD
 rw [List.drop_eq_getElem_cons h,← hx,zbt h hx]
 rfl
theorem zd3 {l:List Pid} {k:Nat} (h:l.length≤k):FD l k=true:=by
 unfold FD;rw [List.drop_eq_nil_of_le h];rfl
structure YO (w:World) (g:Nat) (x:Kd) (a:Option Addr) (n c:Nat):Prop where
 c0:w.cell? ⟨g,0,none⟩=some (.int .u64 x.v)
 c1:w.cell? ⟨g,1,none⟩=some (.int .u64 x.ap)
 c2:w.cell? ⟨g,2,none⟩=some (.int .u64 x.be)
 c3:w.cell? ⟨g,3,none⟩=some (.int .u64 x.st)
 c4:w.cell? ⟨g,4,none⟩=some (.slice a n c)
theorem YO.lt {w:World} {g:Nat} {x:Kd} {a:Option Addr} {n c:Nat} (h:YO w g x a n c):g<w.heap.size:=World.block_lt_of_cell? w _ h.c0
theorem YO.ext {w w':World} {g:Nat} {x:Kd} {a:Option Addr} {n c B:Nat} (h:YO w g x a n c) (hb:Below B w w') (hB:g<B):YO w' g x a n c :=
 ⟨(hb.cell (by exact hB)).trans h.c0,(hb.cell (by exact hB)).trans h.c1,(hb.cell (by exact hB)).trans h.c2,(hb.cell (by exact hB)).trans h.c3,(hb.cell (by exact hB)).trans h.c4⟩
theorem YO.made {x:Kd} {a:Option Addr} {n c:Nat} (w:World):YO (w.alloc (.cells #[.int .u64 x.v,.int .u64 x.ap,.int .u64 x.be,.int .u64 x.st,.slice a n c] 118)) w.heap.size x a n c:=⟨by simp,by simp,by simp,by simp,by simp⟩
theorem GN {x:Kd} (h:¬ (x.v≤4611686018427387904∧x.ap≤4611686018427387904∧x.be≤4611686018427387904∧x.st≤4611686018427387904∧x.sus.length≤24)):YC x=false:=by
 cases h':YC x
 ·rfl
 ·unfold YC at h'
  simp only [Bool.and_eq_true,decide_eq_true_eq] at h'
  exact absurd ⟨h'.1,h'.2.1,h'.2.2.1,h'.2.2.2.1,h'.2.2.2.2.1⟩ h
theorem zaP {x:Kd} (h:x.v≤4611686018427387904∧x.ap≤4611686018427387904∧x.be≤4611686018427387904∧x.st≤4611686018427387904∧x.sus.length≤24):YC x=FD x.sus 0:=by
 obtain ⟨h1,h2,h3,h4,h5⟩:=h
 unfold YC FD
 rw [decide_eq_true h1,decide_eq_true h2,decide_eq_true h3,decide_eq_true h4,decide_eq_true h5];rfl
theorem max2_run (a b:Nat) (W:World):(Builtin.max2 (.int .u64 a) (.int .u64 b)).run Tryz.prog W=.ok (.int .u64 (max a b:Nat)) W:=by
 have e:(if (b:Int) > (a:Int) then (b:Int) else (a:Int))=((max a b:Nat):Int):=by
  by_cases h:b > a
  ·rw [if_pos (by omega)];omega
  ·rw [if_neg (by omega)];omega
 show ((pure (.int .u64 (if (b:Int) > (a:Int) then (b:Int) else (a:Int))):Sem Value)).run Tryz.prog W=_
 rw [e];simp
theorem max4_run {a b c d m:Nat} (h:Hid (max (max (max a b) c) d=m)) (W:World):(Builtin.max_ #[32,32,32,32] 32 #[.int .u64 a,.int .u64 b,.int .u64 c,.int .u64 d]).run Tryz.prog W=.ok (.int .u64 m) W:=by
 rw [←h.out]
 simp only [Builtin.max_,List.foldlM]
 simp [max2_run,Result.andThen]
def chkN (b:Bool):Int:=if b then 0 else 1
set_option maxRecDepth 100000 in
set_option maxHeartbeats 6400000 in
theorem FP {x:Kd} {a:Option Addr} {c n:Nat} {w:World} (hn:Hid (x.sus.length=n)) (hl:n≤70368744177664) (hok:∀p∈x.sus,okP p) (hrow:Zb w a x.sus) :
  Calls Tryz.prog 128 #[.agg #[.int .u64 x.v,.int .u64 x.ap,.int .u64 x.be,.int .u64 x.st,.slice a n c]] w λe w'=>e=.returned (.int .i64 (chkN (YC x)))∧Below w.heap.size w w':=by
 obtain ⟨W1,hW1⟩:∃W1,w.alloc (.cells #[.int .u64 x.v,.int .u64 x.ap,.int .u64 x.be,.int .u64 x.st,.slice a n c] 118)=W1:=⟨_,rfl⟩
 have hB1:Below w.heap.size w W1:=by rw [←hW1];exact bra
 have hbx:YO W1 w.heap.size x a n c:=by rw [←hW1];exact YO.made w
 have hrow1:=hrow.ext hB1
 have HB1:=hid hB1
 have HOK:=hid hok
 have HROW:=hid hrow1
 have HBX:=hid hbx
 have hlt0:=hbx.lt
 obtain ⟨c0,c1,c2,c3,c4⟩:=hbx
 clear hB1 hrow hrow1 hok
 obtain ⟨m,hm⟩:∃m,max (max (max x.v x.ap) x.be) x.st=m:=⟨_,rfl⟩
 have MX:=λW=>max4_run (hid hm) W
 by_cases b0:4611686018427387904<m
 ·have HNO:Hid (YC x=false):=hid (GN (by omega))
  have s0:decide (4611686018427387904<m)=true:=by simpa using b0
  have u0:decide ((4611686018427387904:Int)<(m:Int))=true:=by simp;omega
  have y0:decide ((m:Int) > 4611686018427387904)=true:=by simp;omega
  clear b0 hm
  go_enter Tryz.func128,Tryz.ntmps128
  go_wp2
  go_ret
  exact ⟨by rw [HNO.out];rfl,HB1.out⟩
 have s0:decide (4611686018427387904<m)=false:=by simp;omega
 have u0:decide ((4611686018427387904:Int)<(m:Int))=false:=by simp;omega
 have y0:decide ((m:Int) > 4611686018427387904)=false:=by simp;omega
 by_cases b4:24<n
 ·have HNO:Hid (YC x=false):=hid (GN (by have:=hn.out;omega))
  have s4:decide (24<n)=true:=by simpa using b4
  have u4:decide ((24:Int)<(n:Int))=true:=by simp;omega
  have y4:decide ((n:Int) > 24)=true:=by simp;omega
  clear b0 b4 hm
  go_enter Tryz.func128,Tryz.ntmps128
  go_wp2
  go_ret
  exact ⟨by rw [HNO.out];rfl,HB1.out⟩
 have s4:decide (24<n)=false:=by simp;omega
 have u4:decide ((24:Int)<(n:Int))=false:=by simp;omega
 have y4:decide ((n:Int) > 24)=false:=by simp;omega
 have HYES:Hid (YC x=FD x.sus 0):=hid (zaP (by have:=hn.out;omega))
 have hn24:n≤24:=by omega
 clear b0 b4 hm
 go_enter Tryz.func128,Tryz.ntmps128
 go_wp2
 go_loopw [2,24] (λrs i wr=>rs=.int .i64 0∧∃k:Nat,k≤n∧i=.int .i64 k∧Hid (YC x=FD x.sus k)∧Below W1.heap.size W1 wr) (λ_ i _=>n - (intOf i).toNat)
 case atStart=>exact ⟨rfl,0,Nat.zero_le _,rfl,HYES,Below.refl _ _⟩
 case round =>
  obtain ⟨rfl,k,hk,rfl,ha,hb⟩:=hrel
  by_cases hlt:k<n
  ·have hlt':k<x.sus.length:=by rw [hn.out];exact hlt
   obtain ⟨b,off,i,j,rfl,hx,d0,d1⟩:=HROW.out.at hb rfl hlt'
   have hst:=zcP hlt' hx
   have hij:okP (i,j):=by rw [hx];exact HOK.out _ (List.getElem_mem _)
   obtain ⟨m1,hm1⟩:∃m,Ez (i,j)=m:=⟨_,rfl⟩
   rw [hm1] at hst
   have HST:=hid hst
   have HX:=hid hx
   have HIJ:=hid hij
   have HM1:=hid hm1
   have hz:=hb.size
   clear hst hx hij hm1 c0 c1 c2 c3
   obtain ⟨g,hg⟩:∃g,wr.heap.size=g:=⟨_,rfl⟩
   go_upto_region 6 with fail
   obtain ⟨wq,hwq⟩:∃wq,wr.alloc (.cells #[.int .u16 i,.int .u32 j] 25)=wq:=⟨_,rfl⟩
   have hb1q:Below W1.heap.size W1 wq:=by rw [←hwq];exact hb.alloc hb.size _
   have p0:wq.cell? ⟨g,0,none⟩=some (.int .u16 i):=by rw [←hwq,← hg];simp
   have p1:wq.cell? ⟨g,1,none⟩=some (.int .u32 j):=by rw [←hwq,← hg];simp
   rw [hwq]
   have hx0:=Za p0
   have hx1:=Za p1
   have x4:=Za (HBX.out.ext hb1q HBX.out.lt).c4
   have hrq:=HROW.out.ext hb1q
   have hbq:Below wq.heap.size wq wq:=Below.refl _ _
   have MY:∀U:YB wq,Calls Tryz.prog 159 #[.agg #[.int .u16 i,.int .u32 j]] U.W λe w'=>e=.returned (.bool m1)∧∃U':YB wq,w'=U'.W:=λU=>zbC (QL (w:=U.W) HM1 HIJ.out.2.2.1) rfl
   have HB1Q:=hid hb1q
   clear hb1q p0 p1 d0 d1 hwq hg hb c4
   cases m1
   case false =>
    refine Ze hbq (by kernel_rfl) (by kernel_rfl) ?_
    repeat (go_big_quiet_step (with_reducible exact MY _))
    refine wpQuiet_nil ?_
    rintro _ ⟨⟨w9,hb9⟩,rfl⟩
    go_wp2
    go_ret
    exact ⟨by rw [ha.out,HST.out];rfl,HB1.out.trans ((HB1Q.out.trans (hb9.mono HB1Q.out.size)).mono HB1.out.size)⟩
   case true =>
   by_cases hk0:k=0
   ·have hk1:decide (0<(k:Int))=false:=by simp;omega
    have hk2:decide (0<k)=false:=by simp;omega
    have hk3:decide ((k:Int) > 0)=false:=by simp;omega
    have HP:Hid (zdx (JH x.sus k) (i,j)=true):=hid (by rw [hk0];rfl)
    clear hk0
    refine Ze hbq (by kernel_rfl) (by kernel_rfl) ?_
    repeat (go_big_quiet_step (with_reducible exact MY _))
    refine wpQuiet_nil ?_
    rintro _ ⟨⟨w9,hb9⟩,rfl⟩
    go_wp2
    go_roundw
    case rel=>exact ⟨rfl,k+1,by omega,by go_num,hid (ha.out.trans (by rw [HST.out,HP.out];rfl)),HB1Q.out.trans (hb9.mono HB1Q.out.size)⟩
    case measure=>simp [intOf];omega
   ·have hk1:decide (0<(k:Int))=true:=by simp;omega
    have hk2:decide (0<k)=true:=by simp;omega
    have hk3:decide ((k:Int) > 0)=true:=by simp;omega
    have hkl:k - 1<x.sus.length:=by omega
    have hkc:((k - 1:Nat):Int)=(k:Int) - 1:=by omega
    obtain ⟨b2,off2,i2,j2,e2,hx2,-,-⟩:=hrq.at hbq rfl hkl
    cases e2
    obtain ⟨hg0,hg1⟩:=hrq.extw hkl hx2
    have hpr:JH x.sus k=some (i2,j2):=by simp [JH,hk0,hkl,hx2]
    have hij2:okP (i2,j2):=by rw [hx2];exact HOK.out _ (List.getElem_mem _)
    obtain ⟨q,hq⟩:∃q,GF (i2,j2) (i,j)=q:=⟨_,rfl⟩
    have AH:∀U:YB wq,Calls Tryz.prog 84 #[.agg #[.int .u16 i2,.int .u32 j2],.agg #[.int .u16 i,.int .u32 j]] U.W λe w'=>e=.returned (.bool q)∧∃U':YB wq,w'=U'.W:=λU=>zbC (zc9 (w:=U.W) (hid hq) hij2 HIJ.out) rfl
    have HP:Hid (zdx (JH x.sus k) (i,j)=q):=hid (by rw [hpr];exact hq)
    have HKC:=hid hkc
    clear hx2 hpr hq hkc hij2
    cases q
    case false =>
     refine Ze hbq (by kernel_rfl) (by kernel_rfl) ?_
     repeat (go_big_quiet_step (first | (with_reducible exact AH _) | (with_reducible exact MY _)))
     refine wpQuiet_nil ?_
     rintro _ ⟨⟨w9,hb9⟩,rfl⟩
     go_wp2
     go_ret
     exact ⟨by rw [ha.out,HST.out,HP.out];rfl,HB1.out.trans ((HB1Q.out.trans (hb9.mono HB1Q.out.size)).mono HB1.out.size)⟩
    case true =>
     refine Ze hbq (by kernel_rfl) (by kernel_rfl) ?_
     repeat (go_big_quiet_step (first | (with_reducible exact AH _) | (with_reducible exact MY _)))
     refine wpQuiet_nil ?_
     rintro _ ⟨⟨w9,hb9⟩,rfl⟩
     go_wp2
     go_roundw
     case rel=>exact ⟨rfl,k+1,by omega,by go_num,hid (ha.out.trans (by rw [HST.out,HP.out];rfl)),HB1Q.out.trans (hb9.mono HB1Q.out.size)⟩
     case measure=>simp [intOf];omega
  ·go_wp2
   go_ret
   exact ⟨by rw [ha.out,zd3 (by rw [hn.out];omega)];rfl,HB1.out.trans (hb.mono HB1.out.size)⟩
theorem zcQ {w0 W W':World} {s:Nat} (h:Below w0.heap.size w0 W) (hm:Mut (λk=>k=s) W W') (hs:w0.heap.size≤s):Below w0.heap.size w0 W' :=
 h.trans (hm.below h.size (λ_k e=>e ▸ hs))
theorem Zb.blk {w:World} {b off:Nat} {a:Option Addr} {l:List Pid} (h:Zb w a l) (e:a=some ⟨b,off,none⟩) (hne:l≠[]):b<w.heap.size:=by
 rcases h with h | ⟨b',off',e',hlt,-⟩
 ·exact absurd h hne
 ·rw [e] at e';cases e';exact hlt
theorem YO.mut {w w':World} {g s:Nat} {x:Kd} {a:Option Addr} {n c:Nat} (h:YO w g x a n c) (hm:Mut (λk=>k=s) w w') (hs:g≠s):YO w' g x a n c :=
 ⟨ZL h.c0 hm hs,ZL h.c1 hm hs,ZL h.c2 hm hs,ZL h.c3 hm hs,ZL h.c4 hm hs⟩
theorem zbY (a0 a1 a2 a3 m:Nat) (k:Nat) (h:[a0,a1,a2,a3][k]?=some m) (z:Int) (hz:z=(k:Int)) (W:World):(Instr.index 211 (.agg #[.int .u64 a0,.int .u64 a1,.int .u64 a2,.int .u64 a3]) (.int .i64 z)).run Tryz.prog W=.ok (.int .u64 m) W:=by
 have hs:∀W,(sizeOf 32).run Tryz.prog W=.ok 1 W:=λW=>Tryz.sizeOf32 W
 subst hz
 match k,h with
 | 0,h=>cases h;simp [Instr.index,run_underlying Tryz.underlying211,hs,Result.andThen,asIntOf,part]
 | 1,h=>cases h;simp [Instr.index,run_underlying Tryz.underlying211,hs,Result.andThen,asIntOf,part]
 | 2,h=>cases h;simp [Instr.index,run_underlying Tryz.underlying211,hs,Result.andThen,asIntOf,part]
 | 3,h=>cases h;simp [Instr.index,run_underlying Tryz.underlying211,hs,Result.andThen,asIntOf,part]
def FQ (x:Kd) (k:Nat):List Nat:=([x.v,x.ap,x.be,x.st].take k).flatMap ZW
theorem nums_4 (x:Kd):FQ x 4 ++ zct x.sus=beatF x:=by
 unfold FQ beatF
 simp
theorem Qn {x:Kd} (h:x.v<18446744073709551616∧x.ap<18446744073709551616∧x.be<18446744073709551616∧x.st<18446744073709551616) {k:Nat} (hk:k≤4):(FQ x k).length≤40:=by
 have h1:=ZT h.1
 have h2:=ZT h.2.1
 have h3:=ZT h.2.2.1
 have h4:=ZT h.2.2.2
 unfold FQ
 match k,hk with
 | 0,_=>simp
 | 1,_=>simp;omega
 | 2,_=>simp;omega
 | 3,_=>simp;omega
 | 4,_=>simp;omega
theorem zdT {x:Kd} (h:x.v<18446744073709551616∧x.ap<18446744073709551616∧x.be<18446744073709551616∧x.st<18446744073709551616) (hok:∀p∈x.sus,okP p) (hl:x.sus.length≤1000):(beatF x).length≤30000:=by
 rw [←nums_4,List.length_append]
 have h1:=Qn h (k:=4) (by omega)
 have h2:=XL hok
 have h3:=ZT (n:=x.sus.length) (by omega)
 unfold zct
 rw [List.length_append]
 omega
theorem nums_lt {x:Kd} (h:YC x=true):x.v<18446744073709551616∧x.ap<18446744073709551616∧x.be<18446744073709551616∧x.st<18446744073709551616:=by
 unfold YC at h
 simp only [Bool.and_eq_true,decide_eq_true_eq] at h
 omega
theorem beat24 {x:Kd} (h:YC x=true):x.sus.length≤24:=by
 unfold YC at h
 simp only [Bool.and_eq_true,decide_eq_true_eq] at h
 omega
set_option maxRecDepth 100000 in
set_option maxHeartbeats 6400000 in
theorem Gq {x:Kd} {a:Option Addr} {c n:Nat} {w:World} (hn:Hid (x.sus.length=n)) (hl:n≤70368744177664) (hok:∀p∈x.sus,okP p) (hrow:Zb w a x.sus) :
  Calls Tryz.prog 108 #[.agg #[.int .u64 x.v,.int .u64 x.ap,.int .u64 x.be,.int .u64 x.st,.slice a n c]] w λe w'=>∃v,e=.returned (.tuple #[v,.int .i64 (chkN (YC x))])∧Ys w' w.heap.size v (if YC x then beatF x else [])∧Below w.heap.size w w':=by
 obtain ⟨W1,hW1⟩:∃W1,w.alloc (.cells #[.int .u64 x.v,.int .u64 x.ap,.int .u64 x.be,.int .u64 x.st,.slice a n c] 118)=W1:=⟨_,rfl⟩
 have hB1:Below w.heap.size w W1:=by rw [←hW1];exact bra
 have hbx:YO W1 w.heap.size x a n c:=by rw [←hW1];exact YO.made w
 have CK:=hid (FP (c:=c) hn hl hok (hrow.ext hB1))
 have HB1:=hid hB1
 have HOK:=hid hok
 have HROW:=hid (hrow.ext hB1)
 have HBX:=hid hbx
 obtain ⟨c0,c1,c2,c3,c4⟩:=hbx
 clear hB1 hrow hok
 cases hk:YC x
 case false =>
  rw [hk] at CK
  have e1:chkN false=1:=rfl
  rw [e1] at CK ⊢
  clear hk
  go_enter Tryz.func108,Tryz.ntmps108
  go_wp2_with (go_at_call 128;(with_reducible refine CK.out.mono ?_);rintro e w2 ⟨rfl,hb2⟩)
  go_ret2
  exact ⟨_,rfl,Ys.nil _ _,HB1.out.trans (hb2.mono HB1.out.size)⟩
 case true =>
  rw [hk] at CK
  have e1:chkN true=0:=rfl
  rw [e1] at CK ⊢
  have HNL:=hid (nums_lt hk)
  have HN24:Hid (n≤24):=hid (by have:=beat24 hk;rw [hn.out] at this;exact this)
  clear hk
  go_enter Tryz.func108,Tryz.ntmps108
  go_wp2_with fail
  (with_reducible refine CK.out.mono ?_)
  rintro e w2 ⟨rfl,hb2⟩
  obtain ⟨w3,hw3⟩:∃w3,w2.alloc (.cells #[.slice none 0 0] 294)=w3:=⟨_,rfl⟩
  obtain ⟨s,hs⟩:∃s,w2.heap.size=s:=⟨_,rfl⟩
  have hwr:FJ w3 s (.slice none 0 0) []:=by rw [←hw3,← hs];exact FJ.made w2 _
  have hb23:Below w2.heap.size w2 w3:=by rw [←hw3];exact bra
  have hbx3:YO w3 w.heap.size x a n c:=(HBX.out.ext hb2 HBX.out.lt).ext hb23 (by have:=HBX.out.lt;have:=hb2.size;omega)
  have hb13:Below W1.heap.size W1 w3:=hb2.trans (hb23.mono hb2.size)
  have hss:w.heap.size<s∧W1.heap.size≤s:=by rw [←hs];have:=HBX.out.lt;have:=hb2.size;omega
  have HWR:=hid hwr
  have HB13:=hid hb13
  have HBX3:=hid hbx3
  have HSS:=hid hss
  have HB2:=hid hb2
  clear hwr hb13 hss hbx3 hb23 hb2 CK c0 c1 c2 c3 c4
  have hc2:=HBX.out.ext HB2.out HBX.out.lt
  go_upto_region 5 with fail
  obtain ⟨c0,c1,c2,c3,c4⟩:=HBX3.out
  clear hw3 hc2 hs
  go_wp2_with fail
  go_loopw [24] (λi wr=>∃k:Nat,k≤4∧i=.int .i64 k∧Hid (∃v,FJ wr s v (FQ x k))∧Mut (λq=>q=s) w3 wr) (λi _=>4 - (intOf i).toNat)
  case atStart=>exact ⟨0,by omega,rfl,hid ⟨_,HWR.out⟩,Mut.refl _ _⟩
  case round =>
   obtain ⟨k,hk,rfl,hv,hm⟩:=hrel
   obtain ⟨v,hwv⟩:=hv.out
   have key:∀(k:Nat) (m:Nat),[x.v,x.ap,x.be,x.st][k]?=some m→m<18446744073709551616∧FQ x k ++ ZW m=FQ x (k+1):=by
    intro k m h
    have hl:=HNL.out
    unfold FQ
    match k,h with
    | 0,h=>cases h;exact ⟨hl.1,by simp⟩
    | 1,h=>cases h;exact ⟨hl.2.1,by simp⟩
    | 2,h=>cases h;exact ⟨hl.2.2.1,by simp⟩
    | 3,h=>cases h;exact ⟨hl.2.2.2,by simp⟩
   have hlen:=Qn HNL.out hk
   have W:Hid (∀m,[x.v,x.ap,x.be,x.st][k]?=some m→Calls Tryz.prog 206 #[.pointer (some ⟨s,0,none⟩),.int .u64 m] wr λe w'=>e=.returned (.tuple #[])∧∃v',VU wr w' s v' (FQ x (k+1))):=hid λm h=>by
    have hq:=key k m h
    have:=FA m hwv (by omega) hq.1
    rw [hq.2] at this;exact this
   have HM:=hid hm
   have HV:=hv
   clear key hlen hwv hv hm v
   obtain rfl | rfl | rfl | rfl | rfl:k=0∨k=1∨k=2∨k=3∨k=4:=by omega
   case inr.inr.inr.inr =>
    clear W
    have hb4:YO wr w.heap.size x a n c:=HBX3.out.mut HM.out (by have:=HSS.out.1;omega)
    have e4:=hb4.c4
    obtain ⟨v,hwv⟩:=HV.out
    have hfar:∀b off,a=some ⟨b,off,none⟩→x.sus≠[]→b≠s:=λb off e hne=>by
     have:=HROW.out.blk e hne;have:=HSS.out.2;omega
    have hrw:=(HROW.out.ext HB13.out).mutT HM.out hfar
    have hl4:=Qn HNL.out (k:=4) (by omega)
    have WP0:=zey (c:=c) hwv (by omega) hn (by have:=HN24.out;omega) HOK.out hrw hfar
    rw [nums_4] at WP0
    have WP:=hid WP0
    clear WP0 hrw hwv hb4 hl4 v c0 c1 c2 c3 c4
    go_wp2_with fail
    (with_reducible refine WP.out.mono ?_)
    rintro e w6 ⟨rfl,v6,hw6⟩
    have DN:=hid (FX hw6.wr (by have:=zdT HNL.out HOK.out (by rw [hn.out];have:=HN24.out;omega);omega))
    have HB6:=hid (zcQ (HB1.out.trans (HB13.out.mono HB1.out.size)) (HM.out.trans hw6.mt) (by have:=HSS.out.1;omega))
    clear hw6 WP
    go_wp2_with fail
    (with_reducible refine DN.out.mono ?_)
    rintro e w7 ⟨v7,rfl,hown7,hb7⟩
    have HO7:=hid (hown7.mono HB6.out.size)
    have HB7:=hid (HB6.out.trans (hb7.mono HB6.out.size))
    clear hown7 hb7 DN
    go_wp2
    go_ret2
    exact ⟨v7,rfl,HO7.out,HB7.out⟩
   case inl =>
    have N:=hid (W.out x.v rfl)
    have IX:=zbY x.v x.ap x.be x.st x.v 0 rfl 0 rfl
    clear W
    go_wp2_with (go_at_call 206;(with_reducible refine N.out.mono ?_);rintro e w5 ⟨rfl,v5,hw5⟩)
    go_roundw
    case rel=>exact ⟨1,by omega,by go_num,hid ⟨v5,hw5.wr⟩,HM.out.trans hw5.mt⟩
    case measure=>simp [intOf]
   case inr.inl =>
    have N:=hid (W.out x.ap rfl)
    have IX:=zbY x.v x.ap x.be x.st x.ap 1 rfl 1 rfl
    clear W
    go_wp2_with (go_at_call 206;(with_reducible refine N.out.mono ?_);rintro e w5 ⟨rfl,v5,hw5⟩)
    go_roundw
    case rel=>exact ⟨2,by omega,by go_num,hid ⟨v5,hw5.wr⟩,HM.out.trans hw5.mt⟩
    case measure=>simp [intOf]
   case inr.inr.inl =>
    have N:=hid (W.out x.be rfl)
    have IX:=zbY x.v x.ap x.be x.st x.be 2 rfl 2 rfl
    clear W
    go_wp2_with (go_at_call 206;(with_reducible refine N.out.mono ?_);rintro e w5 ⟨rfl,v5,hw5⟩)
    go_roundw
    case rel=>exact ⟨3,by omega,by go_num,hid ⟨v5,hw5.wr⟩,HM.out.trans hw5.mt⟩
    case measure=>simp [intOf]
   case inr.inr.inr.inl =>
    have N:=hid (W.out x.st rfl)
    have IX:=zbY x.v x.ap x.be x.st x.st 3 rfl 3 rfl
    clear W
    go_wp2_with (go_at_call 206;(with_reducible refine N.out.mono ?_);rintro e w5 ⟨rfl,v5,hw5⟩)
    go_roundw
    case rel=>exact ⟨4,by omega,by go_num,hid ⟨v5,hw5.wr⟩,HM.out.trans hw5.mt⟩
    case measure=>simp [intOf]
theorem RL_oneB (r:Nat→Int):(RL r).toArray.all (·.oneCell')=true:=by rw [RL_arr];simp [Value.oneCell']
theorem Gr {ops:Array Oper} {rest:List Oper} {op:Oper} {a:Go.Act} {w:World} {Q:Exit→Go.Act→World→Prop} {x y:Operand} {b:Nat} {r:Nat→Int} (hgd:op.guard=none) (ho:op.op=.store 92 x y)
  (hx:a.eval x=.pointer (some ⟨b,0,none⟩)) (hy:a.eval y=.agg (RL r).toArray) (ht:w.there b 0 16) (hk:wpList Tryz.prog ops Q rest (a.put op.dst undef) (w.setCells b 0 (RL r))):wpList Tryz.prog ops Q (op :: rest) a w :=
 wpList_store_mid hgd 92 x y ho b 0 (RL r).toArray hx hy ht info70 (RL_oneB r) hk
section
variable {w:World} {a:Option Addr} {c:Nat}
set_option maxRecDepth 100000 in
set_option maxHeartbeats 6400000 in
theorem zdM (r:Nat→Int):Calls Tryz.prog 91 #[.agg (RL r).toArray,.slice a 0 c] w λe w'=>e=.returned (.agg (RL r).toArray)∧Below w.heap.size w w':=by
 obtain ⟨W1,hW1⟩:∃W1,w.alloc (.cells (RL r).toArray 92)=W1:=⟨_,rfl⟩
 obtain ⟨W2,hW2⟩:∃W2,W1.alloc (.cells #[.int .u32 0,.int .u32 0,.int .u32 0,.int .u32 0,.int .u32 0,.int .u32 0,.int .u32 0,.int .u32 0,.int .u32 0,.int .u32 0,.int .u32 0,.int .u32 0,.int .u32 0,.int .u32 0,.int .u32 0,.int .u32 0] 92)=W2:=⟨_,rfl⟩
 have hb1:Below w.heap.size w W1:=by rw [←hW1];exact bra
 have hb12:Below W1.heap.size W1 W2:=by rw [←hW2];exact bra
 have hR1:Yb W1 w.heap.size r:=by rw [←hW1];exact Yb.madeV w r
 have hz1:w.heap.size<W1.heap.size:=by rw [←hW1];simp
 have hR2:Yb W2 w.heap.size r:=hR1.ext hb12 hz1
 have hO2:Xe W2 W1.heap.size [.int .u32 0,.int .u32 0,.int .u32 0,.int .u32 0,.int .u32 0,.int .u32 0,.int .u32 0,.int .u32 0,.int .u32 0,.int .u32 0,.int .u32 0,.int .u32 0,.int .u32 0,.int .u32 0,.int .u32 0,.int .u32 0]:=by rw [←hW2];exact Xe.made _ _ _
 have ht:W2.there W1.heap.size 0 16:=hO2.there (by simp)
 have HB2:=hid (hb1.trans (hb12.mono hb1.size))
 have HZ:=hid hb1.size
 clear hb1 hb12 hR1 hz1 hO2
 go_enter Tryz.func91,Tryz.ntmps91
 go_upto_region 1 with fail
 try rw [hW1]
 try rw [hW2]
 clear hW1 hW2
 go_wp2_with fail
 go_loopw [9] (λiv wr=>iv=.int .i64 0∧wr=W2) (λ_ _=>0)
 case atStart=>exact ⟨rfl,rfl⟩
 case round =>
  obtain ⟨rfl,rfl⟩:=hrel
  go_wp2_with (first | (refine ZJ hR2 (by rfl) rfl rfl ?_) | (refine Gr (r:=r) rfl rfl rfl rfl ht ?_))
  refine bodyPost_ret (v:=.agg (RL r).toArray) (YX (p:=4) (ty:=92) rfl _ _ W1.heap.size 0 (RL r) _ rfl (World.rangeAt_setCells_same _ _ _ _ ht) Tryz.underlying92 rfl (Qw r)) rfl ⟨rfl,Yl _ _ HB2.out HZ.out⟩
end
end Go.Proofs.YtcdpaflmofljaaaGreat
