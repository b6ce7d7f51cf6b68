import Derived.Test.YtcdpaflmofljaaaGreatGNodeNil14
/- Parts of the proof of NodeNil: LZ MA MB MC NG NH E9 E10 E11 E12. -/
namespace Go.Proofs.YtcdpaflmofljaaaGreat
open Go.RowKit
def ZC (N:Nat→Prop) (R:World→Prop) (w:World) (e:Ending) (w':World):Prop:=e=.returned (.tuple #[])∧R w'∧Mut (λk=>N k∨w.heap.size≤k) w w'
theorem ZC.lift {N:Nat→Prop} {R:World→Prop} {w W w':World} {e:Ending} (hb:Below w.heap.size w W) (h:ZC N R W e w'):ZC N R w e w' :=
 ⟨h.1,h.2.1,((Mut.of_below hb).mono λk _ e=>.inr e).trans (h.2.2.mono λk _ e=>e.imp id (Nat.le_trans hb.size))⟩
section
variable {w:World} {nb:Nat} {cs:List Value} {x y:Int} {M:MA} {m:Jr} {R:World→Prop} {N:Nat→Prop}
set_option maxRecDepth 100000 in
set_option maxHeartbeats 3200000 in
theorem Eu (hB:Zc w nb 98 cs) (h5:cs[5]?=some (.int .i64 1)) (hk:m.kind=4∨m.kind=6) (CV:∀W,Below w.heap.size w W→Calls Tryz.prog 155 #[.pointer (some ⟨nb,0,none⟩),.agg #[.int .u16 x,.int .u32 y],.agg (ML M m).toArray] W λe w'=>ZC N R W e w') :
  Calls Tryz.prog 62 #[.pointer (some ⟨nb,0,none⟩),.agg #[.int .u16 x,.int .u32 y],.agg (ML M m).toArray] w λe w'=>ZC N R w e w':=by
 obtain ⟨W1,hW1⟩:∃W1,w.alloc (.cells #[.int .u16 x,.int .u32 y] 25)=W1:=⟨_,rfl⟩
 obtain ⟨W2,hW2⟩:∃W2,W1.alloc (.cells (ML M m).toArray 128)=W2:=⟨_,rfl⟩
 have hb1:Below w.heap.size w W1:=by rw [←hW1];exact bra
 have hb12:Below W1.heap.size W1 W2:=by rw [←hW2];exact bra
 have hb2:Below w.heap.size w W2:=hb1.trans (hb12.mono hb1.size)
 have xP:Zc W2 w.heap.size 25 [.int .u16 x,.int .u32 y]:=(by rw [←hW1];exact Zc.made _ _ _:Zc W1 w.heap.size 25 [.int .u16 x,.int .u32 y]).ext hb12
 have xM:Zr W2 W1.heap.size M m:=by rw [←hW2];exact Zr.made _ _ _ _ _
 have HB2:=hid (hB.ext hb2)
 have CX:=hid (CV W2 hb2)
 have HW2:=hid hb2
 have p0:=xP.cell (j:=0) rfl
 have p1:=xP.cell (j:=1) rfl
 have c5:=HB2.out.cell h5
 have xMH:=hid xM
 clear hB h5 CV hb1 hb12 hb2 xP
 rcases hk with hk | hk
 all_goals
  have m0:=xM.cell (j:=0) (v:=.int .i64 m.kind) rfl
  rw [hk] at m0
  go_enter Tryz.func62,Tryz.ntmps62
  go_upto_region 1 with fail
  try rw [hW2]
  clear hW1 hW2
  go_wp2_with (refine ZX xM rfl rfl rfl ?_)
  refine CX.out.mono ?_
  rintro e w3 ⟨rfl,hR⟩
  have HR:=hid (ZC.lift (e:=.returned (.tuple #[])) HW2.out ⟨rfl,hR⟩)
  clear CX m0 p0 p1 c5 xM hR
  go_wp2_with fail
  exact bodyPost_end (results_none rfl _ _ _) rfl HR.out
set_option maxRecDepth 100000 in
set_option maxHeartbeats 3200000 in
theorem GD (hB:Zc w nb 98 cs) (h5:cs[5]?=some (.int .i64 1)) (hk:m.kind=5∨m.kind=7) (CV:∀W,Below w.heap.size w W→Calls Tryz.prog 156 #[.pointer (some ⟨nb,0,none⟩),.agg #[.int .u16 x,.int .u32 y],.agg (ML M m).toArray] W λe w'=>ZC N R W e w') :
  Calls Tryz.prog 62 #[.pointer (some ⟨nb,0,none⟩),.agg #[.int .u16 x,.int .u32 y],.agg (ML M m).toArray] w λe w'=>ZC N R w e w':=by
 obtain ⟨W1,hW1⟩:∃W1,w.alloc (.cells #[.int .u16 x,.int .u32 y] 25)=W1:=⟨_,rfl⟩
 obtain ⟨W2,hW2⟩:∃W2,W1.alloc (.cells (ML M m).toArray 128)=W2:=⟨_,rfl⟩
 have hb1:Below w.heap.size w W1:=by rw [←hW1];exact bra
 have hb12:Below W1.heap.size W1 W2:=by rw [←hW2];exact bra
 have hb2:Below w.heap.size w W2:=hb1.trans (hb12.mono hb1.size)
 have xP:Zc W2 w.heap.size 25 [.int .u16 x,.int .u32 y]:=(by rw [←hW1];exact Zc.made _ _ _:Zc W1 w.heap.size 25 [.int .u16 x,.int .u32 y]).ext hb12
 have xM:Zr W2 W1.heap.size M m:=by rw [←hW2];exact Zr.made _ _ _ _ _
 have HB2:=hid (hB.ext hb2)
 have CX:=hid (CV W2 hb2)
 have HW2:=hid hb2
 have p0:=xP.cell (j:=0) rfl
 have p1:=xP.cell (j:=1) rfl
 have c5:=HB2.out.cell h5
 have xMH:=hid xM
 clear hB h5 CV hb1 hb12 hb2 xP
 rcases hk with hk | hk
 all_goals
  have m0:=xM.cell (j:=0) (v:=.int .i64 m.kind) rfl
  rw [hk] at m0
  go_enter Tryz.func62,Tryz.ntmps62
  go_upto_region 1 with fail
  try rw [hW2]
  clear hW1 hW2
  go_wp2_with (refine ZX xM rfl rfl rfl ?_)
  refine CX.out.mono ?_
  rintro e w3 ⟨rfl,hR⟩
  have HR:=hid (ZC.lift (e:=.returned (.tuple #[])) HW2.out ⟨rfl,hR⟩)
  clear CX m0 p0 p1 c5 xM hR
  go_wp2_with fail
  exact bodyPost_end (results_none rfl _ _ _) rfl HR.out
set_option maxRecDepth 100000 in
set_option maxHeartbeats 3200000 in
theorem za7 (hB:Zc w nb 98 cs) (h5:cs[5]?=some (.int .i64 1)) (hk:m.kind=1) (CV:∀W,Below w.heap.size w W→Calls Tryz.prog 150 #[.pointer (some ⟨nb,0,none⟩),.agg (ML M m).toArray] W λe w'=>ZC N R W e w') :
  Calls Tryz.prog 62 #[.pointer (some ⟨nb,0,none⟩),.agg #[.int .u16 x,.int .u32 y],.agg (ML M m).toArray] w λe w'=>ZC N R w e w':=by
 obtain ⟨W1,hW1⟩:∃W1,w.alloc (.cells #[.int .u16 x,.int .u32 y] 25)=W1:=⟨_,rfl⟩
 obtain ⟨W2,hW2⟩:∃W2,W1.alloc (.cells (ML M m).toArray 128)=W2:=⟨_,rfl⟩
 have hb1:Below w.heap.size w W1:=by rw [←hW1];exact bra
 have hb12:Below W1.heap.size W1 W2:=by rw [←hW2];exact bra
 have hb2:Below w.heap.size w W2:=hb1.trans (hb12.mono hb1.size)
 have xP:Zc W2 w.heap.size 25 [.int .u16 x,.int .u32 y]:=(by rw [←hW1];exact Zc.made _ _ _:Zc W1 w.heap.size 25 [.int .u16 x,.int .u32 y]).ext hb12
 have xM:Zr W2 W1.heap.size M m:=by rw [←hW2];exact Zr.made _ _ _ _ _
 have HB2:=hid (hB.ext hb2)
 have CX:=hid (CV W2 hb2)
 have HW2:=hid hb2
 have p0:=xP.cell (j:=0) rfl
 have p1:=xP.cell (j:=1) rfl
 have c5:=HB2.out.cell h5
 have xMH:=hid xM
 clear hB h5 CV hb1 hb12 hb2 xP
 all_goals
  have m0:=xM.cell (j:=0) (v:=.int .i64 m.kind) rfl
  rw [hk] at m0
  go_enter Tryz.func62,Tryz.ntmps62
  go_upto_region 1 with fail
  try rw [hW2]
  clear hW1 hW2
  go_wp2_with (refine ZX xM rfl rfl rfl ?_)
  refine CX.out.mono ?_
  rintro e w3 ⟨rfl,hR⟩
  have HR:=hid (ZC.lift (e:=.returned (.tuple #[])) HW2.out ⟨rfl,hR⟩)
  clear CX m0 p0 p1 c5 xM hR
  go_wp2_with fail
  exact bodyPost_end (results_none rfl _ _ _) rfl HR.out
set_option maxRecDepth 100000 in
set_option maxHeartbeats 3200000 in
theorem nSend (hB:Zc w nb 98 cs) (h0:cs[0]?=some (.int .u16 x)) (h1:cs[1]?=some (.int .u32 y)) (hR0:∀W,R W→W.cell? ⟨nb,0,none⟩=some (.int .u16 x)∧W.cell? ⟨nb,1,none⟩=some (.int .u32 y)) (hN:∀k,N k→k<w.heap.size) (CT:∀W,Below w.heap.size w W→Calls Tryz.prog 62 #[.pointer (some ⟨nb,0,none⟩),.agg #[.int .u16 x,.int .u32 y],.agg (ML M m).toArray] W λe w'=>ZC N R W e w') :
  Calls Tryz.prog 90 #[.pointer (some ⟨nb,0,none⟩),.agg #[.int .u16 x,.int .u32 y],.agg (ML M m).toArray] w λe w'=>ZC N R w e w':=by
 obtain ⟨W1,hW1⟩:∃W1,w.alloc (.cells #[.int .u16 x,.int .u32 y] 25)=W1:=⟨_,rfl⟩
 obtain ⟨W2,hW2⟩:∃W2,W1.alloc (.cells (ML M m).toArray 128)=W2:=⟨_,rfl⟩
 have hb1:Below w.heap.size w W1:=by rw [←hW1];exact bra
 have hb12:Below W1.heap.size W1 W2:=by rw [←hW2];exact bra
 have hb2:Below w.heap.size w W2:=hb1.trans (hb12.mono hb1.size)
 have xP:Zc W2 w.heap.size 25 [.int .u16 x,.int .u32 y]:=(by rw [←hW1];exact Zc.made _ _ _:Zc W1 w.heap.size 25 [.int .u16 x,.int .u32 y]).ext hb12
 have xM:Zr W2 W1.heap.size M m:=by rw [←hW2];exact Zr.made _ _ _ _ _
 have HB2:=hid (hB.ext hb2)
 have HX2:=hid xP
 have HM2:=hid xM
 have HT:=hid CT
 have HC0:=hid h0
 have HC1:=hid h1
 have HR0:=hid hR0
 have HNN:=hid hN
 have HW2:=hid hb2
 have HZM:Hid (W1.heap.size<W2.heap.size):=hid xM.lt
 have HW1:Hid (w.heap.size≤W1.heap.size):=hid hb1.size
 clear hB h0 h1 hR0 hN CT hb1 hb12 hb2 xP xM
 go_enter Tryz.func90,Tryz.ntmps90
 go_upto_region 1 with fail
 try rw [hW2]
 clear hW1 hW2
 have p0:=Za (HX2.out.cell (j:=0) rfl)
 have p1:=Za (HX2.out.cell (j:=1) rfl)
 have c0:=Za (HB2.out.cell HC0.out)
 have c1:=Za (HB2.out.cell HC1.out)
 have hpe:∀W,(binOp .eql 25 (.agg #[.int .u16 x,.int .u32 y]) (.agg #[.int .u16 x,.int .u32 y])).run Tryz.prog W=.ok (.bool true) W:=λW=>by have:=VK x y x y W;simpa using this
 refine Ze (w:=W2) (Below.refl _ _) (by kernel_rfl) (by kernel_rfl) ?_
 repeat (go_big_quiet_step (fail))
 refine wpQuiet_nil ?_
 rintro w3 ⟨⟨_,hb3⟩,rfl⟩
 have HB3:=hid (HB2.out.ext hb3)
 have HM3:Hid (Zr w3 W1.heap.size M m):=hid (HM2.out.ext hb3 HZM.out)
 have HW3:=hid (HW2.out.trans (hb3.mono HW2.out.size))
 clear p0 p1 c0 c1 hpe hb3 HB2 HX2 HM2 HW2
 have HS:Hid (∀W,Below w3.heap.size w3 W→W.cell? ⟨nb,0,none⟩=some (.int .u16 x)∧W.cell? ⟨nb,1,none⟩=some (.int .u32 y)∧Zr W W1.heap.size M m):=hid λW h=>⟨(HB3.out.ext h).cell HC0.out,(HB3.out.ext h).cell HC1.out,HM3.out.ext h HM3.out.lt⟩
 have CX:Hid (∀W,Below w3.heap.size w3 W→Calls Tryz.prog 62 #[.pointer (some ⟨nb,0,none⟩),.agg #[.int .u16 x,.int .u32 y],.agg (ML M m).toArray] W λe w'=>ZC N R W e w'):=hid λW h=>HT.out W (HW3.out.trans (h.mono HW3.out.size))
 go_upto_region 2 with fail
 refine rhd HS.out ((Below.refl _ _).drew) λhHeld=>?_
 refine tkv 0 (.pointer (some ⟨nb,0,none⟩)) rfl ?_
 refine tkv 1 (.pointer (some ⟨nb,0,none⟩)) rfl ?_
 refine tkv 2 (.pointer (some ⟨nb,0,none⟩)) rfl ?_
 refine tkv 3 (.pointer (some ⟨nb,0,none⟩)) rfl ?_
 refine tkv 4 (.agg #[.int .u16 x,.int .u32 y]) rfl ?_
 refine tkT 5 (.agg (ML M m).toArray) rfl ((yieldsIf_load_mid (by rfl) 128 _ rfl W1.heap.size 0 rfl (ML M m) _ (λW h=>h.2.2) Tryz.underlying128 rfl (KJ M m))) ?_
 try simp only [lay]
 refine rd1 6 rfl λK hK=>?_
 go_simp
 refine (CX.out _ (Below.refl _ _).drew).mono ?_
 rintro e w6 ⟨rfl,hR⟩
 have hm6:=hR.2
 have hD:Below w3.heap.size w3 w3.drew:=(Below.refl _ _).drew
 have hDz:=hD.size
 have hlt3:=HM3.out.lt
 refine hK.out _ _ ⟨(HR0.out _ hR.1).1,(HR0.out _ hR.1).2,λj v hj=>(hm6.cell (p:=⟨W1.heap.size,0+j,none⟩) (Nat.lt_of_lt_of_le hlt3 hDz) (λe=>by
  have h1:=HW1.out
  rcases e with e | e
  ·have:=HNN.out _ e;simp only at this;omega
  ·simp only at e;omega)).trans ((HM3.out.ext hD hlt3) j v hj)⟩ (λhHeld=>?_)
 clear hK K
 refine dn ?_
 have HR:=hid (ZC.lift (e:=.returned (.tuple #[])) HW3.out (ZC.lift (Below.refl _ _).drew ⟨rfl,hR⟩))
 go_wp2_with fail
 exact bodyPost_end (results_none rfl _ _ _) rfl HR.out
end
section
variable {w:World} {nb c:Nat} {a:Option Addr} {x y:Int} {M:MA} {m:Jr} {R:World→Prop} {N:Nat→Prop}
set_option maxRecDepth 100000 in
set_option maxHeartbeats 3200000 in
theorem nAll (hr:Zb w a [(x,y)]) (CS:∀W,Below w.heap.size w W→Calls Tryz.prog 90 #[.pointer (some ⟨nb,0,none⟩),.agg #[.int .u16 x,.int .u32 y],.agg (ML M m).toArray] W λe w'=>ZC N R W e w') :
  Calls Tryz.prog 100 #[.pointer (some ⟨nb,0,none⟩),.agg (ML M m).toArray,.slice a 1 c] w λe w'=>ZC N R w e w':=by
 obtain ⟨W1,hW1⟩:∃W1,w.alloc (.cells (ML M m).toArray 128)=W1:=⟨_,rfl⟩
 have hb1:Below w.heap.size w W1:=by rw [←hW1];exact bra
 have xM:Zr W1 w.heap.size M m:=by rw [←hW1];exact Zr.made _ _ _ _ _
 obtain ⟨mb,off,rfl,hmlt,hcell⟩:=hr.get (by simp)
 obtain ⟨m0,m1⟩:=hcell 0 (by simp)
 simp only [Nat.zero_mul,Nat.add_zero,List.getElem_cons_zero] at m0 m1
 have m0:=Zk m0 hb1
 have m1:=Zk m1 hb1
 have CX:=hid CS
 have HX1:=hid hb1
 have HM1:=hid xM
 clear CS hb1 xM hcell hmlt hr
 go_enter Tryz.func100,Tryz.ntmps100
 go_upto_region 1 with fail
 try rw [hW1]
 clear hW1
 go_wp2_with fail
 go_loopw [10] (λiv wr=>(iv=.int .i64 0∧wr=W1)∨(iv=.int .i64 1∧Hid (ZC N R w (.returned (.tuple #[])) wr))) (λiv _=>1 - (intOf iv).toNat)
 case atStart=>exact .inl ⟨rfl,rfl⟩
 case round =>
  rcases hrel with ⟨rfl,rfl⟩ | ⟨rfl,HP⟩
  ·rename World=>W1
   go_upto_region 4 with fail
   obtain ⟨w2,hw2⟩:∃z,W1.alloc (.cells #[.int .u16 x,.int .u32 y] 25)=z:=⟨_,rfl⟩
   have hb2:Below W1.heap.size W1 w2:=by rw [←hw2];exact bra
   have xP:Zc w2 W1.heap.size 25 [.int .u16 x,.int .u32 y]:=by rw [←hw2];exact Zc.made _ _ _
   try rw [hw2]
   clear hw2
   have p0:=xP.cell (j:=0) rfl
   have p1:=xP.cell (j:=1) rfl
   have xM:Zr w2 w.heap.size M m:=HM1.out.ext hb2 HM1.out.lt
   have HX2:Hid (Below w.heap.size w w2):=hid (HX1.out.trans (hb2.mono HX1.out.size))
   clear m0 m1 xP
   go_wp2_with (refine ZX xM rfl rfl rfl ?_)
   refine (CX.out _ HX2.out).mono ?_
   rintro e w3 ⟨rfl,hR⟩
   have HR:=hid (ZC.lift (e:=.returned (.tuple #[])) HX2.out ⟨rfl,hR⟩)
   clear p0 p1 xM hR hb2
   go_wp2_with fail
   go_roundw
   case rel=>exact .inr ⟨rfl,HR⟩
   case measure=>simp [intOf]
  ·go_wp2_with fail
   exact bodyPost_end (results_none rfl _ _ _) rfl HP.out
end
theorem ZC.liftM {N:Nat→Prop} {R:World→Prop} {w W w':World} {e:Ending} (hm:Mut (λk=>N k∨w.heap.size≤k) w W) (h:ZC N R W e w'):ZC N R w e w' :=
 ⟨h.1,h.2.1,hm.trans (h.2.2.mono λk _ e=>e.imp id (Nat.le_trans hm.size))⟩
def Et (sl n:Nat) (x y:Int):Jr:={ Vi with kind:=4,sl:=sl,b:=(n,(x,y)) }
def EB (sl n:Nat) (x y:Int) (C:Xu):Jr:={ Vi with kind:=6,sl:=sl,b:=(n,(x,y)),c:=C }
def mA (B:MA):MA:={ B with vm:=none,em:=0,vl:=none,el:=0,vd:=none,ed:=0,ya:=none,yc:=0 }
section
variable {w:World} {nb ab pb:Nat} {cs:List Value} {x y ph sl b0 b1 b2 m0 m1 p1 p2:Int} {ld val:Value} {R:World→Prop} {F N:Nat→Prop} {B:MA} {C:Xu}
set_option maxRecDepth 100000 in
set_option maxHeartbeats 3200000 in
theorem nVoteP (hB:Zc w nb 98 cs) (c22:cs[22]?=some (.pointer (some ⟨ab,0,none⟩))) (c23:cs[23]?=some (.pointer (some ⟨pb,0,none⟩))) (hP:Zc w pb 255 (prC x y 1 x y ph ld sl b0 b1 b2 val m0 m1)) (hA:Zc w ab 250 (acC 1 0 p1 p2 (.pointer none))) (hok:ok (x,y)) (hmay:KM (x,y)=true) (hne:nb≠ab)
  (CS:∀W,Mut (λk=>k=ab∨w.heap.size≤k) w W→Zc W ab 250 (acC 1 1 x y (.pointer none))→Calls Tryz.prog 90 #[.pointer (some ⟨nb,0,none⟩),.agg #[.int .u16 x,.int .u32 y],.agg (ML Zu (YU 1 1 x y)).toArray] W λe w'=>ZC F R W e w') (hF:F ab) :
  Calls Tryz.prog 155 #[.pointer (some ⟨nb,0,none⟩),.agg #[.int .u16 x,.int .u32 y],.agg (ML Zu (Et 1 1 x y)).toArray] w λe w'=>ZC F R w e w':=by
 obtain ⟨W1,hW1⟩:∃W1,w.alloc (.cells #[.int .u16 x,.int .u32 y] 25)=W1:=⟨_,rfl⟩
 obtain ⟨W2,hW2⟩:∃W2,W1.alloc (.cells (ML Zu (Et 1 1 x y)).toArray 128)=W2:=⟨_,rfl⟩
 have hb1:Below w.heap.size w W1:=by rw [←hW1];exact bra
 have hb12:Below W1.heap.size W1 W2:=by rw [←hW2];exact bra
 have hb2:Below w.heap.size w W2:=hb1.trans (hb12.mono hb1.size)
 have xP:Zc W2 w.heap.size 25 [.int .u16 x,.int .u32 y]:=(by rw [←hW1];exact Zc.made _ _ _:Zc W1 w.heap.size 25 [.int .u16 x,.int .u32 y]).ext hb12
 have xM:Zr W2 W1.heap.size Zu (Et 1 1 x y):=by rw [←hW2];exact Zr.made _ _ _ _ _
 have hz1:W1.heap.size=w.heap.size+1:=by rw [←hW1];simp
 have HA:=hid hA
 have HCS:=hid CS
 have HC22:=hid c22
 have HOK:=hid hok
 have HMAY:=hid hmay
 have HFab:=hid hF
 have HNE:Hid (nb≠ab∧ab<w.heap.size∧nb<w.heap.size∧W1.heap.size=w.heap.size+1∧W1.heap.size<W2.heap.size∧w.heap.size≤W2.heap.size):=hid ⟨hne,hA.lt,hB.lt,hz1,xM.lt,hb2.size⟩
 have k0:=Za (xM.cell (j:=7) (v:=.int .u32 1) rfl)
 have k1:=Za (xM.cell (j:=8) (v:=.int .u16 x) rfl)
 have k2:=Za (xM.cell (j:=9) (v:=.int .u32 y) rfl)
 have e23:=Za ((hB.ext hb2).cell c23)
 have CS1:∀U:YB W2,Calls Tryz.prog 244 #[.pointer (some ⟨pb,0,none⟩),.agg #[.int .u32 1,.int .u16 x,.int .u32 y]] U.W λe w'=>e=.returned (.tuple #[])∧∃U':YB W2,w'=U'.W:=λU=>ZN (GJ ((hP.ext hb2).ext U.h) hok) rfl
 have HB2:=hid (hB.ext hb2)
 have HX2:=hid xP
 have HM2:=hid xM
 have HW2:=hid hb2
 clear hB c22 c23 hP hA hok hmay hne CS hF hb1 hb12 hb2 xP xM hz1
 go_enter Tryz.func155,Tryz.ntmps155
 go_upto_region 1 with fail
 try rw [hW2]
 clear hW1 hW2
 refine Ze (w:=W2) (Below.refl _ _) (by kernel_rfl) (by kernel_rfl) ?_
 repeat (go_big_quiet_step (with_reducible exact CS1 _))
 refine wpQuiet_nil ?_
 rintro w3 ⟨⟨_,hb3⟩,rfl⟩
 have HB3:=hid (HB2.out.ext hb3)
 have HX3:=hid (HX2.out.ext hb3)
 have HM3:Hid (Zr w3 W1.heap.size Zu (Et 1 1 x y)):=hid (HM2.out.ext hb3 HM2.out.lt)
 have HW3:=hid (HW2.out.trans (hb3.mono HW2.out.size))
 have HZ3:=hid hb3.size
 clear k0 k1 k2 e23 CS1 hb3 HB2 HX2 HM2 HW2
 go_upto_region 3 with fail
 obtain ⟨w4,hw4⟩:∃z,w3.alloc (.cells #[.int .i64 0,.int .u16 0,.int .u32 0,.int .u64 0,.int .u64 0,.int .u64 0,.int .i64 0,.int .u32 0,.int .u16 0,.int .u32 0,.int .u32 0,.int .u16 0,.int .u32 0,.bool false,.int .i64 0,.int .u16 0,.int .u32 0,.int .u64 0,.int .u64 0,.slice none 0 0,.int .u64 0,.slice none 0 0,.slice none 0 0,.slice none 0 0,.int .u64 0,.slice none 0 0,.slice none 0 0,.slice none 0 0,.slice none 0 0] 128)=z:=⟨_,rfl⟩
 have HO4:Hid (Xe w4.drew w3.heap.size (ML Zu Vi)):=hid ((by rw [←hw4];exact Xe.made (ML Zu Vi) w3 _:Xe w4 w3.heap.size (ML Zu Vi)).ext (B:=w4.heap.size) (Below.refl _ _).drew (by rw [←hw4];simp))
 have HW4:Hid (Below w3.heap.size w3 w4.drew):=hid (by rw [←hw4];exact (bra).drew)
 have m0:=(HM3.out.ext (B:=w3.heap.size) (w':=w4) (by rw [←hw4];exact bra) HM3.out.lt).cell (j:=0) (v:=.int .i64 4) rfl
 rw [hw4]
 clear hw4
 go_upto_region 5 with fail
 clear m0
 have HS:Hid (∀W,Mut (λk=>k=ab∨w3.heap.size≤k) w3 W→W.cell? ⟨nb,22,none⟩=some (.pointer (some ⟨ab,0,none⟩))∧W.cell? ⟨W1.heap.size,4,none⟩=some (.int .u64 1)∧W.cell? ⟨W1.heap.size,7,none⟩=some (.int .u32 1)∧W.cell? ⟨W1.heap.size,8,none⟩=some (.int .u16 x)∧W.cell? ⟨W1.heap.size,9,none⟩=some (.int .u32 y)):=hid λW hm=>⟨(hm.cell (p:=⟨nb,22,none⟩) (HB3.out.lt) (λe=>by have:=HNE.out;have:=HB3.out.lt;rcases e with e | e <;> simp only at e <;> omega)).trans (HB3.out.cell HC22.out),(hm.cell (p:=⟨W1.heap.size,4,none⟩) HM3.out.lt (λe=>by have:=HNE.out;have:=HM3.out.lt;rcases e with e | e <;> simp only at e <;> omega)).trans (HM3.out.cell (j:=4) rfl),(hm.cell (p:=⟨W1.heap.size,7,none⟩) HM3.out.lt (λe=>by have:=HNE.out;have:=HM3.out.lt;rcases e with e | e <;> simp only at e <;> omega)).trans (HM3.out.cell (j:=7) rfl),(hm.cell (p:=⟨W1.heap.size,8,none⟩) HM3.out.lt (λe=>by have:=HNE.out;have:=HM3.out.lt;rcases e with e | e <;> simp only at e <;> omega)).trans (HM3.out.cell (j:=8) rfl),(hm.cell (p:=⟨W1.heap.size,9,none⟩) HM3.out.lt (λe=>by have:=HNE.out;have:=HM3.out.lt;rcases e with e | e <;> simp only at e <;> omega)).trans (HM3.out.cell (j:=9) rfl)⟩
 have CA:Hid (∀W,Below w3.heap.size w3 W→Calls Tryz.prog 245 #[.pointer (some ⟨ab,0,none⟩),.int .u64 1,.agg #[.int .u32 1,.int .u16 x,.int .u32 y]] W λe w'=>e=.returned (.tuple #[.agg (ML Zu (YU 1 1 x y)).toArray,.int .i64 0])∧Mut (λk=>k=ab∨W.heap.size≤k) W w'∧Zc w' ab 250 (acC 1 1 x y (.pointer none))):=hid λW hb=>zen (HA.out.ext (HW3.out.trans (hb.mono HW3.out.size))) HMAY.out (by decide)
 refine rhd HS.out (Mut.of_below HW4.out |>.mono λk _ e=>.inr e) λhHeld=>?_
 refine tkv 0 (.pointer (some ⟨nb,0,none⟩)) rfl ?_
 refine tkv 1 (.pointer (some ⟨nb,0,none⟩)) rfl ?_
 refine tkv 2 (.pointer (some ⟨nb,22,none⟩)) rfl ?_
 refine tkv 3 (.pointer (some ⟨ab,0,none⟩)) rfl ?_
 refine tkv 4 (.pointer (some ⟨W1.heap.size,4,none⟩)) rfl ?_
 refine tkv 5 (.int .u64 1) rfl ?_
 refine tkv 6 (.pointer (some ⟨W1.heap.size,7,none⟩)) rfl ?_
 refine tkv 7 (.agg #[.int .u32 1,.int .u16 x,.int .u32 y]) rfl ?_
 refine rd1 8 rfl λK hK=>?_
 go_simp
 refine (CA.out _ HW4.out).mono ?_
 rintro e w6 ⟨rfl,hm6,hx6⟩
 have HM6:Hid (Mut (λk=>k=ab∨w3.heap.size≤k) w3 w6):=hid (((Mut.of_below HW4.out).mono λk _ e=>.inr e).trans (hm6.mono λk _ e=>e.imp id (Nat.le_trans HW4.out.size)))
 have HX6:=hid hx6
 have hO6:Xe w6 w3.heap.size (ML Zu Vi):=HO4.out.mut (by decide) hm6 (λe=>by have h1:=HNE.out;have h3:=HZ3.out;have h2:=HO4.out.lt (by decide);rcases e with e | e <;> omega)
 clear hm6 hx6
 refine hK.out _ _ (HS.out _ HM6.out) (λhHeld=>?_)
 clear hK K
 try simp only [lay]
 refine tkv 9 (.tuple #[.agg (ML Zu (YU 1 1 x y)).toArray,.int .i64 0]) rfl ?_
 refine tkv 10 (.agg (ML Zu (YU 1 1 x y)).toArray) rfl ?_
 refine tkv 11 (.int .i64 0) rfl ?_
 refine rd1 12 rfl λK hK=>?_
 refine wp_store_mid 128 _ _ rfl w3.heap.size 0 (ML Zu (YU 1 1 x y)).toArray rfl rfl (hO6.there (o:=0) (n:=29) (by decide)) zew (zbD _ _) ?_
 obtain ⟨w7,hw7⟩:∃z,w6.setCells w3.heap.size 0 (ML Zu (YU 1 1 x y)).toArray.toList=z:=⟨_,rfl⟩
 have hO7:Xe w7 w3.heap.size (ML Zu (YU 1 1 x y)):=by rw [←hw7];exact Xe.all hO6 rfl
 have HX7:Hid (Zc w7 ab 250 (acC 1 1 x y (.pointer none))):=hid (by rw [←hw7];exact HX6.out.mut (Ye _ _ _) (λe=>by have:=HNE.out;have:=HZ3.out;omega))
 have HM7:Hid (Mut (λk=>k=ab∨w3.heap.size≤k) w3 w7):=hid (by rw [←hw7];exact HM6.out.trans ((Ye _ _ _).mono λk _ e=>.inr (by omega)))
 rw [hw7]
 clear hw7
 refine hK.out _ _ (HS.out _ HM7.out) (λhHeld=>?_)
 clear hK K
 try simp only [lay]
 refine rd1 13 rfl λK hK=>?_
 go_simp
 refine hK.out _ _ (HS.out _ HM7.out) (λhHeld=>?_)
 clear hK K
 try simp only [lay]
 refine dn ?_
 have p0:=(HM7.out.cell (p:=⟨w.heap.size,0,none⟩) HX3.out.lt (λe=>by have:=HNE.out;have:=HX3.out.lt;rcases e with e | e <;> simp only at e <;> omega)).trans (HX3.out.cell (j:=0) rfl)
 have p1:=(HM7.out.cell (p:=⟨w.heap.size,1,none⟩) HX3.out.lt (λe=>by have:=HNE.out;have:=HX3.out.lt;rcases e with e | e <;> simp only at e <;> omega)).trans (HX3.out.cell (j:=1) rfl)
 have xM:Zr w7 w3.heap.size Zu (YU 1 1 x y):=hO7.r
 have HM8:Hid (Mut (λk=>k=ab∨w.heap.size≤k) w w7):=hid (((Mut.of_below HW3.out).mono λk _ e=>.inr e).trans (HM7.out.mono λk _ e=>e.imp id (Nat.le_trans HW3.out.size)))
 have CX:=hid (HCS.out w7 HM8.out HX7.out)
 clear hO7
 go_wp2_with (refine ZX xM rfl rfl rfl ?_)
 refine CX.out.mono ?_
 rintro e w9 ⟨rfl,hR⟩
 have HR:=hid (ZC.liftM (e:=.returned (.tuple #[])) (HM8.out.mono λk _ e=>e.imp (λe=>e ▸ HFab.out) id) ⟨rfl,hR⟩)
 clear p0 p1 xM hR CX
 go_wp2_with fail
 exact bodyPost_end (results_none rfl _ _ _) rfl HR.out
set_option maxRecDepth 100000 in
set_option maxHeartbeats 3200000 in
theorem nVoteA (hB:Zc w nb 98 cs) (c22:cs[22]?=some (.pointer (some ⟨ab,0,none⟩))) (c23:cs[23]?=some (.pointer (some ⟨pb,0,none⟩))) (hP:Zc w pb 255 (prC x y 1 x y ph ld sl b0 b1 b2 val m0 m1)) (hA:Zc w ab 250 (acC 1 1 x y (.pointer none))) (hok:ok (x,y)) (hmay:KM (x,y)=true) (hne:nb≠ab) (hC:CR w N B C) (hfr:okP C.fr) (hc:YE C=0) (hNs:∀k,N k→k<w.heap.size) (hNab:N ab)
  (CS:∀W,Mut (λk=>k=ab∨w.heap.size≤k) w W→(∃g:Nat,Zc W ab 250 (acC 1 1 x y (.pointer (some ⟨g,0,none⟩))))→Calls Tryz.prog 90 #[.pointer (some ⟨nb,0,none⟩),.agg #[.int .u16 x,.int .u32 y],.agg (ML Zu (Xd 1 1 x y)).toArray] W λe w'=>ZC F R W e w') (hF:F ab) :
  Calls Tryz.prog 155 #[.pointer (some ⟨nb,0,none⟩),.agg #[.int .u16 x,.int .u32 y],.agg (ML (mA B) (EB 1 1 x y C)).toArray] w λe w'=>ZC F R w e w':=by
 obtain ⟨W1,hW1⟩:∃W1,w.alloc (.cells #[.int .u16 x,.int .u32 y] 25)=W1:=⟨_,rfl⟩
 obtain ⟨W2,hW2⟩:∃W2,W1.alloc (.cells (ML (mA B) (EB 1 1 x y C)).toArray 128)=W2:=⟨_,rfl⟩
 have hb1:Below w.heap.size w W1:=by rw [←hW1];exact bra
 have hb12:Below W1.heap.size W1 W2:=by rw [←hW2];exact bra
 have hb2:Below w.heap.size w W2:=hb1.trans (hb12.mono hb1.size)
 have xP:Zc W2 w.heap.size 25 [.int .u16 x,.int .u32 y]:=(by rw [←hW1];exact Zc.made _ _ _:Zc W1 w.heap.size 25 [.int .u16 x,.int .u32 y]).ext hb12
 have xM:Zr W2 W1.heap.size (mA B) (EB 1 1 x y C):=by rw [←hW2];exact Zr.made _ _ _ _ _
 have hz1:W1.heap.size=w.heap.size+1:=by rw [←hW1];simp
 have HA:=hid hA
 have HCS:=hid CS
 have HC22:=hid c22
 have HOK:=hid hok
 have HMAY:=hid hmay
 have HFab:=hid hF
 have HC:=hid hC
 have HFR:=hid hfr
 have HCK:=hid hc
 have HNs:=hid hNs
 have HNab:=hid hNab
 have HNE:Hid (nb≠ab∧ab<w.heap.size∧nb<w.heap.size∧W1.heap.size=w.heap.size+1∧W1.heap.size<W2.heap.size∧w.heap.size≤W2.heap.size):=hid ⟨hne,hA.lt,hB.lt,hz1,xM.lt,hb2.size⟩
 have k0:=Za (xM.cell (j:=7) (v:=.int .u32 1) rfl)
 have k1:=Za (xM.cell (j:=8) (v:=.int .u16 x) rfl)
 have k2:=Za (xM.cell (j:=9) (v:=.int .u32 y) rfl)
 have e23:=Za ((hB.ext hb2).cell c23)
 have CS1:∀U:YB W2,Calls Tryz.prog 244 #[.pointer (some ⟨pb,0,none⟩),.agg #[.int .u32 1,.int .u16 x,.int .u32 y]] U.W λe w'=>e=.returned (.tuple #[])∧∃U':YB W2,w'=U'.W:=λU=>ZN (GJ ((hP.ext hb2).ext U.h) hok) rfl
 have HB2:=hid (hB.ext hb2)
 have HX2:=hid xP
 have HM2:=hid xM
 have HW2:=hid hb2
 clear hB c22 c23 hP hA hok hmay hne CS hF hC hfr hc hNs hNab hb1 hb12 hb2 xP xM hz1
 go_enter Tryz.func155,Tryz.ntmps155
 go_upto_region 1 with fail
 try rw [hW2]
 clear hW1 hW2
 refine Ze (w:=W2) (Below.refl _ _) (by kernel_rfl) (by kernel_rfl) ?_
 repeat (go_big_quiet_step (with_reducible exact CS1 _))
 refine wpQuiet_nil ?_
 rintro w3 ⟨⟨_,hb3⟩,rfl⟩
 have HB3:=hid (HB2.out.ext hb3)
 have HX3:=hid (HX2.out.ext hb3)
 have HM3:Hid (Zr w3 W1.heap.size (mA B) (EB 1 1 x y C)):=hid (HM2.out.ext hb3 HM2.out.lt)
 have HW3:=hid (HW2.out.trans (hb3.mono HW2.out.size))
 have HZ3:=hid hb3.size
 clear k0 k1 k2 e23 CS1 hb3 HB2 HX2 HM2 HW2
 go_upto_region 3 with fail
 obtain ⟨w4,hw4⟩:∃z,w3.alloc (.cells #[.int .i64 0,.int .u16 0,.int .u32 0,.int .u64 0,.int .u64 0,.int .u64 0,.int .i64 0,.int .u32 0,.int .u16 0,.int .u32 0,.int .u32 0,.int .u16 0,.int .u32 0,.bool false,.int .i64 0,.int .u16 0,.int .u32 0,.int .u64 0,.int .u64 0,.slice none 0 0,.int .u64 0,.slice none 0 0,.slice none 0 0,.slice none 0 0,.int .u64 0,.slice none 0 0,.slice none 0 0,.slice none 0 0,.slice none 0 0] 128)=z:=⟨_,rfl⟩
 have HO4:Hid (Xe w4.drew w3.heap.size (ML Zu Vi)):=hid ((by rw [←hw4];exact Xe.made (ML Zu Vi) w3 _:Xe w4 w3.heap.size (ML Zu Vi)).ext (B:=w4.heap.size) (Below.refl _ _).drew (by rw [←hw4];simp))
 have HW4:Hid (Below w3.heap.size w3 w4.drew):=hid (by rw [←hw4];exact (bra).drew)
 have m0:=(HM3.out.ext (B:=w3.heap.size) (w':=w4) (by rw [←hw4];exact bra) HM3.out.lt).cell (j:=0) (v:=.int .i64 6) rfl
 rw [hw4]
 clear hw4
 go_upto_region 6 with fail
 clear m0
 have HS:Hid (∀W,Mut (λk=>k=ab∨w3.heap.size≤k) w3 W→W.cell? ⟨nb,22,none⟩=some (.pointer (some ⟨ab,0,none⟩))∧W.cell? ⟨W1.heap.size,4,none⟩=some (.int .u64 1)∧W.cell? ⟨W1.heap.size,7,none⟩=some (.int .u32 1)∧W.cell? ⟨W1.heap.size,8,none⟩=some (.int .u16 x)∧W.cell? ⟨W1.heap.size,9,none⟩=some (.int .u32 y)∧W.rangeAt W1.heap.size 14 (Yd B C).toList):=hid λW hm=>⟨(hm.cell (p:=⟨nb,22,none⟩) (HB3.out.lt) (λe=>by have:=HNE.out;have:=HB3.out.lt;rcases e with e | e <;> simp only at e <;> omega)).trans (HB3.out.cell HC22.out),(hm.cell (p:=⟨W1.heap.size,4,none⟩) HM3.out.lt (λe=>by have:=HNE.out;have:=HM3.out.lt;rcases e with e | e <;> simp only at e <;> omega)).trans (HM3.out.cell (j:=4) rfl),(hm.cell (p:=⟨W1.heap.size,7,none⟩) HM3.out.lt (λe=>by have:=HNE.out;have:=HM3.out.lt;rcases e with e | e <;> simp only at e <;> omega)).trans (HM3.out.cell (j:=7) rfl),(hm.cell (p:=⟨W1.heap.size,8,none⟩) HM3.out.lt (λe=>by have:=HNE.out;have:=HM3.out.lt;rcases e with e | e <;> simp only at e <;> omega)).trans (HM3.out.cell (j:=8) rfl),(hm.cell (p:=⟨W1.heap.size,9,none⟩) HM3.out.lt (λe=>by have:=HNE.out;have:=HM3.out.lt;rcases e with e | e <;> simp only at e <;> omega)).trans (HM3.out.cell (j:=9) rfl),λj v hv=>(hm.cell (p:=⟨W1.heap.size,14+j,none⟩) HM3.out.lt (λe=>by have:=HNE.out;have:=HM3.out.lt;rcases e with e | e <;> simp only at e <;> omega)).trans (HM3.out.cmd j v hv)⟩
 have CA:Hid (∀W,Below w3.heap.size w3 W→Calls Tryz.prog 246 #[.pointer (some ⟨ab,0,none⟩),.int .u64 1,.agg #[.int .u32 1,.int .u16 x,.int .u32 y],.agg (Yd B C)] W λe w'=>∃g:Nat,e=.returned (.tuple #[.agg (ML Zu (Xd 1 1 x y)).toArray,.int .i64 0])∧Mut (λk=>k=ab∨W.heap.size≤k) W w'∧Zc w' ab 250 (acC 1 1 x y (.pointer (some ⟨g,0,none⟩)))):=hid λW hb=>n1Accept (HA.out.ext (HW3.out.trans (hb.mono HW3.out.size))) (HC.out.ext (HW3.out.trans (hb.mono HW3.out.size))) HMAY.out HOK.out HFR.out HCK.out (λk h=>Nat.lt_of_lt_of_le (HNs.out k h) (HW3.out.trans (hb.mono HW3.out.size)).size) HNab.out
 refine rhd HS.out (Mut.of_below HW4.out |>.mono λk _ e=>.inr e) λhHeld=>?_
 refine tkv 0 (.pointer (some ⟨nb,0,none⟩)) rfl ?_
 refine tkv 1 (.pointer (some ⟨nb,0,none⟩)) rfl ?_
 refine tkv 2 (.pointer (some ⟨nb,22,none⟩)) rfl ?_
 refine tkv 3 (.pointer (some ⟨ab,0,none⟩)) rfl ?_
 refine tkv 4 (.pointer (some ⟨W1.heap.size,4,none⟩)) rfl ?_
 refine tkv 5 (.int .u64 1) rfl ?_
 refine tkv 6 (.pointer (some ⟨W1.heap.size,7,none⟩)) rfl ?_
 refine tkv 7 (.agg #[.int .u32 1,.int .u16 x,.int .u32 y]) rfl ?_
 refine tkv 8 (.pointer (some ⟨W1.heap.size,14,none⟩)) rfl ?_
 refine tkT 9 (.agg (Yd B C)) rfl ((yieldsIf_load_mid (by rfl) 126 _ rfl W1.heap.size 14 rfl (Yd B C).toList _ (λW h=>h.2.2.2.2.2) Tryz.underlying126 rfl Gv)) ?_
 try simp only [lay]
 refine rd1 10 rfl λK hK=>?_
 go_simp
 refine (CA.out _ HW4.out).mono ?_
 rintro e w6 ⟨g,rfl,hm6,hx6⟩
 have HM6:Hid (Mut (λk=>k=ab∨w3.heap.size≤k) w3 w6):=hid (((Mut.of_below HW4.out).mono λk _ e=>.inr e).trans (hm6.mono λk _ e=>e.imp id (Nat.le_trans HW4.out.size)))
 have HX6:=hid hx6
 have hO6:Xe w6 w3.heap.size (ML Zu Vi):=HO4.out.mut (by decide) hm6 (λe=>by have h1:=HNE.out;have h3:=HZ3.out;have h2:=HO4.out.lt (by decide);rcases e with e | e <;> omega)
 clear hm6 hx6
 refine hK.out _ _ (HS.out _ HM6.out) (λhHeld=>?_)
 clear hK K
 try simp only [lay]
 refine tkv 11 (.tuple #[.agg (ML Zu (Xd 1 1 x y)).toArray,.int .i64 0]) rfl ?_
 refine tkv 12 (.agg (ML Zu (Xd 1 1 x y)).toArray) rfl ?_
 refine tkv 13 (.int .i64 0) rfl ?_
 refine rd1 14 rfl λK hK=>?_
 refine wp_store_mid 128 _ _ rfl w3.heap.size 0 (ML Zu (Xd 1 1 x y)).toArray rfl rfl (hO6.there (o:=0) (n:=29) (by decide)) zew (zbD _ _) ?_
 obtain ⟨w7,hw7⟩:∃z,w6.setCells w3.heap.size 0 (ML Zu (Xd 1 1 x y)).toArray.toList=z:=⟨_,rfl⟩
 have hO7:Xe w7 w3.heap.size (ML Zu (Xd 1 1 x y)):=by rw [←hw7];exact Xe.all hO6 rfl
 have HX7:Hid (Zc w7 ab 250 (acC 1 1 x y (.pointer (some ⟨g,0,none⟩)))):=hid (by rw [←hw7];exact HX6.out.mut (Ye _ _ _) (λe=>by have:=HNE.out;have:=HZ3.out;omega))
 have HM7:Hid (Mut (λk=>k=ab∨w3.heap.size≤k) w3 w7):=hid (by rw [←hw7];exact HM6.out.trans ((Ye _ _ _).mono λk _ e=>.inr (by omega)))
 rw [hw7]
 clear hw7
 refine hK.out _ _ (HS.out _ HM7.out) (λhHeld=>?_)
 clear hK K
 try simp only [lay]
 refine rd1 15 rfl λK hK=>?_
 go_simp
 refine hK.out _ _ (HS.out _ HM7.out) (λhHeld=>?_)
 clear hK K
 try simp only [lay]
 refine dn ?_
 have p0:=(HM7.out.cell (p:=⟨w.heap.size,0,none⟩) HX3.out.lt (λe=>by have:=HNE.out;have:=HX3.out.lt;rcases e with e | e <;> simp only at e <;> omega)).trans (HX3.out.cell (j:=0) rfl)
 have p1:=(HM7.out.cell (p:=⟨w.heap.size,1,none⟩) HX3.out.lt (λe=>by have:=HNE.out;have:=HX3.out.lt;rcases e with e | e <;> simp only at e <;> omega)).trans (HX3.out.cell (j:=1) rfl)
 have xM:Zr w7 w3.heap.size Zu (Xd 1 1 x y):=hO7.r
 have HM8:Hid (Mut (λk=>k=ab∨w.heap.size≤k) w w7):=hid (((Mut.of_below HW3.out).mono λk _ e=>.inr e).trans (HM7.out.mono λk _ e=>e.imp id (Nat.le_trans HW3.out.size)))
 have CX:=hid (HCS.out w7 HM8.out ⟨g,HX7.out⟩)
 clear hO7
 go_wp2_with (refine ZX xM rfl rfl rfl ?_)
 refine CX.out.mono ?_
 rintro e w9 ⟨rfl,hR⟩
 have HR:=hid (ZC.liftM (e:=.returned (.tuple #[])) (HM8.out.mono λk _ e=>e.imp (λe=>e ▸ HFab.out) id) ⟨rfl,hR⟩)
 clear p0 p1 xM hR CX
 go_wp2_with fail
 exact bodyPost_end (results_none rfl _ _ _) rfl HR.out
end
section
variable {w:World} {nb pb:Nat} {cs:List Value} {x y s0 s1 s2:Int} {la:Option Addr} {lc:Nat} {R:World→Prop} {N:Nat→Prop}
set_option maxRecDepth 100000 in
set_option maxHeartbeats 3200000 in
theorem nCountP (hB:Zc w nb 98 cs) (c23:cs[23]?=some (.pointer (some ⟨pb,0,none⟩))) (hP:Zc w pb 255 (prC x y s0 s1 s2 1 (.slice la 1 lc) 1 1 x y (.pointer none) 0 0)) (hr:Zb w la [(x,y)]) (hne:nb≠pb) (hF:N pb)
  (CD:∀W,Mut (λk=>k=pb∨w.heap.size≤k) w W→Zc W pb 255 (prC x y s0 s1 s2 2 (.slice la 1 lc) 1 1 x y (.pointer none) 1 0)→Calls Tryz.prog 49 #[.pointer (some ⟨nb,0,none⟩),.bool false] W λe w'=>ZC N R W e w') :
  Calls Tryz.prog 156 #[.pointer (some ⟨nb,0,none⟩),.agg #[.int .u16 x,.int .u32 y],.agg (ML Zu (YU 1 1 x y)).toArray] w λe w'=>ZC N R w e w':=by
 obtain ⟨W1,hW1⟩:∃W1,w.alloc (.cells #[.int .u16 x,.int .u32 y] 25)=W1:=⟨_,rfl⟩
 obtain ⟨W2,hW2⟩:∃W2,W1.alloc (.cells (ML Zu (YU 1 1 x y)).toArray 128)=W2:=⟨_,rfl⟩
 have hb1:Below w.heap.size w W1:=by rw [←hW1];exact bra
 have hb12:Below W1.heap.size W1 W2:=by rw [←hW2];exact bra
 have hb2:Below w.heap.size w W2:=hb1.trans (hb12.mono hb1.size)
 have xP:Zc W2 w.heap.size 25 [.int .u16 x,.int .u32 y]:=(by rw [←hW1];exact Zc.made _ _ _:Zc W1 w.heap.size 25 [.int .u16 x,.int .u32 y]).ext hb12
 have xM:Zr W2 W1.heap.size Zu (YU 1 1 x y):=by rw [←hW2];exact Zr.made _ _ _ _ _
 have hz1:W1.heap.size=w.heap.size+1:=by rw [←hW1];simp
 have e23:=(hB.ext hb2).cell c23
 have CV:=hid (VJ (hP.ext hb2))
 have HP:=hid hP
 have HR:=hid hr
 have HCD:=hid CD
 have HC23:=hid c23
 have HFp:=hid hF
 have HNE:Hid (nb≠pb∧pb<w.heap.size∧nb<w.heap.size∧W1.heap.size=w.heap.size+1∧W1.heap.size<W2.heap.size∧w.heap.size≤W2.heap.size):=hid ⟨hne,hP.lt,hB.lt,hz1,xM.lt,hb2.size⟩
 have HB2:=hid (hB.ext hb2)
 have HX2:=hid xP
 have HM2:=hid xM
 have HW2:=hid hb2
 clear hB c23 hP hr hne hF CD hb1 hb12 hb2 xP xM hz1
 go_enter Tryz.func156,Tryz.ntmps156
 go_upto_region 1 with fail
 try rw [hW2]
 clear hW1 hW2
 go_wp2_with fail
 refine CV.out.mono ?_
 rintro e w2 ⟨rfl,hb2⟩
 have HB3:=hid (HB2.out.ext hb2)
 have HX3:=hid (HX2.out.ext hb2)
 have HM3:Hid (Zr w2 W1.heap.size Zu (YU 1 1 x y)):=hid (HM2.out.ext hb2 HM2.out.lt)
 have HW3:=hid (HW2.out.trans (hb2.mono HW2.out.size))
 clear e23 CV HB2 HX2 HM2 HW2 hb2
 go_upto_region 2 with fail
 obtain ⟨w3,hw3⟩:∃z,w2.alloc (.cells #[.int .i64 0,.int .u16 0,.int .u32 0,.int .u64 0,.int .u64 0,.slice none 0 0,.int .u64 0,.slice none 0 0,.slice none 0 0,.slice none 0 0] 126)=z:=⟨_,rfl⟩
 have hb3:Below w2.heap.size w2 w3:=by rw [←hw3];exact bra
 try rw [hw3]
 clear hw3
 have HB4:=hid (HB3.out.ext hb3)
 have HX4:=hid (HX3.out.ext hb3)
 have HM4:Hid (Zr w3 W1.heap.size Zu (YU 1 1 x y)):=hid (HM3.out.ext hb3 HM3.out.lt)
 have HW4:=hid (HW3.out.trans (hb3.mono HW3.out.size))
 have e23:=HB4.out.cell HC23.out
 have CS:=hid (Kl (HP.out.ext HW4.out))
 clear HB3 HX3 HM3 HW3 hb3
 go_wp2_with fail
 refine CS.out.mono ?_
 rintro e w9 ⟨rfl,rfl⟩
 rename World=>w3
 have HS:Hid (∀W,Mut (λk=>k=pb∨w3.heap.size≤k) w3 W→W.cell? ⟨nb,23,none⟩=some (.pointer (some ⟨pb,0,none⟩))∧W.cell? ⟨w.heap.size,0,none⟩=some (.int .u16 x)∧W.cell? ⟨w.heap.size,1,none⟩=some (.int .u32 y)∧Zr W W1.heap.size Zu (YU 1 1 x y)):=hid λW hm=>⟨(hm.cell (p:=⟨nb,23,none⟩) HB4.out.lt (λe=>by have:=HNE.out;have:=HB4.out.lt;rcases e with e | e <;> simp only at e <;> omega)).trans (HB4.out.cell HC23.out),(hm.cell (p:=⟨w.heap.size,0,none⟩) HX4.out.lt (λe=>by have:=HNE.out;have:=HX4.out.lt;rcases e with e | e <;> simp only at e <;> omega)).trans (HX4.out.cell (j:=0) rfl),(hm.cell (p:=⟨w.heap.size,1,none⟩) HX4.out.lt (λe=>by have:=HNE.out;have:=HX4.out.lt;rcases e with e | e <;> simp only at e <;> omega)).trans (HX4.out.cell (j:=1) rfl),λj v hv=>(hm.cell (p:=⟨W1.heap.size,0+j,none⟩) HM4.out.lt (λe=>by have:=HNE.out;have:=HM4.out.lt;rcases e with e | e <;> simp only at e <;> omega)).trans (HM4.out j v hv)⟩
 have CN:Hid (∀W,Below w3.heap.size w3 W→Calls Tryz.prog 247 #[.pointer (some ⟨pb,0,none⟩),.agg (ML Zu (YU 1 1 x y)).toArray] W λe w'=>e=.returned (.bool false)∧Below w3.heap.size w3 w'):=hid λW hb=>(n1Nack (kind:=5) (HP.out.ext (HW4.out.trans (hb.mono HW4.out.size))) (by decide) rfl (by decide)).mono λe w' ⟨h1,h2⟩=>⟨h1,hb.trans (h2.mono hb.size)⟩
 have CP:Hid (∀W,Below w3.heap.size w3 W→Calls Tryz.prog 248 #[.pointer (some ⟨pb,0,none⟩),.agg #[.int .u16 x,.int .u32 y],.agg (ML Zu (YU 1 1 x y)).toArray] W λe w'=>e=.returned (.bool true)∧Mut (λk=>k=pb∨w3.heap.size≤k) w3 w'∧Zc w' pb 255 (prC x y s0 s1 s2 2 (.slice la 1 lc) 1 1 x y (.pointer none) 1 0)):=hid λW hb=>(zea (sl:=1) (HP.out.ext (HW4.out.trans (hb.mono HW4.out.size))) (HR.out.ext (HW4.out.trans (hb.mono HW4.out.size))) rfl rfl ⟨rfl,rfl⟩ rfl).mono λe w' ⟨h1,h2,h3⟩=>⟨h1,((Mut.of_below hb).mono λk _ e=>.inr e).trans (h2.mono λk _ e=>e.imp id (Nat.le_trans hb.size)),h3⟩
 clear e23 CS
 go_upto_region 3 with fail
 refine rhd HS.out ((Mut.of_below (Below.refl _ _).drew).mono λk _ e=>.inr e) λhHeld=>?_
 refine tkv 0 (.pointer (some ⟨nb,0,none⟩)) rfl ?_
 refine tkv 1 (.pointer (some ⟨nb,0,none⟩)) rfl ?_
 refine tkv 2 (.pointer (some ⟨nb,23,none⟩)) rfl ?_
 refine tkv 3 (.pointer (some ⟨pb,0,none⟩)) rfl ?_
 refine tkT 4 (.agg (ML Zu (YU 1 1 x y)).toArray) rfl ((yieldsIf_load_mid (by rfl) 128 _ rfl W1.heap.size 0 rfl (ML Zu (YU 1 1 x y)) _ (λW h=>h.2.2.2) Tryz.underlying128 rfl (KJ _ _))) ?_
 try simp only [lay]
 refine rd1 5 rfl λK hK=>?_
 go_simp
 refine (CN.out _ (Below.refl _ _).drew).mono ?_
 rintro e w6 ⟨rfl,hb6⟩
 refine hK.out _ _ (HS.out _ ((Mut.of_below hb6).mono λk _ e=>.inr e)) (λhHeld=>?_)
 clear hK K
 try simp only [lay]
 refine rd1 6 rfl λK hK=>?_
 go_simp
 refine hK.out _ _ (HS.out _ ((Mut.of_below hb6).mono λk _ e=>.inr e)) (λhHeld=>?_)
 clear hK K
 try simp only [lay]
 refine dn ?_
 go_upto_region 4 with fail
 refine rhd HS.out ((Mut.of_below hb6.drew).mono λk _ e=>.inr e) λhHeld=>?_
 refine tkv 0 (.pointer (some ⟨nb,0,none⟩)) rfl ?_
 refine tkv 1 (.pointer (some ⟨nb,0,none⟩)) rfl ?_
 refine tkv 2 (.pointer (some ⟨nb,23,none⟩)) rfl ?_
 refine tkv 3 (.pointer (some ⟨pb,0,none⟩)) rfl ?_
 refine tkv 4 (.agg #[.int .u16 x,.int .u32 y]) rfl ?_
 refine tkT 5 (.agg (ML Zu (YU 1 1 x y)).toArray) rfl ((yieldsIf_load_mid (by rfl) 128 _ rfl W1.heap.size 0 rfl (ML Zu (YU 1 1 x y)) _ (λW h=>h.2.2.2) Tryz.underlying128 rfl (KJ _ _))) ?_
 try simp only [lay]
 refine rd1 6 rfl λK hK=>?_
 go_simp
 refine (CP.out _ hb6.drew).mono ?_
 rintro e w7 ⟨rfl,hm7,hx7⟩
 have HM7:Hid (Mut (λk=>k=pb∨w3.heap.size≤k) w3 w7):=hid hm7
 have HX7:=hid hx7
 clear hm7 hx7
 refine hK.out _ _ (HS.out _ HM7.out) (λhHeld=>?_)
 clear hK K
 try simp only [lay]
 refine rd1 7 rfl λK hK=>?_
 go_simp
 refine hK.out _ _ (HS.out _ HM7.out) (λhHeld=>?_)
 clear hK K
 try simp only [lay]
 refine dn ?_
 have HM8:Hid (Mut (λk=>k=pb∨w.heap.size≤k) w w7):=hid (((Mut.of_below HW4.out).mono λk _ e=>.inr e).trans (HM7.out.mono λk _ e=>e.imp id (Nat.le_trans HW4.out.size)))
 have CX:=hid (HCD.out w7 HM8.out HX7.out)
 clear hb6
 go_wp2_with fail
 refine CX.out.mono ?_
 rintro e w9 ⟨rfl,hR⟩
 have HRR:=hid (ZC.liftM (e:=.returned (.tuple #[])) (HM8.out.mono λk _ e=>e.imp (λe=>e ▸ HFp.out) id) ⟨rfl,hR⟩)
 clear hR CX
 go_wp2_with fail
 exact bodyPost_end (results_none rfl _ _ _) rfl HRR.out
end
theorem infoEvI:(Tryz.prog.info? 48).map (λi=>(i.zero,i.size,i.bytes))=some (some (.agg #[.int .i64 0,.int .u64 0,.slice none 0 0,.slice none 0 0,.slice none 0 0,.int .u16 0,.int .u32 0,.int .u64 0,.slice none 0 0]),9,128):=by kernel_rfl
theorem els9 {k i f1 f2 q:Int} {a1 a2 a3 a4:Option Addr} {n1 n2 n3 n4 c1 c2 c3 c4:Nat}:∀u∈[Value.int .i64 k,.int .u64 i,.slice a1 n1 c1,.slice a2 n2 c2,.slice a3 n3 c3,.int .u16 f1,.int .u32 f2,.int .u64 q,.slice a4 n4 c4],u.oneCell'=true:=λu hu=>by
 simp at hu
 rcases hu with rfl | rfl | rfl | rfl | rfl | rfl | rfl | rfl | rfl <;> rfl
theorem Vk.lit {w:World} {base:Nat} {e:TypeId} {k:Nat} {v:Value} {xs:List (List Value)} (h:Vk w base e k v xs):∃a n c,v=.slice a n c:=by
 rcases h.row.2 with ⟨rfl,-⟩ | ⟨g,cap,cur,rfl,-⟩
 ·exact ⟨_,_,_,rfl⟩
 ·exact ⟨_,_,_,rfl⟩
set_option maxRecDepth 100000 in
set_option maxHeartbeats 6400000 in
theorem zbR (k i f1 f2 q:Int) (a1 a2 a3 a4:Option Addr) (n1 n2 n3 n4 c1 c2 c3 c4:Nat) {w:World} {nb base:Nat} {cs:List Value} {v:Value} {xs:List (List Value)} (hB:Zc w nb 98 cs) (hc:cs[48]?=some v) (hO:Vk w base 48 9 v xs) (hbase:base≤w.heap.size) (hne:v.ownBlock≠some nb) (hl:xs.length+1≤1000000) :
  Calls Tryz.prog 179 #[.pointer (some ⟨nb,0,none⟩),.agg #[.int .i64 k,.int .u64 i,.slice a1 n1 c1,.slice a2 n2 c2,.slice a3 n3 c3,.int .u16 f1,.int .u32 f2,.int .u64 q,.slice a4 n4 c4]] w λe w'=>e=.returned (.tuple #[])∧∃v',Vk w' base 48 9 v' (xs ++ [[.int .i64 k,.int .u64 i,.slice a1 n1 c1,.slice a2 n2 c2,.slice a3 n3 c3,.int .u16 f1,.int .u32 f2,.int .u64 q,.slice a4 n4 c4]])∧Zc w' nb 98 (cs.set 48 v')∧Mut (λg=>g=nb∨v.ownBlock=some g) w w'∧∀g,v'.ownBlock=some g→v.ownBlock=some g∨w.heap.size≤g:=by
 obtain ⟨i0,hi,hz0,hz1,hz2⟩:=info_parts infoEvI
 obtain ⟨W1,hW1⟩:∃W1,w.alloc (.cells #[.int .i64 k,.int .u64 i,.slice a1 n1 c1,.slice a2 n2 c2,.slice a3 n3 c3,.int .u16 f1,.int .u32 f2,.int .u64 q,.slice a4 n4 c4] 48)=W1:=⟨_,rfl⟩
 have hb1:Below w.heap.size w W1:=by rw [←hW1];exact bra
 have hE:Zc W1 w.heap.size 48 [.int .i64 k,.int .u64 i,.slice a1 n1 c1,.slice a2 n2 c2,.slice a3 n3 c3,.int .u16 f1,.int .u32 f2,.int .u64 q,.slice a4 n4 c4]:=by rw [←hW1];exact Zc.made w _ _
 have HN:=hid (hB.ext hb1)
 have HO:=hid (hO.ext hb1)
 have HB1:=hid hb1
 have HBS:Hid (base≤W1.heap.size):=hid (Nat.le_trans hbase hb1.size)
 have HNE:=hid hne
 have HL:=hid hl
 have HNB:Hid (nb<w.heap.size):=hid hB.lt
 have HOW:Hid (∀g,v.ownBlock=some g→g<w.heap.size):=hid λg e=>(hO.blk e).2
 obtain ⟨va,vn,vc,hv⟩:=hO.lit
 have HS:Hid (∀W,Mut (λg=>g=nb∨v.ownBlock=some g) W1 W→W.cell? ⟨w.heap.size,0,none⟩=some (.int .i64 k)∧W.cell? ⟨w.heap.size,1,none⟩=some (.int .u64 i)∧W.cell? ⟨w.heap.size,2,none⟩=some (.slice a1 n1 c1)∧W.cell? ⟨w.heap.size,3,none⟩=some (.slice a2 n2 c2)∧W.cell? ⟨w.heap.size,4,none⟩=some (.slice a3 n3 c3)∧W.cell? ⟨w.heap.size,5,none⟩=some (.int .u16 f1)∧W.cell? ⟨w.heap.size,6,none⟩=some (.int .u32 f2)∧W.cell? ⟨w.heap.size,7,none⟩=some (.int .u64 q)∧W.cell? ⟨w.heap.size,8,none⟩=some (.slice a4 n4 c4)):=hid λW hm=>by
  have h2:=hE.mut hm λe=>e.elim (λe=>by have:=HNB.out;omega) λe=>by have:=HOW.out _ e;omega
  exact ⟨h2.cell (j:=0) rfl,h2.cell (j:=1) rfl,h2.cell (j:=2) rfl,h2.cell (j:=3) rfl,h2.cell (j:=4) rfl,h2.cell (j:=5) rfl,h2.cell (j:=6) rfl,h2.cell (j:=7) rfl,h2.cell (j:=8) rfl⟩
 have HM0:Hid (Mut (λg=>g=nb∨v.ownBlock=some g) W1 W1.drew):=hid (Mut.of_below (Below.refl _ _).drew)
 have HC:=hid hc
 have q0:W1.drew.cell? ⟨nb,48,none⟩=some v:=((hB.ext hb1).ext (Below.refl _ _).drew).cell hc
 clear hB hO hbase hne hl hb1 hE
 subst hv
 go_enter Tryz.func179,Tryz.ntmps179
 go_upto_region 1 with fail
 try rw [hW1]
 clear hW1
 refine rhd HS.out (HM0.out) λhHeld=>?_
 refine tkv 0 (.pointer (some ⟨nb,0,none⟩)) rfl ?_
 refine tkv 1 (.pointer (some ⟨nb,0,none⟩)) rfl ?_
 refine tkv 2 (.pointer (some ⟨nb,0,none⟩)) rfl ?_
 refine tkv 3 (.pointer (some ⟨nb,48,none⟩)) rfl ?_
 refine tkv 5 (.agg #[.int .i64 k,.int .u64 i,.slice a1 n1 c1,.slice a2 n2 c2,.slice a3 n3 c3,.int .u16 f1,.int .u32 f2,.int .u64 q,.slice a4 n4 c4]) rfl ?_
 refine rd (rs:=[4,6]) ?_
 refine AllReadyH.cons (o:=_) rfl (λK hK=>?_) (AllReadyH.cons (o:=_) rfl (λK hK=>?_) AllReadyH.nil)
 ·go_simp
  refine hK.out _ _ (HS.out _ (HM0.out)) (λhHeld=>?_)
  clear hK K
  try simp only [lay]
  refine rd1 6 rfl λK hK=>?_
  go_simp
  obtain ⟨w7,hw7⟩:∃w7,(W1.alloc (.cells #[.int .i64 k,.int .u64 i,.slice a1 n1 c1,.slice a2 n2 c2,.slice a3 n3 c3,.int .u16 f1,.int .u32 f2,.int .u64 q,.slice a4 n4 c4] 48)).drew=w7:=⟨_,rfl⟩
  rw [hw7]
  have hb7:Below W1.heap.size W1 w7:=by rw [←hw7];exact (bra).drew
  have hs7:W1.heap.size≤w7.heap.size:=hb7.size
  have HM7:Hid (Mut (λg=>g=nb∨(Value.slice va vn vc).ownBlock=some g) W1 w7):=hid (Mut.of_below hb7)
  have HO7:=hid (HO.out.ext hb7)
  have HN7:=hid (HN.out.ext hb7)
  have HC7:Hid (∀j u,([.int .i64 k,.int .u64 i,.slice a1 n1 c1,.slice a2 n2 c2,.slice a3 n3 c3,.int .u16 f1,.int .u32 f2,.int .u64 q,.slice a4 n4 c4]:List Value)[j]?=some u→w7.cell? ⟨W1.heap.size,j,none⟩=some u):=hid (by rw [←hw7];exact λj u hj=>((Zc.made W1 48 _).ext (Below.refl _ _).drew).cell hj)
  have q48:w7.cell? ⟨nb,48,none⟩=some (.slice va vn vc):=HN7.out.cell HC.out
  clear hw7 hb7
  refine hK.out _ _ (HS.out _ (HM7.out)) (λhHeld=>?_)
  clear hK K
  try simp only [lay]
  refine rd1 7 rfl λK hK=>?_
  refine Yq (base:=base) (b:=W1.heap.size) (el:=[.int .i64 k,.int .u64 i,.slice a1 n1 c1,.slice a2 n2 c2,.slice a3 n3 c3,.int .u16 f1,.int .u32 f2,.int .u64 q,.slice a4 n4 c4]) (by rfl) Tryz.underlying39 hi hz0 hz1 hz2 rfl (by decide) (by decide) HO7.out rfl els9 HC7.out HL.out (Nat.le_trans HBS.out hs7) rfl rfl rfl ?_
  intro v8 w8 hown8 hm8 hn8
  have hmw8:Mut (λg=>(Value.slice va vn vc).ownBlock=some g) w7 w8:=hm8
  have HM8:Hid (Mut (λg=>g=nb∨(Value.slice va vn vc).ownBlock=some g) W1 w8):=hid (HM7.out.trans (hmw8.mono λg _ e=>.inr e))
  have HN8:=hid (HN7.out.mut hmw8 HNE.out)
  have fz8:∀j,w8.frozen? ⟨nb,j,none⟩=false:=HN8.out.frozen
  have q8:w8.cell? ⟨nb,48,none⟩=some (.slice va vn vc):=HN8.out.cell HC.out
  obtain ⟨ua,un,uc,hu⟩:=hown8.lit
  subst hu
  have HO8:=hid hown8
  have HG8:Hid (∀g,(Value.slice ua un uc).ownBlock=some g→(Value.slice va vn vc).ownBlock=some g∨W1.heap.size≤g):=hid λg e=>(hn8 g e).imp id λh=>Nat.le_trans hs7 h
  have HM9:Hid (Mut (λg=>g=nb∨(Value.slice va vn vc).ownBlock=some g) W1 (w8.setCell ⟨nb,48,none⟩ (.slice ua un uc))):=hid (Zf HM8.out nb 48 _ (.inl rfl))
  clear hown8 hm8 hn8 hmw8
  refine hK.out _ _ (HS.out _ (HM8.out)) (λhHeld=>?_)
  clear hK K
  try simp only [lay]
  refine rd1 8 rfl λK hK=>?_
  go_simp
  refine hK.out _ _ (HS.out _ (HM8.out)) (λhHeld=>?_)
  clear hK K
  try simp only [lay]
  refine rd1 9 rfl λK hK=>?_
  go_simp
  refine hK.out _ _ (HS.out _ (HM8.out)) (λhHeld=>?_)
  clear hK K
  try simp only [lay]
  refine rd1 10 rfl λK hK=>?_
  go_simp
  refine hK.out _ _ (HS.out _ (HM9.out)) (λhHeld=>?_)
  clear hK K
  try simp only [lay]
  refine dn ?_
  go_wp2_with fail
  refine bodyPost_end (results_none rfl _ _ _) rfl ⟨rfl,_,?_,HN8.out.set,(Mut.of_below HB1.out).trans HM9.out,λg e=>(HG8.out g e).imp id λh=>Nat.le_trans HB1.out.size h⟩
  exact HO8.out.mut (Xk (w:=w8) (s:=nb) (i:=48)) λg e1 e2=>(HG8.out g e1).elim (λe=>HNE.out (by rw [e,e2])) λe=>by have:=HNB.out;have:=HB1.out.size;omega
 ·go_simp
  obtain ⟨w7,hw7⟩:∃w7,(W1.alloc (.cells #[.int .i64 k,.int .u64 i,.slice a1 n1 c1,.slice a2 n2 c2,.slice a3 n3 c3,.int .u16 f1,.int .u32 f2,.int .u64 q,.slice a4 n4 c4] 48)).drew=w7:=⟨_,rfl⟩
  rw [hw7]
  have hb7:Below W1.heap.size W1 w7:=by rw [←hw7];exact (bra).drew
  have hs7:W1.heap.size≤w7.heap.size:=hb7.size
  have HM7:Hid (Mut (λg=>g=nb∨(Value.slice va vn vc).ownBlock=some g) W1 w7):=hid (Mut.of_below hb7)
  have HO7:=hid (HO.out.ext hb7)
  have HN7:=hid (HN.out.ext hb7)
  have HC7:Hid (∀j u,([.int .i64 k,.int .u64 i,.slice a1 n1 c1,.slice a2 n2 c2,.slice a3 n3 c3,.int .u16 f1,.int .u32 f2,.int .u64 q,.slice a4 n4 c4]:List Value)[j]?=some u→w7.cell? ⟨W1.heap.size,j,none⟩=some u):=hid (by rw [←hw7];exact λj u hj=>((Zc.made W1 48 _).ext (Below.refl _ _).drew).cell hj)
  have q48:w7.cell? ⟨nb,48,none⟩=some (.slice va vn vc):=HN7.out.cell HC.out
  clear hw7 hb7
  refine hK.out _ _ (HS.out _ (HM7.out)) (λhHeld=>?_)
  clear hK K
  try simp only [lay]
  refine rd1 4 rfl λK hK=>?_
  go_simp
  refine hK.out _ _ (HS.out _ (HM7.out)) (λhHeld=>?_)
  clear hK K
  try simp only [lay]
  refine rd1 7 rfl λK hK=>?_
  refine Yq (base:=base) (b:=W1.heap.size) (el:=[.int .i64 k,.int .u64 i,.slice a1 n1 c1,.slice a2 n2 c2,.slice a3 n3 c3,.int .u16 f1,.int .u32 f2,.int .u64 q,.slice a4 n4 c4]) (by rfl) Tryz.underlying39 hi hz0 hz1 hz2 rfl (by decide) (by decide) HO7.out rfl els9 HC7.out HL.out (Nat.le_trans HBS.out hs7) rfl rfl rfl ?_
  intro v8 w8 hown8 hm8 hn8
  have hmw8:Mut (λg=>(Value.slice va vn vc).ownBlock=some g) w7 w8:=hm8
  have HM8:Hid (Mut (λg=>g=nb∨(Value.slice va vn vc).ownBlock=some g) W1 w8):=hid (HM7.out.trans (hmw8.mono λg _ e=>.inr e))
  have HN8:=hid (HN7.out.mut hmw8 HNE.out)
  have fz8:∀j,w8.frozen? ⟨nb,j,none⟩=false:=HN8.out.frozen
  have q8:w8.cell? ⟨nb,48,none⟩=some (.slice va vn vc):=HN8.out.cell HC.out
  obtain ⟨ua,un,uc,hu⟩:=hown8.lit
  subst hu
  have HO8:=hid hown8
  have HG8:Hid (∀g,(Value.slice ua un uc).ownBlock=some g→(Value.slice va vn vc).ownBlock=some g∨W1.heap.size≤g):=hid λg e=>(hn8 g e).imp id λh=>Nat.le_trans hs7 h
  have HM9:Hid (Mut (λg=>g=nb∨(Value.slice va vn vc).ownBlock=some g) W1 (w8.setCell ⟨nb,48,none⟩ (.slice ua un uc))):=hid (Zf HM8.out nb 48 _ (.inl rfl))
  clear hown8 hm8 hn8 hmw8
  refine hK.out _ _ (HS.out _ (HM8.out)) (λhHeld=>?_)
  clear hK K
  try simp only [lay]
  refine rd1 8 rfl λK hK=>?_
  go_simp
  refine hK.out _ _ (HS.out _ (HM8.out)) (λhHeld=>?_)
  clear hK K
  try simp only [lay]
  refine rd1 9 rfl λK hK=>?_
  go_simp
  refine hK.out _ _ (HS.out _ (HM8.out)) (λhHeld=>?_)
  clear hK K
  try simp only [lay]
  refine rd1 10 rfl λK hK=>?_
  go_simp
  refine hK.out _ _ (HS.out _ (HM9.out)) (λhHeld=>?_)
  clear hK K
  try simp only [lay]
  refine dn ?_
  go_wp2_with fail
  refine bodyPost_end (results_none rfl _ _ _) rfl ⟨rfl,_,?_,HN8.out.set,(Mut.of_below HB1.out).trans HM9.out,λg e=>(HG8.out g e).imp id λh=>Nat.le_trans HB1.out.size h⟩
  exact HO8.out.mut (Xk (w:=w8) (s:=nb) (i:=48)) λg e1 e2=>(HG8.out g e1).elim (λe=>HNE.out (by rw [e,e2])) λe=>by have:=HNB.out;have:=HB1.out.size;omega
theorem zbG {w:World} {nb:Nat} {cs:List Value} {a:Option Addr} {n c:Nat} (hB:Zc w nb 98 cs) (hc:cs[48]?=some (.slice a n c)) :
  Calls Tryz.prog 11 #[.pointer (some ⟨nb,0,none⟩)] w λe w'=>e=.returned (.slice a n c)∧Mut (λk=>k=nb) w w'∧Zc w' nb 98 (cs.set 48 (.slice none 0 0)):=by
 have c48:=hB.cell hc
 have fz:=hB.frozen
 have HB:=hid hB
 clear hB hc
 go_enter Tryz.func11,Tryz.ntmps11
 go_wp2
 go_ret
 exact ⟨rfl,Xk,HB.out.set⟩
theorem JZ (fv:Value) (w:World):Calls Tryz.prog 251 #[.slice none 0 0,fv] w λe w'=>e=.returned (.int .i64 (-1))∧w'=w:=by
 go_enter Tryz.func251,Tryz.ntmps251
 go_wp2
 go_loopw [8] (λi wr=>i=.int .i64 0∧wr=w) (λ_ _=>0)
 case atStart=>exact ⟨rfl,rfl⟩
 case round =>
  obtain ⟨rfl,rfl⟩:=hrel
  go_wp2
  go_ret
  exact ⟨rfl,rfl⟩
theorem JB (fv:Value) (w:World):Calls Tryz.prog 176 #[.slice none 0 0,fv] w λe w'=>e=.returned (.slice none 0 0)∧w'=w:=by
 go_enter Tryz.func176,Tryz.ntmps176
 go_wp2_with (go_at_call 251;refine (JZ fv _).mono ?_;rintro e w2 ⟨rfl,rfl⟩)
 go_ret
 exact ⟨rfl,rfl⟩
set_option maxRecDepth 100000 in
set_option maxHeartbeats 3200000 in
theorem za3 {w:World} {N:Nat→Prop} {h r:Nat} {sf:Pid} (H:Yf w N h r sf []) :
  Calls Tryz.prog 52 #[.pointer (some ⟨h,0,none⟩)] w λe w'=>e=.returned (.slice none 0 0)∧Below w.heap.size w w':=by
 have CP:=zcS H
 have e0:Ei (zc5 [])=[]:=List.eq_nil_of_length_eq_zero (by unfold Ei;rw [YH];rfl)
 rw [e0] at CP
 have CP:=hid CP
 clear H
 go_enter Tryz.func52,Tryz.ntmps52
 go_wp2_with fail
 refine CP.out.mono ?_
 rintro e w1 ⟨pv,rfl,hpo,hb1⟩
 obtain ⟨pa,pc,rfl,-,-⟩:=hpo.row
 have HB1:=hid hb1
 clear hpo hb1 CP
 simp only [List.length_nil]
 go_wp2_with fail
 go_loopw [3,12] (λv i wr=>v=.slice none 0 0∧i=.int .i64 0∧wr=w1) (λ_ _ _=>0)
 case atStart=>exact ⟨rfl,rfl,rfl⟩
 case round =>
  obtain ⟨rfl,rfl,rfl⟩:=hrel
  go_wp2
  go_ret
  exact ⟨rfl,HB1.out⟩
theorem Ej {T E:TypeId} {i0:TypeInfo} (ht:Tryz.prog.underlying T=some (.slice E)) (hi:Tryz.prog.info? E=some i0) (ty:TypeId) (a:Option Addr) (c:Nat) (w:World) :
  (Builtin.append_ #[T,T] ty #[.slice none 0 0,.slice a 0 c]).run Tryz.prog w=.ok (.slice none 0 0) w:=by
 cases a <;> simp [Builtin.append_,run_underlying ht,sizeOf,typeInfo,hi,Builtin.lenOf,Builtin.firstCells,loadCells,loadCellsFrom]
theorem zbr (w:World):Calls Tryz.prog 110 #[.slice none 0 0,.int .i64 0] w λe w'=>e=.returned (.slice none 0 0)∧w'=w:=by
 go_enter Tryz.func110,Tryz.ntmps110
 go_wp2
 go_ret
 exact ⟨rfl,rfl⟩
theorem infoPk3:(Tryz.prog.info? 111).map (λi=>(i.zero,i.size,i.bytes))=some (some (.agg #[.int .i64 0,.int .u16 0,.int .u32 0,.int .u16 0,.int .u32 0,.int .u64 0,.slice none 0 0]),7,56):=by kernel_rfl
set_option maxRecDepth 100000 in
set_option maxHeartbeats 3200000 in
theorem FL {w:World} {b:Nat} (h0:w.cell? ⟨b,0,none⟩=some (.slice none 0 0)) (h1:w.cell? ⟨b,1,none⟩=some (.slice none 0 0)) :
  Calls Tryz.prog 51 #[.slice (some ⟨b,0,none⟩) 2 2] w λe w'=>e=.returned (.slice none 0 0)∧w'=w:=by
 obtain ⟨i0,hi,-,-,-⟩:=info_parts infoPk3
 have HA:=λty=>Ej Tryz.underlying96 hi ty none 0 w
 go_enter Tryz.func51,Tryz.ntmps51
 go_wp2
 go_loopw [3,11] (λn i wr=>n=.int .i64 0∧(i=.int .i64 0∨i=.int .i64 1∨i=.int .i64 2)∧wr=w) (λ_ i _=>2 - (intOf i).toNat)
 case atStart=>exact ⟨rfl,.inl rfl,rfl⟩
 case round =>
  obtain ⟨rfl,hi3,rfl⟩:=hrel
  rcases hi3 with rfl | rfl | rfl
  ·go_wp2
   go_roundw
   case rel=>simp
   case measure=>simp [intOf]
  ·go_wp2
   go_roundw
   case rel=>simp
   case measure=>simp [intOf]
  ·go_wp2_with (go_at_call 110;refine (zbr _).mono ?_;rintro e w2 ⟨rfl,rfl⟩)
   go_loopw [6,27] (λv i wr=>v=.slice none 0 0∧(i=.int .i64 0∨i=.int .i64 1∨i=.int .i64 2)∧wr=w2) (λ_ i _=>2 - (intOf i).toNat)
   case atStart=>exact ⟨rfl,.inl rfl,rfl⟩
   case round =>
    obtain ⟨rfl,hi3,rfl⟩:=hrel
    rcases hi3 with rfl | rfl | rfl
    ·go_wp2_with (at_builtin;refine Lib.wpList_append_run _ rfl _ _ _ _ rfl _ _ rfl rfl _ _ (HA _) ?_)
     go_roundw
     case rel=>simp
     case measure=>simp [intOf]
    ·go_wp2_with (at_builtin;refine Lib.wpList_append_run _ rfl _ _ _ _ rfl _ _ rfl rfl _ _ (HA _) ?_)
     go_roundw
     case rel=>simp
     case measure=>simp [intOf]
    ·go_wp2
     go_ret
     exact ⟨rfl,rfl⟩
set_option maxRecDepth 100000 in
set_option maxHeartbeats 6400000 in
theorem zcw {w:World} {N:Nat→Prop} {nb h r:Nat} {sf:Pid} {cs:List Value} (hB:Zc w nb 98 cs) (h8:cs[8]?=some (.pointer (some ⟨h,0,none⟩))) (h47:cs[47]?=some (.slice none 0 0)) (H:Yf w N h r sf []) :
  Calls Tryz.prog 21 #[.pointer (some ⟨nb,0,none⟩)] w λe w'=>e=.returned (.slice none 0 0)∧Mut (λk=>k=nb) w w'∧Zc w' nb 98 (cs.set 47 (.slice none 0 0)):=by
 have c8:=hB.cell h8
 have c47:=hB.cell h47
 have hb0:Below w.heap.size w w:=Below.refl _ _
 have HS:Hid (∀W,Below w.heap.size w W→Below w.heap.size w W∧W.cell? ⟨nb,8,none⟩=some (.pointer (some ⟨h,0,none⟩))∧W.cell? ⟨nb,47,none⟩=some (.slice none 0 0)):=hid λW hb=>⟨hb,Zk c8 hb,Zk c47 hb⟩
 have CO:Hid (∀W,Below w.heap.size w W→Calls Tryz.prog 52 #[.pointer (some ⟨h,0,none⟩)] W λe w'=>e=.returned (.slice none 0 0)∧Below w.heap.size w w'):=hid λW hb=>(za3 (H.ext hb)).mono λe w' ⟨h1,h2⟩=>⟨h1,hb.trans (h2.mono hb.size)⟩
 have HB:=hid hB
 have HC47:=hid h47
 have H0:Below w.heap.size w w.drew:=(Below.refl _ _).drew
 clear hB h8 h47 H c8 c47
 go_enter Tryz.func21,Tryz.ntmps21
 go_upto_region 4 with fail
 go_region_held3 (λW=>Below w.heap.size w W∧W.cell? ⟨nb,8,none⟩=some (.pointer (some ⟨h,0,none⟩))∧W.cell? ⟨nb,47,none⟩=some (.slice none 0 0)) (exact HS.out _ (by repeat (first | assumption | exact H0 | exact Below.refl _ _ | refine Zd ?_ _ | refine Below.drew ?_))) (first
  | (go_at_call 52;refine (CO.out _ (by repeat (first | assumption | exact H0 | exact Below.refl _ _ | refine Zd ?_ _ | refine Below.drew ?_))).mono ?_;rintro e w6 ⟨rfl,hb6⟩)
  | (go_at_call 51;refine (FL (by simp) (by simp)).mono ?_;rintro e w7 ⟨rfl,rfl⟩))
 have B6:Hid (Below w.heap.size w w6):=hid hb6
 have HB6:=hid (HB.out.ext (Zd hb6 (.cells #[.slice none 0 0,.slice none 0 0] 96)))
 have c47:=HB6.out.cell (HC47.out)
 have fz:=HB6.out.frozen
 go_wp2_with fail
 go_loopw [3,22] (λv i wr=>v=.slice none 0 0∧i=.int .i64 0∧wr=w6.alloc (.cells #[.slice none 0 0,.slice none 0 0] 96)) (λ_ _ _=>0)
 case atStart=>exact ⟨rfl,rfl,rfl⟩
 case round =>
  obtain ⟨rfl,rfl,rfl⟩:=hrel
  go_wp2
  go_ret
  exact ⟨rfl,Zf (Mut.of_below (Zd B6.out _)) nb 47 _ rfl,HB6.out.set⟩
theorem Fx {V:Zs} {am al ad:Option Addr} {cm cl cd:Nat} {x y:Int} {w:World} {A:Int} (h:Hid (XV V.ls (x,y)=A)) (hV:Zt w am al ad V) :
  Calls Tryz.prog 107 #[YM V am al ad cm cl cd,.agg #[.int .u16 x,.int .u32 y]] w λe w'=>e=.returned (.int .i64 A)∧Below w.heap.size w w':=by
 have:=zbX V am al ad cm cl cd x y w hV
 rw [h.out] at this
 exact this
set_option maxRecDepth 100000 in
set_option maxHeartbeats 3200000 in
theorem zcI (r:Nat→Int) (V:Zs) (am al ad:Option Addr) (cm cl cd:Nat) (x y:Int) (w:World) (hV:Zt w am al ad V) (hf:Gb V) :
  Calls Tryz.prog 211 #[YM V am al ad cm cl cd,.agg (RL r).toArray,.agg #[.int .u16 x,.int .u32 y]] w λe w'=>e=.returned (.bool (Xg V (Zv r) (x,y)))∧Below w.heap.size w w':=by
 have hB3:Below w.heap.size w (((w.alloc (.cells (ZK V am al ad cm cl cd) 35)).alloc (.cells (RL r).toArray 92)).alloc (.cells #[.int .u16 x,.int .u32 y] 25)):=((bra).alloc (by simp) _).alloc (by simp;omega) _
 have hR3:=(Yb.madeV (w.alloc (.cells (ZK V am al ad cm cl cd) 35)) r).ext (B:=w.heap.size+1+1) ((Below.refl _ _).alloc (by simp) (.cells #[.int .u16 x,.int .u32 y] 25)) (by simp)
 have hV3:=hV.ext hB3
 have hp2:=zaD.made ((w.alloc (.cells (ZK V am al ad cm cl cd) 35)).alloc (.cells (RL r).toArray 92)) (v0:=.int .u16 x) (v1:=.int .u32 y) 25
 have hvb:=((ZB.made (V:=V) (am:=am) (al:=al) (ad:=ad) (cm:=cm) (cl:=cl) (cd:=cd) w).ext (B:=w.heap.size+1) ((Below.refl _ _).alloc (by simp) (.cells (RL r).toArray 92)) (by omega)).ext (B:=w.heap.size+1) ((Below.refl _ _).alloc (by simp) (.cells #[.int .u16 x,.int .u32 y] 25)) (by omega)
 have hz3:(((w.alloc (.cells (ZK V am al ad cm cl cd) 35)).alloc (.cells (RL r).toArray 92)).alloc (.cells #[.int .u16 x,.int .u32 y] 25)).heap.size=w.heap.size+1+1+1:=by simp
 simp only [World.size_alloc] at hR3 hp2
 have k0:=hp2.c0
 have k1:=hp2.c1
 clear hp2
 obtain ⟨A,hA⟩:∃A,XV V.ls (x,y)=A:=⟨_,rfl⟩
 obtain ⟨o,ho⟩:∃o,KK V (Zv r) A=o:=⟨_,rfl⟩
 have HA:=hid hA
 have hu70:=Tryz.underlying92
 have hi70:=Qw r
 obtain ⟨w3,hw3⟩:∃w3,(((w.alloc (.cells (ZK V am al ad cm cl cd) 35)).alloc (.cells (RL r).toArray 92)).alloc (.cells #[.int .u16 x,.int .u32 y] 25))=w3:=⟨_,rfl⟩
 have HW3:=hid hw3
 rw [hw3] at hB3 hR3 hV3 k0 k1 hvb hz3
 have HZ:=hid hz3
 have hz:w.heap.size+1+1<w3.heap.size:=by omega
 have HS:Hid (∀W,Below w3.heap.size w3 W→Below w3.heap.size w3 W∧W.rangeAt (w.heap.size+1) 0 (RL r)∧W.cell? ⟨w.heap.size,0,none⟩=some (.int .u64 V.id)∧W.cell? ⟨w.heap.size,1,none⟩=some (.slice am V.ms.length cm)∧W.cell? ⟨w.heap.size,2,none⟩=some (.slice al V.ls.length cl)∧W.cell? ⟨w.heap.size,3,none⟩=some (.slice ad V.ds.length cd)∧W.cell? ⟨w.heap.size+1+1,0,none⟩=some (.int .u16 x)∧W.cell? ⟨w.heap.size+1+1,1,none⟩=some (.int .u32 y)):=hid λW h=>⟨h,(hR3.ext h (by omega)).range,(hvb.ext h (by omega)).c0,(hvb.ext h (by omega)).c1,(hvb.ext h (by omega)).c2,(hvb.ext h (by omega)).c3,ZG k0 h,ZG k1 h⟩
 have H0:Below w3.heap.size w3 w3.drew:=(Below.refl _ _).drew
 have C1:Hid (∀W,Below w3.heap.size w3 W→Calls Tryz.prog 107 #[YM V am al ad cm cl cd,.agg #[.int .u16 x,.int .u32 y]] W λe w'=>e=.returned (.int .i64 A)∧Below W.heap.size W w'∧Below w3.heap.size w3 w'):=hid λW h=>((Fx HA (hV3.ext h)).mono λe w' ⟨h1,h2⟩=>⟨h1,h2,h.trans (h2.mono h.size)⟩)
 clear hz3 hvb hA hw3
 cases o with
 | none =>
  have HB:Hid (Xg V (Zv r) (x,y)=false):=hid (by unfold Xg;rw [HA.out,ho];simp)
  rw [HB.out]
  have HO:=hid ho
  clear ho
  have C2:Hid (∀W,Below w3.heap.size w3 W→Calls Tryz.prog 298 #[YM V am al ad cm cl cd,.agg (RL r).toArray,.int .i64 A] W λe w'=>e=.returned (.tuple #[.agg #[.int .u16 0,.int .u32 0],.bool false])∧Below W.heap.size W w'∧Below w3.heap.size w3 w'):=hid λW h=>((JT HO (hV3.ext h) hf).mono λe w' ⟨h1,h2⟩=>⟨h1,h2,h.trans (h2.mono h.size)⟩)
  clear hV3 hV hf
  go_enter Tryz.func211,Tryz.ntmps211
  go_wp2
  rw [HW3.out]
  go_region_held3 (λW=>Below w3.heap.size w3 W∧W.rangeAt (w.heap.size+1) 0 (RL r)∧W.cell? ⟨w.heap.size,0,none⟩=some (.int .u64 V.id)∧W.cell? ⟨w.heap.size,1,none⟩=some (.slice am V.ms.length cm)∧W.cell? ⟨w.heap.size,2,none⟩=some (.slice al V.ls.length cl)∧W.cell? ⟨w.heap.size,3,none⟩=some (.slice ad V.ds.length cd)∧W.cell? ⟨w.heap.size+1+1,0,none⟩=some (.int .u16 x)∧W.cell? ⟨w.heap.size+1+1,1,none⟩=some (.int .u32 y)) (first | exact HS.out _ H0 | exact HS.out _ (by assumption) | exact HS.out _ (Below.alloc (by assumption) (Below.size (by assumption)) _) | exact HS.out _ (Xy (by assumption) (by first | exact Nat.le_refl _ | exact Below.size (by assumption)) _ _)) (first | ((go_at_call 107;refine (C1.out _ (by first | assumption | exact Below.alloc (by assumption) (Below.size (by assumption)) _)).mono ?_;rintro e w5 ⟨rfl,hbb5,hb5⟩;obtain ⟨hc5,hf5⟩:=JY hbb5;try (have hs5:w3.heap.size<w5.heap.size:=by have:=hbb5.size;simp at this;omega))) | ((go_at_call 298;refine (C2.out _ (by first | assumption | exact Below.alloc (by assumption) (Below.size (by assumption)) _)).mono ?_;rintro e w6 ⟨rfl,hbb6,hb6⟩;obtain ⟨hc6,hf6⟩:=JY hbb6;(first | (have hs6:w5.heap.size<w6.heap.size:=by have:=hbb6.size;simp at this;omega) | skip);(first | (have hs7:w3.heap.size<w6.heap.size:=by have:=hbb6.size;have:=hbb5.size;simp at *;omega) | skip))))
  all_goals (
   obtain ⟨hBx,-,-,-,-,-,z0,z1⟩:=‹Below w3.heap.size w3 _∧_›
   go_wp2
   go_ret
   exact ⟨rfl,hB3.trans (hBx.mono (by have:=hB3.size;omega))⟩)
 | some q =>
  obtain ⟨u,v⟩:=q
  have he:=λw=>VK x y u v w
  cases hq:decide ((x,y)=(u,v))
  ·have HB:Hid (Xg V (Zv r) (x,y)=false):=hid (by unfold Xg;rw [HA.out,ho];simp at hq;simp;omega)
   rw [hq] at he
   rw [HB.out]
   have HO:=hid ho
   clear ho hq
   have C2:Hid (∀W,Below w3.heap.size w3 W→Calls Tryz.prog 298 #[YM V am al ad cm cl cd,.agg (RL r).toArray,.int .i64 A] W λe w'=>e=.returned (.tuple #[.agg #[.int .u16 u,.int .u32 v],.bool true])∧Below W.heap.size W w'∧Below w3.heap.size w3 w'):=hid λW h=>((VZ HO (hV3.ext h) hf).mono λe w' ⟨h1,h2⟩=>⟨h1,h2,h.trans (h2.mono h.size)⟩)
   clear hV3 hV hf
   go_enter Tryz.func211,Tryz.ntmps211
   go_wp2
   rw [HW3.out]
   go_region_held3 (λW=>Below w3.heap.size w3 W∧W.rangeAt (w.heap.size+1) 0 (RL r)∧W.cell? ⟨w.heap.size,0,none⟩=some (.int .u64 V.id)∧W.cell? ⟨w.heap.size,1,none⟩=some (.slice am V.ms.length cm)∧W.cell? ⟨w.heap.size,2,none⟩=some (.slice al V.ls.length cl)∧W.cell? ⟨w.heap.size,3,none⟩=some (.slice ad V.ds.length cd)∧W.cell? ⟨w.heap.size+1+1,0,none⟩=some (.int .u16 x)∧W.cell? ⟨w.heap.size+1+1,1,none⟩=some (.int .u32 y)) (first | exact HS.out _ H0 | exact HS.out _ (by assumption) | exact HS.out _ (Below.alloc (by assumption) (Below.size (by assumption)) _) | exact HS.out _ (Xy (by assumption) (by first | exact Nat.le_refl _ | exact Below.size (by assumption)) _ _)) (first | ((go_at_call 107;refine (C1.out _ (by first | assumption | exact Below.alloc (by assumption) (Below.size (by assumption)) _)).mono ?_;rintro e w5 ⟨rfl,hbb5,hb5⟩;obtain ⟨hc5,hf5⟩:=JY hbb5;try (have hs5:w3.heap.size<w5.heap.size:=by have:=hbb5.size;simp at this;omega))) | ((go_at_call 298;refine (C2.out _ (by first | assumption | exact Below.alloc (by assumption) (Below.size (by assumption)) _)).mono ?_;rintro e w6 ⟨rfl,hbb6,hb6⟩;obtain ⟨hc6,hf6⟩:=JY hbb6;(first | (have hs6:w5.heap.size<w6.heap.size:=by have:=hbb6.size;simp at this;omega) | skip);(first | (have hs7:w3.heap.size<w6.heap.size:=by have:=hbb6.size;have:=hbb5.size;simp at *;omega) | skip))))
   all_goals (
    obtain ⟨hBx,-,-,-,-,-,z0,z1⟩:=‹Below w3.heap.size w3 _∧_›
    go_wp2
    go_ret
    exact ⟨rfl,hB3.trans (hBx.mono (by have:=hB3.size;omega))⟩)
  ·have HB:Hid (Xg V (Zv r) (x,y)=true):=hid (by unfold Xg;rw [HA.out,ho];simp at hq;simp;omega)
   rw [hq] at he
   rw [HB.out]
   have HO:=hid ho
   clear ho hq
   have C2:Hid (∀W,Below w3.heap.size w3 W→Calls Tryz.prog 298 #[YM V am al ad cm cl cd,.agg (RL r).toArray,.int .i64 A] W λe w'=>e=.returned (.tuple #[.agg #[.int .u16 u,.int .u32 v],.bool true])∧Below W.heap.size W w'∧Below w3.heap.size w3 w'):=hid λW h=>((VZ HO (hV3.ext h) hf).mono λe w' ⟨h1,h2⟩=>⟨h1,h2,h.trans (h2.mono h.size)⟩)
   clear hV3 hV hf
   go_enter Tryz.func211,Tryz.ntmps211
   go_wp2
   rw [HW3.out]
   go_region_held3 (λW=>Below w3.heap.size w3 W∧W.rangeAt (w.heap.size+1) 0 (RL r)∧W.cell? ⟨w.heap.size,0,none⟩=some (.int .u64 V.id)∧W.cell? ⟨w.heap.size,1,none⟩=some (.slice am V.ms.length cm)∧W.cell? ⟨w.heap.size,2,none⟩=some (.slice al V.ls.length cl)∧W.cell? ⟨w.heap.size,3,none⟩=some (.slice ad V.ds.length cd)∧W.cell? ⟨w.heap.size+1+1,0,none⟩=some (.int .u16 x)∧W.cell? ⟨w.heap.size+1+1,1,none⟩=some (.int .u32 y)) (first | exact HS.out _ H0 | exact HS.out _ (by assumption) | exact HS.out _ (Below.alloc (by assumption) (Below.size (by assumption)) _) | exact HS.out _ (Xy (by assumption) (by first | exact Nat.le_refl _ | exact Below.size (by assumption)) _ _)) (first | ((go_at_call 107;refine (C1.out _ (by first | assumption | exact Below.alloc (by assumption) (Below.size (by assumption)) _)).mono ?_;rintro e w5 ⟨rfl,hbb5,hb5⟩;obtain ⟨hc5,hf5⟩:=JY hbb5;try (have hs5:w3.heap.size<w5.heap.size:=by have:=hbb5.size;simp at this;omega))) | ((go_at_call 298;refine (C2.out _ (by first | assumption | exact Below.alloc (by assumption) (Below.size (by assumption)) _)).mono ?_;rintro e w6 ⟨rfl,hbb6,hb6⟩;obtain ⟨hc6,hf6⟩:=JY hbb6;(first | (have hs6:w5.heap.size<w6.heap.size:=by have:=hbb6.size;simp at this;omega) | skip);(first | (have hs7:w3.heap.size<w6.heap.size:=by have:=hbb6.size;have:=hbb5.size;simp at *;omega) | skip))))
   all_goals (
    obtain ⟨hBx,-,-,-,-,-,z0,z1⟩:=‹Below w3.heap.size w3 _∧_›
    go_wp2
    go_ret
    exact ⟨rfl,hB3.trans (hBx.mono (by have:=hB3.size;omega))⟩)
theorem ZJ {ops:Array Oper} {rest:List Oper} {op:Oper} {a:Go.Act} {w:World} {Q:Exit→Go.Act→World→Prop} {x:Operand} {b:Nat} {r:Nat→Int} (h:Yb w b r) (hw:Region.wanted op (yielded ops a.tmps)=true) (ho:op.op=.load 92 x)
  (hx:a.eval x=.pointer (some ⟨b,0,none⟩)) (hk:wpList Tryz.prog ops Q rest (a.put op.dst (.agg (RL r).toArray)) w):wpList Tryz.prog ops Q (op :: rest) a w :=
 wpList_step λK hK=>by rw [if_pos hw];exact wp_load_mid 92 x ho b 0 hx (RL r) _ h.range Tryz.underlying92 rfl (Qw r) (hK _ _ hk)
theorem zaR {V:Zs} {am al ad:Option Addr} {cm cl cd:Nat} {x y:Int} {w:World} {b:Bool} (h:Hid (decide ((x,y)∈V.ms)=b)) (hV:Zt w am al ad V) :
  Calls Tryz.prog 27 #[YM V am al ad cm cl cd,.agg #[.int .u16 x,.int .u32 y]] w λe w'=>e=.returned (.bool b)∧Below w.heap.size w w':=by
 have:=XO V am al ad cm cl cd x y w hV
 rw [h.out] at this
 exact this
theorem YZ {r:Nat→Int} {V:Zs} {am al ad:Option Addr} {cm cl cd:Nat} {x y:Int} {w:World} {b:Bool} (h:Hid (YW V (Zv r) (x,y)=b)) (hV:Zt w am al ad V) (hf:Gb V) :
  Calls Tryz.prog 209 #[YM V am al ad cm cl cd,.agg (RL r).toArray,.agg #[.int .u16 x,.int .u32 y]] w λe w'=>e=.returned (.bool b)∧Below w.heap.size w w':=by
 have:=zbo r V am al ad cm cl cd x y w hV hf
 rw [h.out] at this;exact this
theorem GC:∀(xs ys:List Pid) (L:List (Pid × Unit)),Zx L (xs ++ ys)=Zx (Zx L xs) ys
 | [],_,_=>rfl
 | p :: l,ys,L=>by simp only [List.cons_append,Zx];exact GC l ys _
theorem zeq {ls:List (List Pid)} {k:Nat} (h:k<ls.length) {l:List Pid} (hl:l=ls[k]):(ls.take (k+1)).flatten=(ls.take k).flatten ++ l:=by
 rw [List.take_succ_eq_append_getElem h,List.flatten_append,← hl];simp
theorem JS {p q:Pid} {L:List (Pid × Unit)} (h:(keys L).Nodup):q∈keys (del p L)↔q∈keys L∧q≠p:=by
 rw [Ky h]
 simp only [keys,List.mem_map,List.mem_filter]
 constructor
 ·rintro ⟨x,⟨hx,hn⟩,rfl⟩
  exact ⟨⟨x,hx,rfl⟩,by simpa using hn⟩
 ·rintro ⟨⟨x,hx,rfl⟩,hn⟩
  exact ⟨x,⟨hx,by simpa using hn⟩,rfl⟩
theorem Gt {p:Pid} {L:List (Pid × Unit)} (h:(keys L).Nodup):(keys (del p L)).Nodup:=by
 rw [Ky h];exact h.sublist (List.Sublist.map _ (List.filter_sublist))
theorem XN (xs:List Pid):(keys (Zx [] xs)).Nodup:=VS xs [] (by simp [keys])
theorem Fz {V:Zs} {p:Pid} {Ls:List (List Pid)}:ZA V.ms (YS (keys (del p (Zx [] Ls.flatten))))=ZY V p Ls:=by
 unfold ZA ZY
 apply List.filter_congr
 intro q _
 have:q∈YS (keys (del p (Zx [] Ls.flatten)))↔q∈Ls.flatten∧q≠p:=by
  rw [Kb,JS (XN _),KE];simp [keys]
 rw [Bool.eq_iff_iff]
 simp only [decide_eq_true_eq,Bool.and_eq_true,Bool.not_eq_true',decide_eq_false_iff_not]
 exact this
theorem list_ext {s r:Nat} {L:List (Pid × Unit)} {w:World} {X:List Pid} {N:Nat} (hS:ZP w s r L) (hnd:(keys L).Nodup) (hok:∀p∈keys L,ok p) (hn:L.length≤549755813888) (hX:Hid (YS (keys L)=X)) (hN:Hid (X.length=N)) :
  Calls Tryz.prog 262 #[.pointer (some ⟨s,0,none⟩)] w λe w'=>∃a c,e=.returned (.slice a N c)∧Zb w' a X∧Below w.heap.size w w':=by
 refine (Qm s r L w hS hnd hok hn).mono ?_
 rintro e w' ⟨v,rfl,hown,hb⟩
 obtain ⟨a,c,rfl,hrow,-⟩:=hown.row
 rw [hX.out,hN.out] at *
 rw [hX.out] at hrow
 exact ⟨a,c,rfl,hrow,hb⟩
theorem zcg {a:Option Addr} {c n:Nat} {xs:List Pid} {b:Option Addr} {d m:Nat} {ys:List Pid} {w:World} (hn':Hid (xs.length=n)) (hm':Hid (ys.length=m)) (hn:xs.length≤549755813888) (hm:ys.length≤549755813888) (hx:Zb w a xs) (hy:Zb w b ys) :
  Calls Tryz.prog 131 #[.slice a n c,.slice b m d] w λe w'=>∃v,e=.returned v∧Zy w' w.heap.size v (ZA xs ys)∧Below w.heap.size w w':=by
 rw [←hn'.out,← hm'.out];exact Vv a c xs b d ys w hn hm hx hy
structure FineL (Ls:List (List Pid)):Prop where
 wf:∀l∈Ls,XC l
 len:Ls.length≤549755813888
 sum:Ls.flatten.length≤549755813888
 each:∀l∈Ls,l.length≤549755813888
set_option maxRecDepth 100000 in
set_option maxHeartbeats 3200000 in
theorem zcV (V:Zs) (am al ad:Option Addr) (cm cl cd:Nat) (x y:Int) (a:Option Addr) (c:Nat) (Ls:List (List Pid)) (w:World) (hV:Zt w am al ad V) (hf:Gb V) (hL:Zp w a Ls) (hfl:FineL Ls) :
  Calls Tryz.prog 212 #[YM V am al ad cm cl cd,.agg #[.int .u16 x,.int .u32 y],.slice a Ls.length c] w λe w'=>∃v,e=.returned v∧Zy w' w.heap.size v (ZY V (x,y) Ls)∧Below w.heap.size w w':=by
 have hB2:Below w.heap.size w ((w.alloc (.cells (ZK V am al ad cm cl cd) 35)).alloc (.cells #[.int .u16 x,.int .u32 y] 25)):=(bra).alloc (by simp) _
 have hp:=zaD.made (w.alloc (.cells (ZK V am al ad cm cl cd) 35)) (v0:=.int .u16 x) (v1:=.int .u32 y) 25
 have hvb:=(ZB.made (V:=V) (am:=am) (al:=al) (ad:=ad) (cm:=cm) (cl:=cl) (cd:=cd) w).ext (B:=w.heap.size+1) ((Below.refl _ _).alloc (by simp) (.cells #[.int .u16 x,.int .u32 y] 25)) (by omega)
 have hz2:((w.alloc (.cells (ZK V am al ad cm cl cd) 35)).alloc (.cells #[.int .u16 x,.int .u32 y] 25)).heap.size=w.heap.size+1+1:=by simp
 have hV2:=hV.ext hB2
 have hL2:=hL.ext hB2
 have HLEN:=hid hfl.len
 have hlen:=hfl.len
 have hms:=hf.ms
 simp only [World.size_alloc] at hp
 obtain ⟨w2,hw2⟩:∃w2,((w.alloc (.cells (ZK V am al ad cm cl cd) 35)).alloc (.cells #[.int .u16 x,.int .u32 y] 25))=w2:=⟨_,rfl⟩
 rw [hw2] at hB2 hp hvb hz2 hV2 hL2
 have HZ:=hid hz2
 clear hz2
 go_enter Tryz.func212,Tryz.ntmps212
 go_wp2_with (go_at_call 69;refine (new_is (n:=0) (ys:=[]) (hid rfl) (by simp) (.inl rfl)).mono ?_;rintro e w3 ⟨s,rm,rfl,hs,hr,hS,hb3⟩)
 clear hw2
 go_loopw [13] (λi wr=>∃k:Nat,k≤Ls.length∧i=.int .i64 k∧ZP wr s rm (Zx [] (Ls.take k).flatten)∧Below w2.heap.size w2 wr) (λi _=>Ls.length - (intOf i).toNat)
 case atStart=>exact ⟨0,Nat.zero_le _,rfl,by simpa [Zx] using hS,hb3⟩
 case round =>
  obtain ⟨k,hk,rfl,hSr,hb⟩:=hrel
  have hsr:=hb.size
  by_cases hlt:k<Ls.length
  ·obtain ⟨b,off,ai,ci,l,rfl,hx,d1,d2⟩:=hL2.at hb rfl hlt
   have hlm:l∈Ls:=by rw [hx];exact List.getElem_mem _
   have hll:=hfl.each l hlm
   have hfs:Zx (Zx [] (Ls.take k).flatten) l=Zx [] (Ls.take (k+1)).flatten:=by rw [zeq hlt hx,GC]
   have HX:=hid hx
   clear hx
   go_wp2_with (go_at_call 167;refine (union_is (hid rfl) rfl hfs (by omega) d2 hSr).mono ?_;rintro e w4 ⟨rfl,hS4,hm4⟩)
   go_roundw
   case rel=>exact ⟨k+1,by omega,by go_num,hS4,hb.trans (hm4.below hsr (λk e=>by subst e;exact hr))⟩
   case measure=>simp [intOf];omega
  ·have htk:Ls.take k=Ls:=List.take_of_length_le (by omega)
   rw [htk] at hSr
   have HTK:=hid htk
   clear htk
   obtain ⟨bs,hbs⟩:∃bs,(Yz (x,y) (Zx [] Ls.flatten)).isSome=bs:=⟨_,rfl⟩
   have z0:=ZG hp.c0 hb
   have z1:=ZG hp.c1 hb
   go_wp2_with (go_at_call 266;refine (zec s rm _ x y hbs _ hSr).mono ?_;rintro e w5 ⟨rfl,hS5,hm5⟩)
   have hb5:Below w2.heap.size w2 w5:=hb.trans (hm5.below hsr (λk e=>by subst e;exact hr))
   obtain ⟨-,v1,-,-⟩:=hvb.ext hb5 (by have:=HZ.out;omega)
   have hV5:=hV2.ext hb5
   have hnd:=Gt (p:=(x,y)) (XN Ls.flatten)
   have hsub:∀q∈keys (del (x,y) (Zx [] Ls.flatten)),q∈Ls.flatten:=λq hq=>by
    have:=((JS (XN _)).1 hq).1
    rw [KE] at this;simpa [keys] using this
   have hokk:∀q∈keys (del (x,y) (Zx [] Ls.flatten)),ok q:=λq hq=>by
    obtain ⟨l,hl,hql⟩:=List.mem_flatten.1 (hsub q hq)
    exact hfl.wf l hl q hql
   have hnlen:(del (x,y) (Zx [] Ls.flatten)).length≤549755813888:=by
    have h1:=Jf hnd hsub
    simp only [keys,List.length_map] at h1
    have:=hfl.sum;omega
   obtain ⟨X,hX⟩:∃X,YS (keys (del (x,y) (Zx [] Ls.flatten)))=X:=⟨_,rfl⟩
   obtain ⟨N,hN⟩:∃N,X.length=N:=⟨_,rfl⟩
   have hXN:X.length≤549755813888:=by rw [←hX,YH];simpa [keys] using hnlen
   have HO:Hid (ZA V.ms X=ZY V (x,y) Ls):=hid (by rw [←hX];exact Fz)
   have HX:=hid hX
   have HN:=hid hN
   have HS:Hid (∀W,Below w5.heap.size w5 W→Below w5.heap.size w5 W∧W.cell? ⟨w.heap.size,1,none⟩=some (.slice am V.ms.length cm)):=hid λW h=>⟨h,ZG v1 h⟩
   have C1:Hid (∀W,Below w5.heap.size w5 W→Calls Tryz.prog 262 #[.pointer (some ⟨s,0,none⟩)] W λe w'=>∃a c,e=.returned (.slice a N c)∧Zb w' a X∧Below w5.heap.size w5 w'):=hid λW h=>((list_ext (hS5.ext h) hnd hokk hnlen HX HN).mono λe w' ⟨a,c,h1,h2,h3⟩=>⟨a,c,h1,h2,h.trans (h3.mono h.size)⟩)
   have C2:Hid (∀W aa cc,Below w5.heap.size w5 W→Zb W aa X→Calls Tryz.prog 131 #[.slice am V.ms.length cm,.slice aa N cc] W λe w'=>∃v,e=.returned v∧Zy w' w5.heap.size v (ZA V.ms X)∧Below w5.heap.size w5 w'):=hid λW aa cc h hr=>((zcg (hid rfl) HN hms hXN (hV5.ms.ext h) hr).mono λe w' ⟨v,h1,h2,h3⟩=>⟨v,h1,h2.mono h.size,h.trans (h3.mono h.size)⟩)
   have H0:Below w5.heap.size w5 w5.drew:=(Below.refl _ _).drew
   clear hX hN hXN hnd hsub hokk hnlen hbs v1 hV5 hV2 hL2 hS5 hSr z0 z1 hp hvb
   go_region_held3 (λW=>Below w5.heap.size w5 W∧W.cell? ⟨w.heap.size,1,none⟩=some (.slice am V.ms.length cm)) (first | exact HS.out _ H0 | exact HS.out _ (by assumption)) (first | ((go_at_call 262;refine (C1.out _ (by assumption)).mono ?_;rintro e w6 ⟨a6,c6,rfl,hrow6,hb6⟩)) | ((go_at_call 131;refine (C2.out _ _ _ (by assumption) (by assumption)).mono ?_;rintro e w7 ⟨v7,rfl,hown7,hb7⟩)))
   all_goals (
    go_wp2
    go_ret
    exact ⟨_,rfl,by rw [←HO.out];exact hown7.mono (by have:=hb5.size;have:=hB2.size;omega),(hB2.trans (hb5.mono hB2.size)).trans (hb7.mono (by have:=hb5.size;have:=hB2.size;omega))⟩)
theorem info33:(Tryz.prog.info? 26).map (λi=>(i.zero,i.size,i.bytes))=some (some (.slice none 0 0),1,24):=by kernel_rfl
theorem Zb.grown {w w':World} {a:Option Addr} {l:List Pid} {row:Option Nat} (h:Zb w a l) (hg:w.grownBy w' row) (hne:∀b off,a=some ⟨b,off,none⟩→l≠[]→row≠some b):Zb w' a l:=by
 rcases h with rfl | ⟨b,off,rfl,hlt,hc⟩
 ·exact .inl rfl
 ·by_cases hl:l=[]
  ·exact .inl hl
  ·have hb:=hg.block b hlt (λe=>hne b off rfl hl e.symm)
   refine .inr ⟨b,off,rfl,by have:=hg.size;omega,λi hi=>?_⟩
   obtain ⟨h1,h2⟩:=hc i hi
   exact ⟨(World.cell?_of_block (w:=w) hb).trans h1,(World.cell?_of_block (w:=w) hb).trans h2⟩
def Elem (w:World) (row:Option Nat) (u:Option Value) (l:List Pid):Prop:=∃ai ci,u=some (.slice ai l.length ci)∧Zb w ai l∧∀b off,ai=some ⟨b,off,none⟩→l≠[]→row≠some b
def KY (w:World) (base:Nat) (v:Value) (Ls:List (List Pid)):Prop:=∃cells:List Value,w.ownsRow base 26 1 v Ls.length cells∧∀i (h:i<Ls.length),Elem w v.ownBlock cells[i]? Ls[i]
theorem KY.nil (w:World) (base:Nat):KY w base (.slice none 0 0) []:=⟨[],World.ownsRow_nil _ _ _ _,λi h=>by simp at h⟩
theorem KY.ext {w w':World} {base:Nat} {v:Value} {Ls:List (List Pid)} (h:KY w base v Ls) (hb:Below w.heap.size w w'):KY w' base v Ls:=by
 obtain ⟨cells,ho,he⟩:=h
 refine ⟨cells,⟨ho.1,?_⟩,λi hi=>?_⟩
 ·rcases ho.2 with hn | ⟨g,cap,cur,rfl,hbb,hgg,rest⟩
  ·exact .inl hn
  ·exact .inr ⟨g,cap,cur,rfl,hbb,(hb.block g (Array.getElem?_eq_some_iff.1 hgg).1).trans hgg,rest⟩
 ·obtain ⟨ai,ci,h1,h2,h3⟩:=he i hi
  exact ⟨ai,ci,h1,h2.ext hb,h3⟩
theorem KY.alloc {w:World} {base:Nat} {v:Value} {Ls:List (List Pid)} (h:KY w base v Ls) (o:Obj):KY (w.alloc o) base v Ls:=h.ext (bra)
theorem KY.row {w:World} {base:Nat} {v:Value} {Ls:List (List Pid)} (h:KY w base v Ls):∃a c,v=.slice a Ls.length c∧Zp w a Ls:=by
 obtain ⟨cells,ho,he⟩:=h
 have hcells:=λg=>World.ownsRow.cells (g:=g) ho
 rcases ho.2 with ⟨rfl,hn⟩ | ⟨g,cap,cur,rfl,hb,hg,hnc,hcm,hcs,htake⟩
 ·exact ⟨none,0,by rw [hn],.inl (List.length_eq_zero_iff.1 hn)⟩
 ·refine ⟨_,cap,rfl,.inr ⟨g,0,rfl,(Array.getElem?_eq_some_iff.1 hg).1,λi hi=>?_⟩⟩
  obtain ⟨ai,ci,h1,h2,_⟩:=he i hi
  have:=hcells g rfl i _ h1
  rw [YN] at this
  exact ⟨ai,ci,this,h2⟩
theorem KY.made (w:World) {a:Option Addr} {l:List Pid} {n c:Nat} {base:Nat} (hn:n=l.length) (hr:Zb w a l) (hb:base≤w.heap.size) :
  KY (w.alloc (.cells #[.slice a n c] 26)) base (.slice (some ⟨w.heap.size,0,none⟩) 1 1) [l]:=by
 subst hn
 refine ⟨[.slice a l.length c],⟨rfl,.inr ⟨w.heap.size,1,#[.slice a l.length c],rfl,hb,heap_alloc_new w _,Nat.le_refl _,by unfold maxLen;omega,rfl,rfl⟩⟩,λi hi=>?_⟩
 have hi':i=0:=by simpa using hi
 subst hi'
 refine ⟨a,c,rfl,hr.alloc _,λb off e hl=>?_⟩
 rcases hr with h | ⟨b',off',e',hlt,_⟩
 ·exact absurd h hl
 ·rw [e] at e';cases e'
  simp [Value.ownBlock];omega
theorem ZO {w:World} {ops:Array Oper} {rest:List Oper} {o:Oper} {act:Go.Act} {Q:Exit→Go.Act→World→Prop} {s x:Operand} {base:Nat} {v:Value} {Ls:List (List Pid)} {l:List Pid} (hown:KY w base v Ls) {b c n cx:Nat} {ax:Option Addr}
  (h0:w.cell? ⟨b,0,none⟩=some (.slice ax n cx)) (hn:n=l.length) (hr:Zb w ax l) (hne:∀b off,ax=some ⟨b,off,none⟩→l≠[]→v.ownBlock≠some b)
  (hlen:Ls.length+1≤1099511627776) (hbase:base≤w.heap.size)
  (hg:o.guard=none) (ho:o.op=.call { callee:=.builtin .append,args:=#[s,x],argTypes:=#[33,33] }) (hs:act.eval s=v) (hx:act.eval x=.slice (some ⟨b,0,none⟩) 1 c)
  (h:∀v' w',KY w' base v' (Ls ++ [l])→w.grownBy w' v.ownBlock→wpList Tryz.prog ops Q rest (act.put o.dst v') w'):wpList Tryz.prog ops Q (o :: rest) act w:=by
 subst hn
 obtain ⟨i0,hi,hz0,hz1,hz2⟩:=info_parts info33
 obtain ⟨cells,hoc,he⟩:=hown
 obtain ⟨v',w',hrun,h2,h3,h4,h5⟩:=run_append_own_at (P:=Tryz.prog) w base 33 o.type 26 i0 _ 1 24 Tryz.underlying33 hi hz0 hz1 hz2 rfl (by decide) v Ls.length cells hoc ⟨b,0,none⟩ 1 c [.slice ax l.length cx] rfl (λj u hu=>by
  have hj:j=0:=by have:=(List.getElem?_eq_some_iff.1 hu).1;simpa using this
  subst hj
  rw [YN]
  simp at hu;subst hu
  exact h0) (λu hu=>by simp at hu;subst hu;rfl) (by unfold maxLen;omega) (by omega) hbase
 have hcl:cells.length=Ls.length:=by simpa using hoc.1
 have far:∀(ai:Option Addr) (m:List Pid),Zb w ai m→(∀b off,ai=some ⟨b,off,none⟩→m≠[]→v.ownBlock≠some b)→∀b off,ai=some ⟨b,off,none⟩→m≠[]→v'.ownBlock≠some b:=by
  intro ai m hm hno b off e hml
  rcases h5 with h5 | h5
  ·rw [h5];exact hno b off e hml
  ·rw [h5]
   rcases hm with hm | ⟨b',off',e',hlt,_⟩
   ·exact absurd hm hml
   ·rw [e] at e';cases e'
    intro e2;simp at e2;omega
 refine Lib.wpList_append_run w hg s x 33 33 ho _ _ hs hx v' w' hrun (h v' w' ⟨cells ++ [.slice ax l.length cx],?_,λi hi=>?_⟩ h3)
 ·rw [List.length_append];exact h2
 ·by_cases hlt:i<Ls.length
  ·obtain ⟨ai,ci,g1,g2,g3⟩:=he i hlt
   rw [List.getElem?_append_left (by omega),List.getElem_append_left hlt]
   exact ⟨ai,ci,g1,g2.grown h3 g3,far ai _ g2 g3⟩
  ·have hi':i=Ls.length:=by simp at hi;omega
   subst hi'
   rw [List.getElem?_append_right (by omega),List.getElem_append_right (by omega)]
   simp only [hcl,Nat.sub_self,List.getElem?_cons_zero,List.getElem_cons_zero]
   exact ⟨ax,cx,rfl,hr.grown h3 hne,far ax l hr hne⟩
structure Frm (w:World) (n:Nat) (V:Zs) (am al ad:Option Addr) (cm cl cd:Nat) (r:Nat→Int) (x y:Int):Prop where
 vb:ZB w n V am al ad cm cl cd
 rb:Yb w (n+1) r
 c0:w.cell? ⟨n+1+1,0,none⟩=some (.int .u16 x)
 c1:w.cell? ⟨n+1+1,1,none⟩=some (.int .u32 y)
theorem Frm.ext {w w':World} {n:Nat} {V:Zs} {am al ad:Option Addr} {cm cl cd:Nat} {r:Nat→Int} {x y:Int} (h:Frm w n V am al ad cm cl cd r x y) (hb:Below w.heap.size w w'):Frm w' n V am al ad cm cl cd r x y :=
 ⟨h.vb.ext hb h.vb.lt,h.rb.ext hb (by have:=World.block_lt_of_cell? w _ h.c0;simp only at this;omega),ZG h.c0 hb,ZG h.c1 hb⟩
theorem Frm.made (w:World) (V:Zs) (am al ad:Option Addr) (cm cl cd:Nat) (r:Nat→Int) (x y:Int) :
  Frm (((w.alloc (.cells (ZK V am al ad cm cl cd) 35)).alloc (.cells (RL r).toArray 92)).alloc (.cells #[.int .u16 x,.int .u32 y] 25)) w.heap.size V am al ad cm cl cd r x y:=by
 have hp2:=zaD.made ((w.alloc (.cells (ZK V am al ad cm cl cd) 35)).alloc (.cells (RL r).toArray 92)) (v0:=.int .u16 x) (v1:=.int .u32 y) 25
 have hR3:=(Yb.madeV (w.alloc (.cells (ZK V am al ad cm cl cd) 35)) r).ext (B:=w.heap.size+1+1) ((Below.refl _ _).alloc (by simp) (.cells #[.int .u16 x,.int .u32 y] 25)) (by simp)
 simp only [World.size_alloc] at hp2 hR3
 exact ⟨((ZB.made (V:=V) (am:=am) (al:=al) (ad:=ad) (cm:=cm) (cl:=cl) (cd:=cd) w).ext (B:=w.heap.size+1) ((Below.refl _ _).alloc (by simp) (.cells (RL r).toArray 92)) (by omega)).ext (B:=w.heap.size+1) ((Below.refl _ _).alloc (by simp) (.cells #[.int .u16 x,.int .u32 y] 25)) (by omega),hR3,hp2.c0,hp2.c1⟩
structure KA (V:Zs):Prop where
 wf:zdr V
 ls:∀l∈V.ls,l.length≤64
 ds:V.ds.length≤64
 ms:V.ms.length≤64
 nl:V.ls.length≤64
theorem KA.fine {V:Zs} (h:KA V):Gb V:=⟨h.wf,λl hl=>by have:=h.ls l hl;omega,by have:=h.ds;omega,by have:=h.ms;omega,by have:=h.nl;omega⟩
theorem zbF {V:Zs} {p:Pid}:XG V p=[]∨XG V p∈V.ls:=by
 unfold XG
 split
 ·exact .inl rfl
 ·rw [List.getD_eq_getElem?_getD]
  cases h:V.ls[(XV V.ls p).toNat]? with
  | none=>exact .inl rfl
  | some l=>exact .inr (List.mem_of_getElem? h)
theorem XY {V:Zs} {S:Pid→Bool}:(ZR V S).length≤V.ls.length:=List.length_filterMap_le _ _
theorem VA {V:Zs} {S:Pid→Bool} (h:KA V):XC (ZR V S):=λq hq=>by
 obtain ⟨l,hl,hf⟩:=Ea.1 hq
 exact h.wf.ls l hl q (zcB hf).1
theorem Ql {V:Zs} {p:Pid} (h:KA V):XC (XG V p):=by
 rcases zbF (V:=V) (p:=p) with e | e
 ·rw [e];intro q hq;cases hq
 ·exact h.wf.ls _ e
theorem Jm {V:Zs} {p:Pid} (h:KA V):(XG V p).length≤64:=by
 rcases zbF (V:=V) (p:=p) with e | e
 ·rw [e];simp
 ·exact h.ls _ e
theorem zci {V:Zs} {p:Pid} {L:List (List Pid)}:∀q∈ZY V p L,q∈V.ms:=λq hq=>(List.mem_filter.1 hq).1
theorem zcJ {V:Zs} {p:Pid} {L:List (List Pid)}:(ZY V p L).length≤V.ms.length:=List.length_filter_le _ _
theorem Ka {V:Zs} {p:Pid}:(ZI V p).length≤V.ms.length:=by
 unfold ZI;split
 ·exact zcJ
 ·simp
theorem Qg {V:Zs} {p:Pid} (h:KA V):XC (ZI V p):=λq hq=>by
 unfold ZI at hq;split at hq
 ·exact h.wf.ms q (zci q hq)
 ·cases hq
def FewL (Ls:List (List Pid)):Prop:=Ls.length≤3∧∀l∈Ls,XC l∧l.length≤64
theorem Gz:∀{Ls:List (List Pid)},(∀l∈Ls,l.length≤64)→Ls.flatten.length≤Ls.length * 64
 | [],_=>by simp
 | l :: Ls,h=>by
  have:=Gz (Ls:=Ls) (λx hx=>h x (List.mem_cons_of_mem _ hx))
  have:=h l (List.mem_cons_self ..)
  simp only [List.flatten_cons,List.length_append,List.length_cons];omega
theorem FewL.fine {Ls:List (List Pid)} (h:FewL Ls):FineL Ls :=
 ⟨λl hl=>(h.2 l hl).1,by have:=h.1;omega,by have:=Gz (λl hl=>(h.2 l hl).2);have:=h.1;omega,λl hl=>by have:=(h.2 l hl).2;omega⟩
theorem zd5 {V:Zs} {p:Pid} (h:XV V.ls p<0):XG V p=[]:=by unfold XG;rw [if_pos h]
theorem zdD {V:Zs} {p:Pid} {k:Nat} (h:XV V.ls p=(k:Int)) (hk:k<V.ls.length):XG V p=V.ls[k]:=by
 unfold XG;rw [h,if_neg (by omega)];simp [hk]
theorem EX {ls:List (List Pid)} {p:Pid} {k:Nat}:∀{j:Nat},Xr p ls j=(k:Int)→j≤k∧k<j+ls.length:=by
 induction ls with
 | nil=>intro j h;simp [Xr] at h <;> omega
 | cons l r ih =>
  intro j h
  simp only [Xr] at h
  split at h
  ·simp <;> omega
  ·have:=ih h;simp;omega
set_option maxRecDepth 100000 in
set_option maxHeartbeats 1600000 in
theorem Jl (V:Zs) (am al ad:Option Addr) (cm cl cd:Nat) (x y:Int) (w0 w:World) (hV0:Zt w0 am al ad V) (hb0:Below w0.heap.size w0 w) (hf:Gb V) :
  Calls Tryz.prog 264 #[YM V am al ad cm cl cd,.agg #[.int .u16 x,.int .u32 y]] w λe w'=>∃a c,e=.returned (.slice a (XG V (x,y)).length c)∧Zb w0 a (XG V (x,y))∧Below w.heap.size w w':=by
 have hV:=hV0.ext hb0
 have hB2:Below w.heap.size w ((w.alloc (.cells (ZK V am al ad cm cl cd) 35)).alloc (.cells #[.int .u16 x,.int .u32 y] 25)):=(bra).alloc (by simp) _
 have hvb:=(ZB.made (V:=V) (am:=am) (al:=al) (ad:=ad) (cm:=cm) (cl:=cl) (cd:=cd) w).ext (B:=w.heap.size+1) ((Below.refl _ _).alloc (by simp) (.cells #[.int .u16 x,.int .u32 y] 25)) (by omega)
 have hz2:w.heap.size<((w.alloc (.cells (ZK V am al ad cm cl cd) 35)).alloc (.cells #[.int .u16 x,.int .u32 y] 25)).heap.size:=by simp;omega
 have hV2:=hV.ext hB2
 have hnl:=hf.nl
 obtain ⟨X,hX⟩:∃X,XG V (x,y)=X:=⟨_,rfl⟩
 obtain ⟨N,hN⟩:∃N,X.length=N:=⟨_,rfl⟩
 rw [hX,hN]
 have HN:=hid hN
 obtain ⟨A,hA⟩:∃A,XV V.ls (x,y)=A:=⟨_,rfl⟩
 have HA:=hid hA
 by_cases hneg:A<0
 ·have hneg':decide (0≤A)=false:=by simp;omega
  have HX:Hid (X=[]):=hid (by rw [←hX];exact zd5 (by omega))
  clear hX hN hA
  go_enter Tryz.func264,Tryz.ntmps264
  go_wp2_with (go_at_call 107;refine (Fx HA hV2).mono ?_;rintro e w3 ⟨rfl,hb3⟩)
  go_ret
  exact ⟨none,0,by rw [←HN.out,HX.out];rfl,.inl HX.out,hB2.trans (hb3.mono hB2.size)⟩
 ·have hneg':decide (0≤A)=true:=by simp;omega
  obtain ⟨k,rfl⟩:=Int.eq_ofNat_of_zero_le (by omega:0≤A)
  have hk:k<V.ls.length:=by have:=EX (j:=0) hA;omega
  obtain ⟨b,off,ai,ci,l,e1,hx,d1,d2⟩:=hV0.ls.at (Below.refl _ _) rfl hk
  subst e1
  have HX:Hid (l=X):=hid (by rw [←hX,zdD hA hk,hx])
  have hlN:l.length=N:=by rw [HX.out];exact hN
  rw [hlN] at d1
  have d13:=ZG (ZG d1 hb0) hB2
  clear hX hN hA hx hlN
  go_enter Tryz.func264,Tryz.ntmps264
  go_wp2_with (go_at_call 107;refine (Fx HA hV2).mono ?_;rintro e w3 ⟨rfl,hb3⟩;obtain ⟨x0,x1,x2,x3⟩:=hvb.ext hb3 hz2;have d14:=ZG d13 hb3)
  go_ret
  exact ⟨ai,ci,rfl,by rw [←HX.out];exact d2,hB2.trans (hb3.mono hB2.size)⟩
theorem KY.lt {w:World} {base:Nat} {v:Value} {Ls:List (List Pid)} (h:KY w base v Ls) {g:Nat} (hg:v.ownBlock=some g):base≤g∧g<w.heap.size:=by
 obtain ⟨cells,ho,_⟩:=h
 exact World.ownsRow.lt ho g hg
theorem KY.rowN {w:World} {base:Nat} {v:Value} {Ls:List (List Pid)} (h:KY w base v Ls) {n:Nat} (hn:Ls.length=n):∃a c,v=.slice a n c∧Zp w a Ls:=by
 subst hn;exact h.row
theorem KY.far {w w0:World} {base:Nat} {v:Value} {Ls:List (List Pid)} (h:KY w base v Ls) {a:Option Addr} {l:List Pid} (hr:Zb w0 a l) (hb:w0.heap.size≤base):∀b off,a=some ⟨b,off,none⟩→l≠[]→v.ownBlock≠some b:=λb off e hl e2=>by
 have:=(h.lt e2).1
 rcases hr with hr | ⟨b',off',e',hlt,_⟩
 ·exact hl hr
 ·rw [e] at e';cases e';omega
theorem KY.far2 {w:World} {base n:Nat} {v:Value} {Ls:List (List Pid)} (h:KY w base v Ls) {a:Option Addr} {l:List Pid} (hr:∀b off,a=some ⟨b,off,none⟩→n≤b) (hb:w.heap.size≤n):∀b off,a=some ⟨b,off,none⟩→l≠[]→v.ownBlock≠some b:=λb off e _ e2=>by
 have:=(h.lt e2).2
 have:=hr b off e
 omega
theorem YT {V:Zs} {am al ad:Option Addr} {cm cl cd:Nat} {x y:Int} {a:Option Addr} {c n:Nat} {Ls:List (List Pid)} {w:World} (hn:Hid (Ls.length=n)) (hV:Zt w am al ad V) (hf:Gb V) (hL:Zp w a Ls) (hfl:FewL Ls) :
  Calls Tryz.prog 212 #[YM V am al ad cm cl cd,.agg #[.int .u16 x,.int .u32 y],.slice a n c] w λe w'=>∃v,e=.returned v∧Zy w' w.heap.size v (ZY V (x,y) Ls)∧Below w.heap.size w w':=by
 rw [←hn.out];exact zcV V am al ad cm cl cd x y a c Ls w hV hf hL hfl.fine
end Go.Proofs.YtcdpaflmofljaaaGreat
