import Derived.Test.YtcdpaflmofljaaaGreatGNodeNil8
import Derived.Laws.ShiftsVar
/- Parts of the proof of NodeNil: LG LH LI LJ LK A2 B1 A4 A6 A7 H1 H2 K0. -/
namespace Go.Proofs.YtcdpaflmofljaaaGreat
open Go.RowKit
section
variable {w:World} {b:Nat} {x y s0 s1 s2 ph b0 b1 b2:Int} {sl:Nat} {val:Value} {a:Option Addr} {c:Nat} {p q kind:Int}
set_option maxRecDepth 100000 in
set_option maxHeartbeats 3200000 in
theorem n1Start {V:Zs} {i:Nat} {A:VAd} {ld:Value} {osl m0 m1:Int} (hB:Zc w b 255 (prC x y 0 s1 s2 ph ld osl b0 b1 b2 val m0 m1)) (hi:V.id=(i:Int)) (hV:Zt w A.am A.al A.ad V) (hsum:Kg V.ls≤549755813888) (hc:Xh V=true) (hd:V.ds=[(x,y)]) (hnv:∀o off,A.ad=some ⟨o,off,none⟩→o≠b) :
  Calls Tryz.prog 99 #[.pointer (some ⟨b,0,none⟩),.agg (vcl V i A).toArray,.int .u64 sl] w λe w'=>∃a c,e=.returned (.tuple #[.agg #[.int .u32 1,.int .u16 x,.int .u32 y],.int .i64 0])∧Mut (λk=>k=b∨w.heap.size≤k) w w'∧Zc w' b 255 (prC x y 1 x y 1 (.slice a 1 c) sl 1 x y (.pointer none) 0 0)∧Zb w' a [(x,y)]∧(∀g off,a=some ⟨g,off,none⟩→w.heap.size≤g):=by
 obtain ⟨am,al,ad,cm,cl,cd⟩:=A
 obtain ⟨n1,e1⟩:∃q,V.ms.length=q:=⟨_,rfl⟩
 obtain ⟨n2,e2⟩:∃q,V.ls.length=q:=⟨_,rfl⟩
 have e3:V.ds.length=1:=by rw [hd];rfl
 have hx:(vcl V i ⟨am,al,ad,cm,cl,cd⟩).toArray=#[.int .u64 i,.slice am n1 cm,.slice al n2 cl,.slice ad 1 cd]:=by unfold vcl;rw [e1,e2,e3]
 rw [hx]
 obtain ⟨W1,hW1⟩:∃W1,w.alloc (.cells #[.int .u64 i,.slice am n1 cm,.slice al n2 cl,.slice ad 1 cd] 35)=W1:=⟨_,rfl⟩
 obtain ⟨W2,hW2⟩:∃W2,W1.alloc (.cells #[.int .u32 0,.int .u16 0,.int .u32 0] 124)=W2:=⟨_,rfl⟩
 have hb1:Below w.heap.size w W1:=by rw [←hW1];exact bra
 have hb12:Below W1.heap.size W1 W2:=by rw [←hW2];exact bra
 have hb2:Below w.heap.size w W2:=hb1.trans (hb12.mono hb1.size)
 have hz1:W1.heap.size=w.heap.size+1:=by rw [←hW1];simp
 have xV:Zc W2 w.heap.size 35 [.int .u64 i,.slice am n1 cm,.slice al n2 cl,.slice ad 1 cd]:=(by rw [←hW1];exact Zc.made _ _ _:Zc W1 w.heap.size 35 [.int .u64 i,.slice am n1 cm,.slice al n2 cl,.slice ad 1 cd]).ext hb12
 have xR:Zc W2 W1.heap.size 124 [.int .u32 0,.int .u16 0,.int .u32 0]:=by rw [←hW2];exact Zc.made _ _ _
 have hB2:=hB.ext hb2
 have hV2:=hV.ext hb2
 have C1:∀U:YB W2,Calls Tryz.prog 193 #[.agg #[.int .u64 i,.slice am n1 cm,.slice al n2 cl,.slice ad 1 cd]] U.W λe w'=>e=.returned (.int .i64 0)∧∃U':YB W2,w'=U'.W:=λU=>by
  have h:=Eq V am al ad cm cl cd U.W (hV2.ext U.h) hsum
  rw [e1,e2,e3,hi,hc] at h
  exact ZN h rfl
 have C2:∀U:YB W2,Calls Tryz.prog 180 #[.agg #[.int .u64 i,.slice am n1 cm,.slice al n2 cl,.slice ad 1 cd],.agg #[.int .u16 x,.int .u32 y]] U.W λe w'=>e=.returned (.bool true)∧∃U':YB W2,w'=U'.W:=λU=>by
  have h:=Ge V am al ad cm cl cd x y U.W (hV2.ext U.h)
  rw [e1,e2,e3,hi,show decide ((x,y)∈V.ds)=true from by rw [hd];simp] at h
  exact ZN h rfl
 have k0:=Za (xV.cell (j:=0) rfl)
 have k1:=Za (xV.cell (j:=1) rfl)
 have k2:=Za (xV.cell (j:=2) rfl)
 have k3:=Za (xV.cell (j:=3) rfl)
 have c0:=Za (hB2.cell (j:=0) rfl)
 have c1:=Za (hB2.cell (j:=1) rfl)
 have HX:=hid xV
 have HR:=hid xR
 have HB:=hid hB2
 have HV:=hid hV2
 have HB2:=hid hb2
 have HZ:Hid (b<w.heap.size∧W1.heap.size=w.heap.size+1):=hid ⟨hB.lt,hz1⟩
 have HD:=hid hd
 have HNV:Hid (∀o off,ad=some ⟨o,off,none⟩→o≠b):=hid hnv
 clear hB hV hsum hc hb1 hb12 hb2 xV xR hB2 hV2 hz1 hx e1 e2 e3 hd hi hnv
 go_enter Tryz.func99,Tryz.ntmps99
 go_upto_region 3 with fail
 try rw [hW2]
 clear hW1 hW2
 refine Ze (w:=W2) (Below.refl _ _) (by kernel_rfl) (by kernel_rfl) ?_
 repeat (go_big_quiet_step (first | with_reducible exact C1 _ | with_reducible exact C2 _))
 refine wpQuiet_nil ?_
 rintro w3 ⟨⟨_,hb3⟩,rfl⟩
 have HX3:=hid (HX.out.ext hb3)
 have HR3:=hid (HR.out.ext hb3)
 have HB3:=hid (HB.out.ext hb3)
 have HV3:=hid (HV.out.ext hb3)
 have HBW3:=hid (HB2.out.trans (hb3.mono HB2.out.size))
 have HZ3:Hid (W1.heap.size<w3.heap.size):=hid HR3.out.lt
 clear k0 k1 k2 k3 c0 c1 C1 C2 HX HR HB HV hb3
 have HS:Hid (∀W,Below w3.heap.size w3 W→Below w3.heap.size w3 W∧W.cell? ⟨b,0,none⟩=some (.int .u16 x)∧W.cell? ⟨b,1,none⟩=some (.int .u32 y)∧W.cell? ⟨b,2,none⟩=some (.int .u32 0)∧W.cell? ⟨b,3,none⟩=some (.int .u16 s1)∧W.cell? ⟨b,4,none⟩=some (.int .u32 s2)):=hid λW h=>⟨h,(HB3.out.ext h).cell (j:=0) rfl,(HB3.out.ext h).cell (j:=1) rfl,(HB3.out.ext h).cell (j:=2) rfl,(HB3.out.ext h).cell (j:=3) rfl,(HB3.out.ext h).cell (j:=4) rfl⟩
 have CN:Hid (∀W,Below w3.heap.size w3 W→Calls Tryz.prog 194 #[.agg #[.int .u32 0,.int .u16 s1,.int .u32 s2],.agg #[.int .u16 x,.int .u32 y]] W λe w'=>e=.returned (.tuple #[.agg #[.int .u32 1,.int .u16 x,.int .u32 y],.int .i64 0])∧Below w3.heap.size w3 w'):=hid λW h=>(Eo s1 s2 x y W).mono λe w' ⟨h1,h2⟩=>⟨h1,h.trans (h2.mono h.size)⟩
 have H0:Below w3.heap.size w3 w3.drew:=(Below.refl _ _).drew
 go_upto_region 5 with fail
 go_cut [8,9] (λu8 u9 wx=>u9=.int .i64 0∧∃g,u8=.pointer (some ⟨g,0,none⟩)∧Hid (Below w3.heap.size w3 wx)∧Hid (w3.heap.size≤g∧Zc wx g 124 [.int .u32 1,.int .u16 x,.int .u32 y]))
 case first =>
  refine rhd HS.out H0 λhHeld=>?_
  refine tkv 0 (.pointer (some ⟨b,0,none⟩)) rfl ?_
  refine tkv 1 (.pointer (some ⟨b,0,none⟩)) rfl ?_
  refine tkv 2 (.pointer (some ⟨b,2,none⟩)) rfl ?_
  refine tkv 3 (.agg #[.int .u32 0,.int .u16 s1,.int .u32 s2]) rfl ?_
  refine tkv 4 (.pointer (some ⟨b,0,none⟩)) rfl ?_
  refine tkv 5 (.pointer (some ⟨b,0,none⟩)) rfl ?_
  refine tkv 6 (.pointer (some ⟨b,0,none⟩)) rfl ?_
  refine tkv 7 (.agg #[.int .u16 x,.int .u32 y]) rfl ?_
  refine rd (rs:=[8,12]) ?_
  refine AllReadyH.cons (o:=_) rfl (λK hK=>?_) (AllReadyH.cons (o:=_) rfl (λK hK=>?_) AllReadyH.nil)
  ·go_simp
   refine (CN.out _ H0).mono ?_
   rintro e w6 ⟨rfl,hb6⟩
   refine hK.out _ _ (HS.out _ (hb6)) (λhHeld=>?_)
   clear hK K
   try simp only [lay]
   refine tkv 9 (.tuple #[.agg #[.int .u32 1,.int .u16 x,.int .u32 y],.int .i64 0]) rfl ?_
   refine tkv 10 (.agg #[.int .u32 1,.int .u16 x,.int .u32 y]) rfl ?_
   refine tkv 11 (.int .i64 0) rfl ?_
   refine rd1 12 rfl λK hK=>?_
   go_simp
   have hb7:Below w3.heap.size w3 (w6.alloc (.cells #[.int .u32 0,.int .u16 0,.int .u32 0] 124)):=Zd hb6 _
   refine hK.out _ _ (HS.out _ (hb7)) (λhHeld=>?_)
   clear hK K
   try simp only [lay]
   refine rd1 13 rfl λK hK=>?_
   go_simp
   have hb8:Below w3.heap.size w3 (w6.alloc (.cells #[.int .u32 1,.int .u16 x,.int .u32 y] 124)):=Zd hb6 _
   refine hK.out _ _ (HS.out _ (hb8)) (λhHeld=>?_)
   clear hK K
   try simp only [lay]
   refine rd1 14 rfl λK hK=>?_
   go_simp
   refine hK.out _ _ (HS.out _ (hb8)) (λhHeld=>?_)
   clear hK K
   try simp only [lay]
   refine dn ?_
   go_wp2_with fail
   go_meet
   exact ⟨rfl,_,rfl,hid hb8,hid ⟨hb6.size,Zc.made w6 _ [.int .u32 1,.int .u16 x,.int .u32 y]⟩⟩
  ·go_simp
   obtain ⟨w5,hw5⟩:∃z,(w3.alloc (.cells #[.int .u32 0,.int .u16 0,.int .u32 0] 124)).drew=z:=⟨_,rfl⟩
   have hb5:Below w3.heap.size w3 w5:=by rw [←hw5];exact (Zd (Below.refl _ _) _).drew
   have hx5:Zc w5 w3.heap.size 124 [.int .u32 0,.int .u16 0,.int .u32 0]:=by rw [←hw5];exact (Zc.made w3 _ _).ext (Below.refl _ _).drew
   try rw [hw5]
   clear hw5
   have CN5:Hid (∀W,Below w5.heap.size w5 W→Calls Tryz.prog 194 #[.agg #[.int .u32 0,.int .u16 s1,.int .u32 s2],.agg #[.int .u16 x,.int .u32 y]] W λe w'=>e=.returned (.tuple #[.agg #[.int .u32 1,.int .u16 x,.int .u32 y],.int .i64 0])∧Below w5.heap.size w5 w'):=hid λW h=>(Eo s1 s2 x y W).mono λe w' ⟨h1,h2⟩=>⟨h1,h.trans (h2.mono h.size)⟩
   refine hK.out _ _ (HS.out _ (hb5)) (λhHeld=>?_)
   clear hK K
   try simp only [lay]
   refine rd1 8 rfl λK hK=>?_
   go_simp
   refine (CN5.out _ (Below.refl _ _)).mono ?_
   rintro e w6 ⟨rfl,hb56⟩
   have hb6:=hb5.trans (hb56.mono hb5.size)
   refine hK.out _ _ (HS.out _ (hb6)) (λhHeld=>?_)
   clear hK K
   try simp only [lay]
   refine tkv 9 (.tuple #[.agg #[.int .u32 1,.int .u16 x,.int .u32 y],.int .i64 0]) rfl ?_
   refine tkv 10 (.agg #[.int .u32 1,.int .u16 x,.int .u32 y]) rfl ?_
   refine tkv 11 (.int .i64 0) rfl ?_
   refine rd1 13 rfl λK hK=>?_
   have hx6:=hx5.ext (show Below w5.heap.size w5 w6 from hb56)
   have d0:=hx6.cell (j:=0) rfl
   have d1:=hx6.cell (j:=1) rfl
   have d2:=hx6.cell (j:=2) rfl
   have df:=hx6.frozen
   go_simp
   obtain ⟨w7,hw7⟩:∃z,(((w6.setCell ⟨w3.heap.size,0,none⟩ (.int .u32 1)).setCell ⟨w3.heap.size,1,none⟩ (.int .u16 x)).setCell ⟨w3.heap.size,2,none⟩ (.int .u32 y))=z:=⟨_,rfl⟩
   have hx7:Zc w7 w3.heap.size 124 [.int .u32 1,.int .u16 x,.int .u32 y]:=by rw [←hw7];exact ((hx6.set (j:=0) (v:=.int .u32 1)).set (j:=1) (v:=.int .u16 x)).set (j:=2) (v:=.int .u32 y)
   have hb7:Below w3.heap.size w3 w7:=by rw [←hw7];exact Zi (Zi (Zi hb6 (Nat.le_refl _)) (Nat.le_refl _)) (Nat.le_refl _)
   rw [hw7]
   clear hw7 d0 d1 d2 df
   refine hK.out _ _ (HS.out _ (hb7)) (λhHeld=>?_)
   clear hK K
   try simp only [lay]
   refine rd1 14 rfl λK hK=>?_
   go_simp
   refine hK.out _ _ (HS.out _ (hb7)) (λhHeld=>?_)
   clear hK K
   try simp only [lay]
   refine dn ?_
   go_wp2_with fail
   go_meet
   exact ⟨rfl,_,rfl,hid hb7,hid ⟨Nat.le_refl _,hx7⟩⟩
 case rest =>
  obtain ⟨rfl,g,rfl,HBW4,HG4⟩:=hcut
  rename World=>w4
  have HB4:=hid (HB3.out.ext HBW4.out)
  have HX4:=hid (HX3.out.ext HBW4.out)
  have HR4:=hid (HR3.out.ext HBW4.out)
  have HV4:=hid (HV3.out.ext HBW4.out)
  have HW4:=hid (HBW3.out.trans (HBW4.out.mono HBW3.out.size))
  have HGN:Hid (g≠b∧W1.heap.size≠b∧w.heap.size≠b∧g≠W1.heap.size):=hid (by have h1:=HZ.out;have h2:=HG4.out.1;have h3:=HZ3.out;omega)
  have HS2:Hid (∀W,Mut (λk=>k=b) w4 W→W.cell? ⟨g,0,none⟩=some (.int .u32 1)∧W.cell? ⟨g,1,none⟩=some (.int .u16 x)∧W.cell? ⟨g,2,none⟩=some (.int .u32 y)):=hid λW h=>by
   have hg:=HG4.out.2.mut h HGN.out.1
   exact ⟨hg.cell (j:=0) rfl,hg.cell (j:=1) rfl,hg.cell (j:=2) rfl⟩
  clear HB3 HX3 HR3 HV3 HBW3 HBW4 HS CN H0
  go_upto_region 8 with fail
  have c2:=HB4.out.cell (j:=2) rfl
  have c3:=HB4.out.cell (j:=3) rfl
  have c4:=HB4.out.cell (j:=4) rfl
  have fz:=HB4.out.frozen
  refine rhd HS2.out (Mut.of_below (Below.refl _ _).drew) λhHeld=>?_
  refine tkv 0 (.pointer (some ⟨b,0,none⟩)) rfl ?_
  refine tkv 1 (.pointer (some ⟨b,0,none⟩)) rfl ?_
  refine tkv 2 (.agg #[.int .u32 1,.int .u16 x,.int .u32 y]) rfl ?_
  refine tkv 3 (.agg #[.int .u32 1,.int .u16 x,.int .u32 y]) rfl ?_
  refine tkv 4 (.pointer (some ⟨b,0,none⟩)) rfl ?_
  refine tkv 5 (.pointer (some ⟨b,2,none⟩)) rfl ?_
  refine rd1 6 rfl λK hK=>?_
  go_simp
  obtain ⟨w5,hw5⟩:∃z,(((w4.setCell ⟨b,2,none⟩ (.int .u32 1)).setCell ⟨b,3,none⟩ (.int .u16 x)).setCell ⟨b,4,none⟩ (.int .u32 y)).drew=z:=⟨_,rfl⟩
  have hx5:Zc w5 b 255 (prC x y 1 x y ph ld osl b0 b1 b2 val m0 m1):=by rw [←hw5];exact (((HB4.out.set (j:=2) (v:=.int .u32 1)).set (j:=3) (v:=.int .u16 x)).set (j:=4) (v:=.int .u32 y)).ext (Below.refl _ _).drew
  have hm5:Mut (λk=>k=b) w4 w5:=by rw [←hw5];exact (Zf (G:=λk=>k=b) (Zf (G:=λk=>k=b) (Zf (G:=λk=>k=b) (Mut.refl _ _) b _ _ rfl) b _ _ rfl) b _ _ rfl).trans (Mut.of_below (Below.refl _ _).drew)
  rw [hw5]
  clear hw5 c2 c3 c4 fz
  refine hK.out _ _ (HS2.out _ (hm5)) (λhHeld=>?_)
  clear hK K
  try simp only [lay]
  refine tkv 7 (.pointer (some ⟨b,0,none⟩)) rfl ?_
  refine tkv 8 (.pointer (some ⟨b,8,none⟩)) rfl ?_
  refine rd1 9 rfl λK hK=>?_
  have c8:=hx5.cell (j:=8) rfl
  have c9:=hx5.cell (j:=9) rfl
  have c10:=hx5.cell (j:=10) rfl
  have fz:=hx5.frozen
  go_simp
  obtain ⟨w6,hw6⟩:∃z,(((w5.setCell ⟨b,8,none⟩ (.int .u32 1)).setCell ⟨b,9,none⟩ (.int .u16 x)).setCell ⟨b,10,none⟩ (.int .u32 y))=z:=⟨_,rfl⟩
  have hx6:Zc w6 b 255 (prC x y 1 x y ph ld osl 1 x y val m0 m1):=by rw [←hw6];exact ((hx5.set (j:=8) (v:=.int .u32 1)).set (j:=9) (v:=.int .u16 x)).set (j:=10) (v:=.int .u32 y)
  have hm6:Mut (λk=>k=b) w4 w6:=by rw [←hw6];exact Zf (G:=λk=>k=b) (Zf (G:=λk=>k=b) (Zf (G:=λk=>k=b) hm5 b _ _ rfl) b _ _ rfl) b _ _ rfl
  rw [hw6]
  clear hw6 c8 c9 c10 fz
  refine hK.out _ _ (HS2.out _ (hm6)) (λhHeld=>?_)
  clear hK K
  try simp only [lay]
  refine dn ?_
  have HB6:=hid hx6
  have HM6:=hid hm6
  have HX6:=hid (HX4.out.mut hm6 HGN.out.2.2.1)
  have HR6:=hid (HR4.out.mut hm6 HGN.out.2.1)
  clear hx5 hm5 hx6 hm6
  have c5:=HB6.out.cell (j:=5) rfl
  have c7:=HB6.out.cell (j:=7) rfl
  have c11:=HB6.out.cell (j:=11) rfl
  have fz:=HB6.out.frozen
  go_upto_region 10 with fail
  obtain ⟨w7,hw7⟩:∃z,(((w6.setCell ⟨b,5,none⟩ (.int .i64 1)).setCell ⟨b,7,none⟩ (.int .u64 sl)).setCell ⟨b,11,none⟩ (.pointer none))=z:=⟨_,rfl⟩
  have hx7:Zc w7 b 255 (prC x y 1 x y 1 ld sl 1 x y (.pointer none) m0 m1):=by rw [←hw7];exact ((HB6.out.set (j:=5) (v:=.int .i64 1)).set (j:=7) (v:=.int .u64 sl)).set (j:=11) (v:=.pointer none)
  have hm67:Mut (λk=>k=b) w6 w7:=by rw [←hw7];exact Zf (G:=λk=>k=b) (Zf (G:=λk=>k=b) (Zf (G:=λk=>k=b) (Mut.refl _ _) b _ _ rfl) b _ _ rfl) b _ _ rfl
  have hm7:=HM6.out.trans hm67
  rw [hw7]
  have HB7:=hid hx7
  have HM7:=hid hm7
  have hx47:=HX4.out.mut hm7 HGN.out.2.2.1
  have q3:=hx47.cell (j:=3) rfl
  have HR7:=hid (HR4.out.mut hm7 HGN.out.2.1)
  have hds:Zb w7 ad [(x,y)]:=by
   have h:=HV4.out.ds
   rw [HD.out] at h
   rcases h with h | ⟨o,off,rfl,hlt,hc⟩
   ·cases h
   ·refine .inr ⟨o,off,rfl,Nat.lt_of_lt_of_le hlt hm7.size,λi hi=>?_⟩
    have hne:o≠b:=HNV.out o off rfl
    obtain ⟨h1,h2⟩:=hc i hi
    exact ⟨(hm7.cell (p:=⟨o,off+i * 2,none⟩) hlt hne).trans h1,(hm7.cell (p:=⟨o,off+i * 2+1,none⟩) hlt hne).trans h2⟩
  have CC:=hid (Qe (c:=cd) (n:=1) (hid rfl) (by decide) hds)
  clear c5 c7 c11 fz hw7 hx7 hm67 hm7 hx47 hds HB6 HM6 HX6 HR6 HX4 HR4
  go_wp2_with fail
  refine CC.out.mono ?_
  rintro e w8 ⟨v8,rfl,hown,hb8⟩
  obtain ⟨la,lc,rfl,hrow,hge⟩:=hown.row
  have HB8:=hid (HB7.out.ext hb8)
  have HM8:Hid (Mut (λk=>k=b∨w.heap.size≤k) w w8):=hid ((((Mut.of_below HW4.out).mono λk _ e=>.inr e).trans (HM7.out.mono λk _ e=>.inl e)).trans ((Mut.of_below hb8).mono λk _ e=>.inr (Nat.le_trans (Nat.le_trans HW4.out.size HM7.out.size) e)))
  have HR8:=hid (HR7.out.ext hb8)
  have HG8:=hid ((HG4.out.2.mut HM7.out HGN.out.1).ext hb8)
  have HLR:Hid (Zb w8 la [(x,y)]∧∀g off,la=some ⟨g,off,none⟩→w.heap.size≤g∧g≠b∧g≠W1.heap.size):=hid ⟨hrow,λg off e=>by have h1:w7.heap.size≤g:=hge g off e;have h2:=HM7.out.size;have h3:=HW4.out.size;have h4:=HZ.out;have h5:=HR7.out.lt;omega⟩
  have c6:=HB8.out.cell (j:=6) rfl
  have c12:=HB8.out.cell (j:=12) rfl
  have c13:=HB8.out.cell (j:=13) rfl
  have fz:=HB8.out.frozen
  clear hown hrow hge hb8 HB7 HM7 HR7 CC q3
  go_upto_region 12 with fail
  obtain ⟨w9,hw9⟩:∃z,(((w8.setCell ⟨b,6,none⟩ (.slice la 1 lc)).setCell ⟨b,12,none⟩ (.int .u64 0)).setCell ⟨b,13,none⟩ (.int .u64 0))=z:=⟨_,rfl⟩
  have hx9:Zc w9 b 255 (prC x y 1 x y 1 (.slice la 1 lc) sl 1 x y (.pointer none) 0 0):=by rw [←hw9];exact ((HB8.out.set (j:=6) (v:=.slice la 1 lc)).set (j:=12) (v:=.int .u64 0)).set (j:=13) (v:=.int .u64 0)
  have hm89:Mut (λk=>k=b) w8 w9:=by rw [←hw9];exact Zf (G:=λk=>k=b) (Zf (G:=λk=>k=b) (Zf (G:=λk=>k=b) (Mut.refl _ _) b _ _ rfl) b _ _ rfl) b _ _ rfl
  rw [hw9]
  have HX9:=hid hx9
  have HM9:=hid (HM8.out.trans (hm89.mono λk _ e=>.inl e))
  have HG9:=hid (HG8.out.mut hm89 HGN.out.1)
  have HR9:=hid (HR8.out.mut hm89 HGN.out.2.1)
  have HL9:Hid (Zb w9 la [(x,y)]):=hid (by
   rcases HLR.out.1 with h | ⟨o,off,rfl,hlt,hc⟩
   ·cases h
   ·refine .inr ⟨o,off,rfl,Nat.lt_of_lt_of_le hlt hm89.size,λi hi=>?_⟩
    have hne:o≠b:=(HLR.out.2 o off rfl).2.1
    obtain ⟨h1,h2⟩:=hc i hi
    exact ⟨(hm89.cell (p:=⟨o,off+i * 2,none⟩) hlt hne).trans h1,(hm89.cell (p:=⟨o,off+i * 2+1,none⟩) hlt hne).trans h2⟩)
  have d0:=HG9.out.cell (j:=0) rfl
  have d1:=HG9.out.cell (j:=1) rfl
  have d2:=HG9.out.cell (j:=2) rfl
  have r0:=HR9.out.cell (j:=0) rfl
  have r1:=HR9.out.cell (j:=1) rfl
  have r2:=HR9.out.cell (j:=2) rfl
  have rf:=HR9.out.frozen
  clear c6 c12 c13 fz hw9 hx9 hm89 HB8 HM8 HR8 HG8
  go_wp2_with fail
  have hxr:=((HR9.out.set (j:=0) (v:=.int .u32 1)).set (j:=1) (v:=.int .u16 x)).set (j:=2) (v:=.int .u32 y)
  have hmr:Mut (λk=>k=W1.heap.size) w9 (((w9.setCell ⟨W1.heap.size,0,none⟩ (.int .u32 1)).setCell ⟨W1.heap.size,1,none⟩ (.int .u16 x)).setCell ⟨W1.heap.size,2,none⟩ (.int .u32 y)):=Zf (G:=λk=>k=W1.heap.size) (Zf (G:=λk=>k=W1.heap.size) (Zf (G:=λk=>k=W1.heap.size) (Mut.refl _ _) W1.heap.size _ _ rfl) W1.heap.size _ _ rfl) W1.heap.size _ _ rfl
  refine bodyPost_ret (v:=.tuple #[.agg ([.int .u32 1,.int .u16 x,.int .u32 y]:List Value).toArray,.int .i64 0]) (ZF (p:=6) (q:=7) (ty:=124) rfl _ _ W1.heap.size [.int .u32 1,.int .u16 x,.int .u32 y] _ rfl (λj v hj=>by rw [Nat.zero_add];exact hxr.cell hj) Tryz.underlying124 rfl (zaW _ _ _)) rfl ?_
  refine ⟨la,lc,rfl,HM9.out.trans (hmr.mono λk _ e=>.inr (by have:=HZ.out;omega)),HX9.out.mut hmr (λe=>HGN.out.2.1 e.symm),?_,λg off e=>(HLR.out.2 g off e).1⟩
  rcases HL9.out with h | ⟨o,off,rfl,hlt,hc⟩
  ·cases h
  ·refine .inr ⟨o,off,rfl,Nat.lt_of_lt_of_le hlt hmr.size,λi hi=>?_⟩
   have hne:o≠W1.heap.size:=(HLR.out.2 o off rfl).2.2
   obtain ⟨h1,h2⟩:=hc i hi
   exact ⟨(hmr.cell (p:=⟨o,off+i * 2,none⟩) hlt hne).trans h1,(hmr.cell (p:=⟨o,off+i * 2+1,none⟩) hlt hne).trans h2⟩
end
structure zaF (w:World) (N:Nat→Prop) (a:Option Addr) (bs:List Nat):Prop where
 row:Zg w a bs
 out:∀b off,a=some ⟨b,off,none⟩→¬ N b∧b<w.heap.size
theorem zaF.mut {w w':World} {N G:Nat→Prop} {a:Option Addr} {bs:List Nat} (h:zaF w N a bs) (hm:Mut G w w') (hG:∀k,G k→N k∨w.heap.size≤k):zaF w' N a bs:=by
 refine ⟨h.row.mutT hm λb off e hne hg=>?_,λb off e=>⟨(h.out b off e).1,Nat.lt_of_lt_of_le (h.out b off e).2 hm.size⟩⟩
 obtain ⟨h1,h2⟩:=h.out b off e
 rcases hG b hg with h3 | h3
 ·exact h1 h3
 ·omega
theorem zaF.ext {w w':World} {N:Nat→Prop} {a:Option Addr} {bs:List Nat} (h:zaF w N a bs) (hb:Below w.heap.size w w'):zaF w' N a bs:=h.mut (Mut.of_below hb) λk e=>.inr e
theorem zaF.of_own {w:World} {N:Nat→Prop} {base:Nat} {a:Option Addr} {n c:Nat} {bs:List Nat} (h:Ys w base (.slice a n c) bs) (hN:∀k,N k→k<base):zaF w N a bs:=by
 obtain ⟨a',c',e,hr,hg⟩:=h.row
 injection e with e1 _ _
 subst e1
 refine ⟨hr,λb off e=>?_⟩
 have h1:=hg b off e
 have h2:=(World.ownsRow.lt h b (by rw [e];rfl)).2
 exact ⟨λhn=>by have:=hN b hn;omega,h2⟩
structure CR (w:World) (N:Nat→Prop) (A:MA) (C:Xu):Prop where
 row:zaF w N A.da C.data
 len:C.data.length≤200
 lt:∀b∈C.data,b<256
 v:C.v=ZS
 cap:C.data.length≤A.dc
theorem CR.mut {w w':World} {N G:Nat→Prop} {A:MA} {C:Xu} (h:CR w N A C) (hm:Mut G w w') (hG:∀k,G k→N k∨w.heap.size≤k):CR w' N A C:=⟨h.row.mut hm hG,h.len,h.lt,h.v,h.cap⟩
theorem CR.ext {w w':World} {N:Nat→Prop} {A:MA} {C:Xu} (h:CR w N A C) (hb:Below w.heap.size w w'):CR w' N A C:=h.mut (Mut.of_below hb) λk e=>.inr e
theorem CR.more {w:World} {N N':Nat→Prop} {A:MA} {C:Xu} (h:CR w N A C) (hN:∀k,N' k→N k∨w.heap.size≤k):CR w N' A C:=⟨⟨h.row.row,λb off e=>⟨λhn=>by
 obtain ⟨h1,h2⟩:=h.row.out b off e
 rcases hN b hn with h3 | h3
 ·exact h1 h3
 ·omega,(h.row.out b off e).2⟩⟩,h.len,h.lt,h.v,h.cap⟩
theorem zeroV_r (w:World) (am al ad:Option Addr):Zt w am al ad ZS:=⟨.inl rfl,.inl rfl,.inl rfl,by decide,by decide,by decide,λl h=>by cases h⟩
theorem CR.r {w:World} {N:Nat→Prop} {A:MA} {C:Xu} (h:CR w N A C):Eb w A.da A.am A.al A.ad C:=⟨h.row.row,by have:=h.len;omega,h.lt,by rw [h.v];exact zeroV_r _ _ _ _⟩
theorem Ey {w:World} {N:Nat→Prop} {A:MA} {C:Xu} (h:CR w N A C) (hN:∀k,N k→k<w.heap.size) :
  Calls Tryz.prog 196 #[.agg (Yd A C)] w λe w'=>∃A':MA,e=.returned (.agg (Yd A' C))∧CR w' N A' C∧Below w.heap.size w w':=by
 have hv:=h.v
 obtain ⟨kd,fr,nu,vw,da,V⟩:=C
 simp only at hv
 subst hv
 refine (zbs (A:=⟨kd,fr,nu,vw,da,ZS⟩) (i:=0) (da:=A.da) (am:=A.am) (al:=A.al) (ad:=A.ad) (dc:=A.dc) (cm:=A.cm) (cl:=A.cl) (cd:=A.cd) (w:=w) rfl h.row.row (by have:=h.len;simp only at this ⊢;omega) h.r.v (show ZS.ms.length≤_ by decide) (show ZS.ds.length≤_ by decide) (show ZS.ls.length≤_ by decide) (λl hl=>by cases hl)).mono ?_
 rintro e w' ⟨qd,a4,a5,a6,kd',k4,k5,k6,rfl,ho,-,hb⟩
 exact ⟨{ A with da:=qd,dc:=kd',am:=a4,cm:=k4,al:=a5,cl:=k5,ad:=a6,cd:=k6 },rfl,⟨zaF.of_own ho hN,h.len,h.lt,rfl,ho.cap _ _ _ rfl⟩,hb⟩
theorem Fy {w:World} {N:Nat→Prop} {A:MA} {C:Xu} (h:CR w N A C) (hfr:okP C.fr) (hc:YE C=0) :
  Calls Tryz.prog 202 #[.agg (Yd A C)] w λe w'=>e=.returned (.int .i64 0)∧Below w.heap.size w w':=by
 have:=zay (A:=C) (da:=A.da) (am:=A.am) (al:=A.al) (ad:=A.ad) (dc:=A.dc) (cm:=A.cm) (cl:=A.cl) (cd:=A.cd) h.r (by rw [h.v];decide) (by rw [h.v];exact λp hp=>by cases hp) hfr
 rw [hc] at this
 exact this
theorem infoCV (A:MA) (C:Xu):(Tryz.prog.info? 126).map (·.size)=some (Yd A C).toList.length:=Gv
theorem YF {w:World} {b:Nat} {t:TypeId} {o0 o1 o2 o3 o4 o5 o6 o7 o8 o9 n0 n1 n2 n3 n4 n5 n6 n7 n8 n9:Value} (h:Zc w b t [o0,o1,o2,o3,o4,o5,o6,o7,o8,o9]):Zc ((((((((((w.setCell ⟨b,0,none⟩ n0).setCell ⟨b,1,none⟩ n1).setCell ⟨b,2,none⟩ n2).setCell ⟨b,3,none⟩ n3).setCell ⟨b,4,none⟩ n4).setCell ⟨b,5,none⟩ n5).setCell ⟨b,6,none⟩ n6).setCell ⟨b,7,none⟩ n7).setCell ⟨b,8,none⟩ n8).setCell ⟨b,9,none⟩ n9) b t [n0,n1,n2,n3,n4,n5,n6,n7,n8,n9]:=((((((((((h.set (j:=0) (v:=n0)).set (j:=1) (v:=n1)).set (j:=2) (v:=n2)).set (j:=3) (v:=n3)).set (j:=4) (v:=n4)).set (j:=5) (v:=n5)).set (j:=6) (v:=n6)).set (j:=7) (v:=n7)).set (j:=8) (v:=n8)).set (j:=9) (v:=n9))
theorem YG (w:World) (b:Nat) (n0 n1 n2 n3 n4 n5 n6 n7 n8 n9:Value):Mut (λk=>k=b) w ((((((((((w.setCell ⟨b,0,none⟩ n0).setCell ⟨b,1,none⟩ n1).setCell ⟨b,2,none⟩ n2).setCell ⟨b,3,none⟩ n3).setCell ⟨b,4,none⟩ n4).setCell ⟨b,5,none⟩ n5).setCell ⟨b,6,none⟩ n6).setCell ⟨b,7,none⟩ n7).setCell ⟨b,8,none⟩ n8).setCell ⟨b,9,none⟩ n9):=(Zf (G:=λk=>k=b) (Zf (G:=λk=>k=b) (Zf (G:=λk=>k=b) (Zf (G:=λk=>k=b) (Zf (G:=λk=>k=b) (Zf (G:=λk=>k=b) (Zf (G:=λk=>k=b) (Zf (G:=λk=>k=b) (Zf (G:=λk=>k=b) (Zf (G:=λk=>k=b) (Mut.refl _ _) b _ _ rfl) b _ _ rfl) b _ _ rfl) b _ _ rfl) b _ _ rfl) b _ _ rfl) b _ _ rfl) b _ _ rfl) b _ _ rfl) b _ _ rfl)
abbrev valC (b0 b1 b2:Int) (A:MA) (C:Xu):List Value:=[.int .u32 b0,.int .u16 b1,.int .u32 b2] ++ (Yd A C).toList
section
variable {w:World} {b:Nat} {x y s0 s1 s2 ph b0 b1 b2 sl m0 m1:Int} {N:Nat→Prop} {A:MA} {C:Xu} {ld:Value}
set_option maxRecDepth 100000 in
set_option maxHeartbeats 3200000 in
theorem n1Value {g:Nat} {B:MA} {v0 v1 v2:Int} (hB:Zc w b 255 (prC x y s0 s1 s2 ph ld sl b0 b1 b2 (.pointer (some ⟨g,0,none⟩)) m0 m1)) (hV:Zc w g 285 (valC v0 v1 v2 B C)) (hC:CR w N B C) (hN:∀k,N k→k<w.heap.size) :
  Calls Tryz.prog 103 #[.pointer (some ⟨b,0,none⟩)] w λe w'=>∃B':MA,e=.returned (.tuple #[.agg (Yd B' C),.bool true])∧CR w' N B' C∧Below w.heap.size w w':=by
 obtain ⟨W1,hW1⟩:∃W1,w.alloc (.cells cmd0.toArray 126)=W1:=⟨_,rfl⟩
 have hb1:Below w.heap.size w W1:=by rw [←hW1];exact bra
 have xR:Zc W1 w.heap.size 126 cmd0:=by rw [←hW1];exact Zc.made _ _ _
 have c11:=(hB.ext hb1).cell (j:=11) rfl
 have hVx:=hV.ext hb1
 have v3:=hVx.cell (j:=3) rfl
 have v4:=hVx.cell (j:=4) rfl
 have v5:=hVx.cell (j:=5) rfl
 have v6:=hVx.cell (j:=6) rfl
 have v7:=hVx.cell (j:=7) rfl
 have v8:=hVx.cell (j:=8) rfl
 have v9:=hVx.cell (j:=9) rfl
 have v10:=hVx.cell (j:=10) rfl
 have v11:=hVx.cell (j:=11) rfl
 have v12:=hVx.cell (j:=12) rfl
 have hlt1:=xR.lt
 have CC:=hid (Ey (N:=λk=>N k∨k=w.heap.size) ((hC.more (λk hk=>hk.imp id (λe=>by omega))).ext hb1) (λk hk=>by rcases hk with hk | hk;exact Nat.lt_of_lt_of_le (hN k hk) hb1.size;omega))
 have HB1:=hid hb1
 have HX:=hid xR
 clear hB hV hC hN hb1 xR hVx hlt1
 go_enter Tryz.func103,Tryz.ntmps103
 go_upto_region 1 with fail
 try rw [hW1]
 clear hW1
 go_wp2_with fail
 refine CC.out.mono ?_
 rintro e w3 ⟨B',rfl,hc3,hb3⟩
 have HX3:=hid (HX.out.ext hb3)
 have HC3:=hid hc3
 have HB3:=hid (HB1.out.trans (hb3.mono HB1.out.size))
 clear v3 v4 v5 v6 v7 v8 v9 v10 v11 v12 c11 CC HX hc3 hb3
 have r0:=HX3.out.cell (j:=0) rfl
 have r1:=HX3.out.cell (j:=1) rfl
 have r2:=HX3.out.cell (j:=2) rfl
 have r3:=HX3.out.cell (j:=3) rfl
 have r4:=HX3.out.cell (j:=4) rfl
 have r5:=HX3.out.cell (j:=5) rfl
 have r6:=HX3.out.cell (j:=6) rfl
 have r7:=HX3.out.cell (j:=7) rfl
 have r8:=HX3.out.cell (j:=8) rfl
 have r9:=HX3.out.cell (j:=9) rfl
 have rf:=HX3.out.frozen
 rw [show Yd B' C=#[.int .i64 C.kind,.int .u16 C.fr.1,.int .u32 C.fr.2,.int .u64 C.num,.int .u64 C.vw,.slice B'.da C.data.length B'.dc,.int .u64 C.v.id,.slice B'.am C.v.ms.length B'.cm,.slice B'.al C.v.ls.length B'.cl,.slice B'.ad C.v.ds.length B'.cd] from rfl]
 go_wp2_with fail
 have hxr:=YF (n0:=.int .i64 C.kind) (n1:=.int .u16 C.fr.1) (n2:=.int .u32 C.fr.2) (n3:=.int .u64 C.num) (n4:=.int .u64 C.vw) (n5:=.slice B'.da C.data.length B'.dc) (n6:=.int .u64 C.v.id) (n7:=.slice B'.am C.v.ms.length B'.cm) (n8:=.slice B'.al C.v.ls.length B'.cl) (n9:=.slice B'.ad C.v.ds.length B'.cd) HX3.out
 have hmr:=YG w3 w.heap.size (.int .i64 C.kind) (.int .u16 C.fr.1) (.int .u32 C.fr.2) (.int .u64 C.num) (.int .u64 C.vw) (.slice B'.da C.data.length B'.dc) (.int .u64 C.v.id) (.slice B'.am C.v.ms.length B'.cm) (.slice B'.al C.v.ls.length B'.cl) (.slice B'.ad C.v.ds.length B'.cd)
 exact bodyPost_ret (v:=.tuple #[.agg (Yd B' C).toList.toArray,.bool true]) (ZF (p:=2) (q:=3) (ty:=126) rfl _ _ w.heap.size (Yd B' C).toList _ rfl (λj v hj=>by rw [Nat.zero_add];exact hxr.cell hj) Tryz.underlying126 rfl (infoCV _ _)) rfl ⟨B',rfl,(HC3.out.mut hmr (λk e=>.inl (.inr e))).more (λk e=>.inl (.inl e)),Zz HB3.out hmr (λk e=>by omega)⟩
end
set_option maxRecDepth 100000 in
set_option maxHeartbeats 3200000 in
theorem zdw {w:World} {b:Nat} {x y s0 s1 s2 b0 b1 b2 sl m0 m1:Int} {N:Nat→Prop} {A:MA} {C:Xu} {ld:Value} (hB:Zc w b 255 (prC x y s0 s1 s2 2 ld sl b0 b1 b2 (.pointer none) m0 m1)) (hC:CR w N A C) (hfr:okP C.fr) (hc:YE C=0) (hN:∀k,N k→k<w.heap.size) (hNb:N b) :
  Calls Tryz.prog 105 #[.pointer (some ⟨b,0,none⟩),.agg (Yd A C)] w λe w'=>∃(g:Nat) (A1 A2:MA),e=.returned (.tuple #[.agg (Yd A2 C),.int .i64 0])∧Mut (λk=>k=b∨w.heap.size≤k) w w'∧Zc w' b 255 (prC x y s0 s1 s2 3 ld sl b0 b1 b2 (.pointer (some ⟨g,0,none⟩)) 0 0)∧w.heap.size≤g∧Zc w' g 285 (valC b0 b1 b2 A1 C)∧CR w' N A1 C∧CR w' N A2 C:=by
 obtain ⟨W1,hW1⟩:∃W1,w.alloc (.cells (Yd A C) 126)=W1:=⟨_,rfl⟩
 obtain ⟨W2,hW2⟩:∃W2,W1.alloc (.cells cmd0.toArray 126)=W2:=⟨_,rfl⟩
 have hb1:Below w.heap.size w W1:=by rw [←hW1];exact bra
 have hb12:Below W1.heap.size W1 W2:=by rw [←hW2];exact bra
 have hb2:Below w.heap.size w W2:=hb1.trans (hb12.mono hb1.size)
 have hz1:W1.heap.size=w.heap.size+1:=by rw [←hW1];simp
 have xC:Zc W2 w.heap.size 126 [.int .i64 C.kind,.int .u16 C.fr.1,.int .u32 C.fr.2,.int .u64 C.num,.int .u64 C.vw,.slice A.da C.data.length A.dc,.int .u64 C.v.id,.slice A.am C.v.ms.length A.cm,.slice A.al C.v.ls.length A.cl,.slice A.ad C.v.ds.length A.cd]:=(by rw [←hW1];exact Zc.made _ _ (Yd A C).toList:Zc W1 w.heap.size 126 (Yd A C).toList).ext hb12
 have xR:Zc W2 W1.heap.size 126 cmd0:=by rw [←hW2];exact Zc.made _ _ _
 have hB2:=hB.ext hb2
 have hNE:b<w.heap.size:=hB.lt
 have CK:=hid (Fy (hC.ext hb2) hfr hc)
 have HC2:=hid (hC.ext hb2)
 have c5:=hB2.cell (j:=5) rfl
 have k0:=xC.cell (j:=0) rfl
 have k1:=xC.cell (j:=1) rfl
 have k2:=xC.cell (j:=2) rfl
 have k3:=xC.cell (j:=3) rfl
 have k4:=xC.cell (j:=4) rfl
 have k5:=xC.cell (j:=5) rfl
 have k6:=xC.cell (j:=6) rfl
 have k7:=xC.cell (j:=7) rfl
 have k8:=xC.cell (j:=8) rfl
 have k9:=xC.cell (j:=9) rfl
 have HB2:=hid hB2
 have HX2:=hid xC
 have HR2:=hid xR
 have HW2:=hid hb2
 have HNE:Hid (w.heap.size≠b∧W1.heap.size≠b∧W1.heap.size=w.heap.size+1∧w.heap.size<W2.heap.size∧W1.heap.size<W2.heap.size∧b<w.heap.size):=hid ⟨by omega,by omega,hz1,xC.lt,xR.lt,hNE⟩
 have HN:=hid hN
 have HNB:=hid hNb
 have HCW:=hid hC
 clear hB hC hfr hc hN hNb hb1 hb12 hb2 xC xR hB2 hz1 hNE
 go_enter Tryz.func105,Tryz.ntmps105
 rw [show Yd A C=#[.int .i64 C.kind,.int .u16 C.fr.1,.int .u32 C.fr.2,.int .u64 C.num,.int .u64 C.vw,.slice A.da C.data.length A.dc,.int .u64 C.v.id,.slice A.am C.v.ms.length A.cm,.slice A.al C.v.ls.length A.cl,.slice A.ad C.v.ds.length A.cd] from rfl] at hW1
 rw [show Yd A C=#[.int .i64 C.kind,.int .u16 C.fr.1,.int .u32 C.fr.2,.int .u64 C.num,.int .u64 C.vw,.slice A.da C.data.length A.dc,.int .u64 C.v.id,.slice A.am C.v.ms.length A.cm,.slice A.al C.v.ls.length A.cl,.slice A.ad C.v.ds.length A.cd] from rfl]
 go_upto_region 1 with fail
 try rw [hW2]
 clear hW1 hW2
 go_wp2_with fail
 refine CK.out.mono ?_
 rintro e w4 ⟨rfl,hb4⟩
 have HB4:=hid (HB2.out.ext hb4)
 have HX4:=hid (HX2.out.ext hb4)
 have HR4:=hid (HR2.out.ext hb4)
 have HW4:=hid (HW2.out.trans (hb4.mono HW2.out.size))
 have HZ4:=hid hb4.size
 have CC:Hid (∀W,Below w4.heap.size w4 W→Calls Tryz.prog 196 #[.agg #[.int .i64 C.kind,.int .u16 C.fr.1,.int .u32 C.fr.2,.int .u64 C.num,.int .u64 C.vw,.slice A.da C.data.length A.dc,.int .u64 C.v.id,.slice A.am C.v.ms.length A.cm,.slice A.al C.v.ls.length A.cl,.slice A.ad C.v.ds.length A.cd]] W λe w'=>∃A':MA,e=.returned (.agg (Yd A' C))∧CR w' (λk=>N k∨k=w.heap.size∨k=W1.heap.size) A' C∧Below w4.heap.size w4 w'):=hid λW hb=>(Ey (A:=A) ((HCW.out.more (N':=λk=>N k∨k=w.heap.size∨k=W1.heap.size) (λk hk=>by have:=HNE.out;rcases hk with h | h | h;exact .inl h;exact .inr (by omega);exact .inr (by omega))).ext (HW4.out.trans (hb.mono HW4.out.size))) (λk hk=>by
  have h1:=HNE.out
  have h2:=HZ4.out
  have h3:=hb.size
  have h4:=HW4.out.size
  rcases hk with h | h | h
  ·have:=HN.out k h;omega
  ·omega
  ·omega)).mono λe w' ⟨A',h1,h2,h3⟩=>⟨A',h1,h2,hb.trans (h3.mono hb.size)⟩
 have HS:Hid (∀W val,Zc W b 255 (prC x y s0 s1 s2 2 ld sl b0 b1 b2 val m0 m1)→Zc W w.heap.size 126 [.int .i64 C.kind,.int .u16 C.fr.1,.int .u32 C.fr.2,.int .u64 C.num,.int .u64 C.vw,.slice A.da C.data.length A.dc,.int .u64 C.v.id,.slice A.am C.v.ms.length A.cm,.slice A.al C.v.ls.length A.cl,.slice A.ad C.v.ds.length A.cd]→(W.cell? ⟨b,8,none⟩=some (.int .u32 b0)∧W.cell? ⟨b,9,none⟩=some (.int .u16 b1)∧W.cell? ⟨b,10,none⟩=some (.int .u32 b2)∧W.cell? ⟨w.heap.size,0,none⟩=some (.int .i64 C.kind)∧W.cell? ⟨w.heap.size,1,none⟩=some (.int .u16 C.fr.1)∧W.cell? ⟨w.heap.size,2,none⟩=some (.int .u32 C.fr.2)∧W.cell? ⟨w.heap.size,3,none⟩=some (.int .u64 C.num)∧W.cell? ⟨w.heap.size,4,none⟩=some (.int .u64 C.vw)∧W.cell? ⟨w.heap.size,5,none⟩=some (.slice A.da C.data.length A.dc)∧W.cell? ⟨w.heap.size,6,none⟩=some (.int .u64 C.v.id)∧W.cell? ⟨w.heap.size,7,none⟩=some (.slice A.am C.v.ms.length A.cm)∧W.cell? ⟨w.heap.size,8,none⟩=some (.slice A.al C.v.ls.length A.cl)∧W.cell? ⟨w.heap.size,9,none⟩=some (.slice A.ad C.v.ds.length A.cd))):=hid λW val h1 h2=>⟨h1.cell (j:=8) rfl,h1.cell (j:=9) rfl,h1.cell (j:=10) rfl,h2.cell (j:=0) rfl,h2.cell (j:=1) rfl,h2.cell (j:=2) rfl,h2.cell (j:=3) rfl,h2.cell (j:=4) rfl,h2.cell (j:=5) rfl,h2.cell (j:=6) rfl,h2.cell (j:=7) rfl,h2.cell (j:=8) rfl,h2.cell (j:=9) rfl⟩
 have c11:=HB4.out.cell (j:=11) rfl
 clear CK HB2 HX2 HR2 HW2 hb4 c5 k0 k1 k2 k3 k4 k5 k6 k7 k8 k9
 go_upto_region 6 with fail
 clear c11
 refine wp_region_held_drew (S:=λW=>W.cell? ⟨b,8,none⟩=some (.int .u32 b0)∧W.cell? ⟨b,9,none⟩=some (.int .u16 b1)∧W.cell? ⟨b,10,none⟩=some (.int .u32 b2)∧W.cell? ⟨w.heap.size,0,none⟩=some (.int .i64 C.kind)∧W.cell? ⟨w.heap.size,1,none⟩=some (.int .u16 C.fr.1)∧W.cell? ⟨w.heap.size,2,none⟩=some (.int .u32 C.fr.2)∧W.cell? ⟨w.heap.size,3,none⟩=some (.int .u64 C.num)∧W.cell? ⟨w.heap.size,4,none⟩=some (.int .u64 C.vw)∧W.cell? ⟨w.heap.size,5,none⟩=some (.slice A.da C.data.length A.dc)∧W.cell? ⟨w.heap.size,6,none⟩=some (.int .u64 C.v.id)∧W.cell? ⟨w.heap.size,7,none⟩=some (.slice A.am C.v.ms.length A.cm)∧W.cell? ⟨w.heap.size,8,none⟩=some (.slice A.al C.v.ls.length A.cl)∧W.cell? ⟨w.heap.size,9,none⟩=some (.slice A.ad C.v.ds.length A.cd)) (by kernel_rfl) (HS.out _ _ (HB4.out.ext (Below.refl _ _).drew) (HX4.out.ext (Below.refl _ _).drew)) (λhHeld=>?_)
 refine tkv 0 (.pointer (some ⟨b,0,none⟩)) rfl ?_
 refine tkv 1 (.pointer (some ⟨b,0,none⟩)) rfl ?_
 refine tkv 2 (.pointer (some ⟨b,0,none⟩)) rfl ?_
 refine tkv 3 (.pointer (some ⟨b,8,none⟩)) rfl ?_
 refine tkv 4 (.agg #[.int .u32 b0,.int .u16 b1,.int .u32 b2]) rfl ?_
 refine tkv 5 (.agg #[.int .i64 C.kind,.int .u16 C.fr.1,.int .u32 C.fr.2,.int .u64 C.num,.int .u64 C.vw,.slice A.da C.data.length A.dc,.int .u64 C.v.id,.slice A.am C.v.ms.length A.cm,.slice A.al C.v.ls.length A.cl,.slice A.ad C.v.ds.length A.cd]) rfl ?_
 refine rd1 6 rfl λK hK=>?_
 go_simp
 refine (CC.out _ (Below.refl _ _).drew).mono ?_
 rintro e w5 ⟨A1,rfl,hc5,hb5⟩
 rw [show Yd A1 C=#[.int .i64 C.kind,.int .u16 C.fr.1,.int .u32 C.fr.2,.int .u64 C.num,.int .u64 C.vw,.slice A1.da C.data.length A1.dc,.int .u64 C.v.id,.slice A1.am C.v.ms.length A1.cm,.slice A1.al C.v.ls.length A1.cl,.slice A1.ad C.v.ds.length A1.cd] from rfl]
 refine hK.out _ _ (HS.out _ _ (HB4.out.ext hb5) (HX4.out.ext hb5)) (λhHeld=>?_)
 clear hK K
 try simp only [lay]
 refine tkv 7 (.agg #[.int .u32 b0,.int .u16 b1,.int .u32 b2,.int .i64 C.kind,.int .u16 C.fr.1,.int .u32 C.fr.2,.int .u64 C.num,.int .u64 C.vw,.slice A1.da C.data.length A1.dc,.int .u64 C.v.id,.slice A1.am C.v.ms.length A1.cm,.slice A1.al C.v.ls.length A1.cl,.slice A1.ad C.v.ds.length A1.cd]) rfl ?_
 refine rd1 8 rfl λK hK=>?_
 go_simp
 obtain ⟨w6,hw6⟩:∃z,w5.alloc (.cells #[.int .u32 b0,.int .u16 b1,.int .u32 b2,.int .i64 C.kind,.int .u16 C.fr.1,.int .u32 C.fr.2,.int .u64 C.num,.int .u64 C.vw,.slice A1.da C.data.length A1.dc,.int .u64 C.v.id,.slice A1.am C.v.ms.length A1.cm,.slice A1.al C.v.ls.length A1.cl,.slice A1.ad C.v.ds.length A1.cd] 285)=z:=⟨_,rfl⟩
 have hb56:Below w5.heap.size w5 w6:=by rw [←hw6];exact bra
 have hb6:Below w4.heap.size w4 w6:=hb5.trans (hb56.mono hb5.size)
 have hv6:Zc w6 w5.heap.size 285 (valC b0 b1 b2 A1 C):=by rw [←hw6];exact Zc.made w5 _ (valC b0 b1 b2 A1 C)
 have hx6:=HB4.out.ext hb6
 rw [hw6]
 refine hK.out _ _ (HS.out _ _ hx6 (HX4.out.ext hb6)) (λhHeld=>?_)
 clear hK K
 try simp only [lay]
 refine tkv 9 (.pointer (some ⟨b,0,none⟩)) rfl ?_
 refine tkv 10 (.pointer (some ⟨b,11,none⟩)) rfl ?_
 refine rd1 11 rfl λK hK=>?_
 have c11:=hx6.cell (j:=11) rfl
 have fz:=hx6.frozen
 go_simp
 obtain ⟨w7,hw7⟩:∃z,w6.setCell ⟨b,11,none⟩ (.pointer (some ⟨w5.heap.size,0,none⟩))=z:=⟨_,rfl⟩
 have hx7:Zc w7 b 255 (prC x y s0 s1 s2 2 ld sl b0 b1 b2 (.pointer (some ⟨w5.heap.size,0,none⟩)) m0 m1):=by rw [←hw7];exact hx6.set (j:=11) (v:=.pointer (some ⟨w5.heap.size,0,none⟩))
 have hm67:Mut (λk=>k=b) w6 w7:=by rw [←hw7];exact Zf (G:=λk=>k=b) (Mut.refl _ _) b _ _ rfl
 rw [hw7]
 refine hK.out _ _ (HS.out _ _ hx7 ((HX4.out.ext hb6).mut hm67 HNE.out.1)) (λhHeld=>?_)
 clear hK K
 try simp only [lay]
 refine dn ?_
 have HB7:=hid hx7
 have HV7:=hid (hv6.mut hm67 (λe=>by have:=HNE.out;have:=HZ4.out;have:=hb5.size;omega))
 have HC7:=hid ((hc5.ext hb56).mut hm67 (λk e=>.inl (.inl (e ▸ HNB.out))))
 have HM7:Hid (Mut (λk=>k=b∨w.heap.size≤k) w w7):=hid ((((Mut.of_below HW4.out).mono λk _ e=>.inr e).trans ((Mut.of_below hb6).mono λk _ e=>.inr (Nat.le_trans HW4.out.size e))).trans (hm67.mono λk _ e=>.inl e))
 have HR7:=hid ((HR4.out.ext hb6).mut hm67 HNE.out.2.1)
 have HG:Hid (w.heap.size≤w5.heap.size∧w5.heap.size≠b∧w5.heap.size≠W1.heap.size):=hid (by have:=HNE.out;have h1:=HZ4.out;have h2:=hb5.size;have h3:=HW4.out.size;omega)
 obtain ⟨g,hg⟩:∃g,w5.heap.size=g:=⟨_,rfl⟩
 rw [hg] at HB7 HV7 HG hw7
 clear hx7 hv6 hc5 hb5 hb56 hb6 hx6 hm67 hw6 hw7 c11 fz HS CC HB4 HX4 HR4
 have c5:=HB7.out.cell (j:=5) rfl
 have c12:=HB7.out.cell (j:=12) rfl
 have c13:=HB7.out.cell (j:=13) rfl
 have fz:=HB7.out.frozen
 go_upto_region 8 with fail
 obtain ⟨w8,hw8⟩:∃z,(((w7.setCell ⟨b,5,none⟩ (.int .i64 3)).setCell ⟨b,12,none⟩ (.int .u64 0)).setCell ⟨b,13,none⟩ (.int .u64 0))=z:=⟨_,rfl⟩
 have hx8:Zc w8 b 255 (prC x y s0 s1 s2 3 ld sl b0 b1 b2 (.pointer (some ⟨g,0,none⟩)) 0 0):=by rw [←hw8];exact ((HB7.out.set (j:=5) (v:=.int .i64 3)).set (j:=12) (v:=.int .u64 0)).set (j:=13) (v:=.int .u64 0)
 have hm78:Mut (λk=>k=b) w7 w8:=by rw [←hw8];exact Zf (G:=λk=>k=b) (Zf (G:=λk=>k=b) (Zf (G:=λk=>k=b) (Mut.refl _ _) b _ _ rfl) b _ _ rfl) b _ _ rfl
 rw [hw8]
 have HB8:=hid hx8
 have HV8:=hid (HV7.out.mut hm78 HG.out.2.1)
 have HC8:=hid (HC7.out.mut hm78 (λk e=>.inl (.inl (e ▸ HNB.out))))
 have HM8:=hid (HM7.out.trans (hm78.mono λk _ e=>.inl e))
 have HR8:=hid (HR7.out.mut hm78 HNE.out.2.1)
 have CC:=hid (Ey HC8.out (λk hk=>by
  have h1:=HNE.out
  have h4:=HM8.out.size
  have h5:=HR8.out.lt
  rcases hk with h | h | h
  ·have:=HN.out k h;omega
  ·omega
  ·omega))
 have d11:=hx8.cell (j:=11) rfl
 clear hw8 hx8 hm78 c5 c12 c13 fz HB7 HV7 HC7 HM7 HR7
 have v3:=HV8.out.cell (j:=3) rfl
 have v4:=HV8.out.cell (j:=4) rfl
 have v5:=HV8.out.cell (j:=5) rfl
 have v6:=HV8.out.cell (j:=6) rfl
 have v7:=HV8.out.cell (j:=7) rfl
 have v8:=HV8.out.cell (j:=8) rfl
 have v9:=HV8.out.cell (j:=9) rfl
 have v10:=HV8.out.cell (j:=10) rfl
 have v11:=HV8.out.cell (j:=11) rfl
 have v12:=HV8.out.cell (j:=12) rfl
 go_wp2_with fail
 refine CC.out.mono ?_
 rintro e w9 ⟨A2,rfl,hc9,hb9⟩
 have HB9:=hid (HB8.out.ext hb9)
 have HV9:=hid (HV8.out.ext hb9)
 have HC9:=hid (HC8.out.ext hb9)
 have HD9:=hid hc9
 have HM9:=hid (HM8.out.trans ((Mut.of_below hb9).mono λk _ e=>.inr (Nat.le_trans HM8.out.size e)))
 have HR9:=hid (HR8.out.ext hb9)
 clear d11 v3 v4 v5 v6 v7 v8 v9 v10 v11 v12 CC hc9 hb9 HB8 HV8 HC8 HM8 HR8
 have r0:=HR9.out.cell (j:=0) rfl
 have r1:=HR9.out.cell (j:=1) rfl
 have r2:=HR9.out.cell (j:=2) rfl
 have r3:=HR9.out.cell (j:=3) rfl
 have r4:=HR9.out.cell (j:=4) rfl
 have r5:=HR9.out.cell (j:=5) rfl
 have r6:=HR9.out.cell (j:=6) rfl
 have r7:=HR9.out.cell (j:=7) rfl
 have r8:=HR9.out.cell (j:=8) rfl
 have r9:=HR9.out.cell (j:=9) rfl
 have rf:=HR9.out.frozen
 rw [show Yd A2 C=#[.int .i64 C.kind,.int .u16 C.fr.1,.int .u32 C.fr.2,.int .u64 C.num,.int .u64 C.vw,.slice A2.da C.data.length A2.dc,.int .u64 C.v.id,.slice A2.am C.v.ms.length A2.cm,.slice A2.al C.v.ls.length A2.cl,.slice A2.ad C.v.ds.length A2.cd] from rfl]
 go_wp2_with fail
 have hxr:=YF (n0:=.int .i64 C.kind) (n1:=.int .u16 C.fr.1) (n2:=.int .u32 C.fr.2) (n3:=.int .u64 C.num) (n4:=.int .u64 C.vw) (n5:=.slice A2.da C.data.length A2.dc) (n6:=.int .u64 C.v.id) (n7:=.slice A2.am C.v.ms.length A2.cm) (n8:=.slice A2.al C.v.ls.length A2.cl) (n9:=.slice A2.ad C.v.ds.length A2.cd) HR9.out
 have hmr:=YG w9 W1.heap.size (.int .i64 C.kind) (.int .u16 C.fr.1) (.int .u32 C.fr.2) (.int .u64 C.num) (.int .u64 C.vw) (.slice A2.da C.data.length A2.dc) (.int .u64 C.v.id) (.slice A2.am C.v.ms.length A2.cm) (.slice A2.al C.v.ls.length A2.cl) (.slice A2.ad C.v.ds.length A2.cd)
 exact bodyPost_ret (v:=.tuple #[.agg (Yd A2 C).toList.toArray,.int .i64 0]) (ZF (p:=4) (q:=5) (ty:=126) rfl _ _ W1.heap.size (Yd A2 C).toList _ rfl (λj v hj=>by rw [Nat.zero_add];exact hxr.cell hj) Tryz.underlying126 rfl (infoCV _ _)) rfl ⟨g,A1,A2,rfl,HM9.out.trans (hmr.mono λk _ e=>.inr (by have:=HNE.out;omega)),HB9.out.mut hmr (λe=>HNE.out.2.1 e.symm),HG.out.1,HV9.out.mut hmr HG.out.2.2,(HC9.out.mut hmr (λk e=>.inl (.inr (.inr e)))).more (λk e=>.inl (.inl e)),(HD9.out.mut hmr (λk e=>.inl (.inr (.inr e)))).more (λk e=>.inl (.inl e))⟩
theorem Mut.frozenN {F:Nat→Prop} {w w':World} (h:Mut F w w') {p:Addr} (hp:p.block<w.heap.size) (hf:¬ F p.block):w'.frozen? p=w.frozen? p:=by
 have:=h.block p.block hp hf
 unfold World.frozen?
 rw [this]
theorem Ye {q:Nat}:∀(vs:List Value) (o:Nat) (w:World),Mut (λk=>k=q) w (w.setCells q o vs)
 | [],_,_=>Mut.refl _ _
 | v :: vs,o,w=>(Xk (w:=w) (s:=q) (i:=o) (v:=v)).trans (Ye vs (o+1) (w.setCell ⟨q,o,none⟩ v))
theorem GX:∀(vs L pre:List Value),L.length=vs.length→setsL (pre ++ L) pre.length vs=pre ++ vs
 | [],[],pre,_=>rfl
 | [],_ :: _,_,h=>by simp at h
 | _ :: _,[],_,h=>by simp at h
 | v :: vs,l :: L,pre,h=>by
  rw [setsL]
  have e:(pre ++ l :: L).set pre.length v=(pre ++ [v]) ++ L:=by
   rw [List.set_append_right _ _ (Nat.le_refl _),Nat.sub_self,List.set_cons_zero,List.append_assoc];rfl
  have h2:=GX vs L (pre ++ [v]) (by simpa using h)
  rw [List.length_append,List.length_singleton] at h2
  rw [e,h2,List.append_assoc];rfl
theorem Xe.all {w:World} {q:Nat} {L vs:List Value} (h:Xe w q L) (hl:L.length=vs.length):Xe (w.setCells q 0 vs) q vs:=by
 have h1:=Xe.sets (vs:=vs) (o:=0) h (by omega)
 have h2:=GX vs L [] hl
 rw [List.nil_append,List.nil_append,List.length_nil] at h2
 rw [h2] at h1
 exact h1
theorem Xe.mut {F:Nat→Prop} {w w':World} {q:Nat} {L:List Value} (h:Xe w q L) (hl:0<L.length) (hm:Mut F w w') (hf:¬ F q):Xe w' q L :=
 ⟨λj v hj=>(hm.cell (p:=⟨q,0+j,none⟩) (h.lt hl) hf).trans (h.r j v hj),λj=>(hm.frozenN (p:=⟨q,j,none⟩) (h.lt hl) hf).trans (h.f j)⟩
abbrev acC (sl:Int) (p0 p1 p2:Int) (has:Value):List Value:=[.int .u64 sl,.int .u32 p0,.int .u16 p1,.int .u32 p2,has]
section
variable {w:World} {b:Nat} {sl n:Nat} {x y p0 p1 p2:Int} {has:Value}
theorem zdP (hB:Zc w b 250 (acC sl p0 p1 p2 has)) (hp:KM (x,y)=true) (k:Int) :
  Calls Tryz.prog 319 #[.pointer (some ⟨b,0,none⟩),.int .u64 sl,.agg #[.int .u32 k,.int .u16 x,.int .u32 y]] w λe w'=>e=.returned (.int .i64 0)∧Below w.heap.size w w':=by
 obtain ⟨W1,hW1⟩:∃W1,w.alloc (.cells #[.int .u32 k,.int .u16 x,.int .u32 y] 124)=W1:=⟨_,rfl⟩
 have hb1:Below w.heap.size w W1:=by rw [←hW1];exact bra
 have xB:Zc W1 w.heap.size 124 [.int .u32 k,.int .u16 x,.int .u32 y]:=by rw [←hW1];exact Zc.made _ _ _
 have k1:=xB.cell (j:=1) rfl
 have k2:=xB.cell (j:=2) rfl
 have CM:=hid (EU (x:=x) (y:=y) (w:=W1) (hid hp))
 have HB1:=hid hb1
 have HX:=hid (hB.ext hb1)
 clear hB hb1 xB hp
 go_enter Tryz.func319,Tryz.ntmps319
 go_wp2_with fail
 refine CM.out.mono ?_
 rintro e w3 ⟨rfl,hb3⟩
 have c0:=(HX.out.ext hb3).cell (j:=0) rfl
 clear k1 k2 CM HX hW1
 go_wp2_with fail
 go_ret
 exact ⟨rfl,HB1.out.trans (hb3.mono HB1.out.size)⟩
def YU (sl n:Nat) (x y:Int):Jr:={ Vi with kind:=5,sl:=sl,b:=(n,(x,y)) }
set_option maxRecDepth 100000 in
set_option maxHeartbeats 3200000 in
theorem zen (hB:Zc w b 250 (acC sl 0 p1 p2 (.pointer none))) (hp:KM (x,y)=true) (hn:0<n) :
  Calls Tryz.prog 245 #[.pointer (some ⟨b,0,none⟩),.int .u64 sl,.agg #[.int .u32 n,.int .u16 x,.int .u32 y]] w λe w'=>e=.returned (.tuple #[.agg (ML Zu (YU sl n x y)).toArray,.int .i64 0])∧Mut (λk=>k=b∨w.heap.size≤k) w w'∧Zc w' b 250 (acC sl n x y (.pointer none)):=by
 obtain ⟨W1,hW1⟩:∃W1,w.alloc (.cells #[.int .u32 n,.int .u16 x,.int .u32 y] 124)=W1:=⟨_,rfl⟩
 obtain ⟨W2,hW2⟩:∃W2,W1.alloc (.cells (ML Zu Vi).toArray 128)=W2:=⟨_,rfl⟩
 have hb1:Below w.heap.size w W1:=by rw [←hW1];exact bra
 have hb12:Below W1.heap.size W1 W2:=by rw [←hW2];exact bra
 have hb2:Below w.heap.size w W2:=hb1.trans (hb12.mono hb1.size)
 have hz1:W1.heap.size=w.heap.size+1:=by rw [←hW1];simp
 have xB:Zc W2 w.heap.size 124 [.int .u32 n,.int .u16 x,.int .u32 y]:=(by rw [←hW1];exact Zc.made _ _ _:Zc W1 w.heap.size 124 [.int .u32 n,.int .u16 x,.int .u32 y]).ext hb12
 have xR:Xe W2 W1.heap.size (ML Zu Vi):=by rw [←hW2];exact Xe.made _ _ _
 have k0:=xB.cell (j:=0) rfl
 have k1:=xB.cell (j:=1) rfl
 have k2:=xB.cell (j:=2) rfl
 have CA:=hid (zdP (hB.ext hb2) hp n)
 have HB2:=hid (hB.ext hb2)
 have HX2:=hid xB
 have HR2:=hid xR
 have HW2:=hid hb2
 have HNE:Hid (b<w.heap.size∧W1.heap.size=w.heap.size+1∧W1.heap.size<W2.heap.size):=hid ⟨hB.lt,hz1,xR.lt (by decide)⟩
 have HNP:=hid hn
 clear hB hp hn hb1 hb12 hb2 hz1 xB xR
 go_enter Tryz.func245,Tryz.ntmps245
 go_upto_region 1 with fail
 rw [show (W1.alloc (.cells #[.int .i64 0,.int .u16 0,.int .u32 0,.int .u64 0,.int .u64 0,.int .u64 0,.int .i64 0,.int .u32 0,.int .u16 0,.int .u32 0,.int .u32 0,.int .u16 0,.int .u32 0,.bool false,.int .i64 0,.int .u16 0,.int .u32 0,.int .u64 0,.int .u64 0,.slice none 0 0,.int .u64 0,.slice none 0 0,.slice none 0 0,.slice none 0 0,.int .u64 0,.slice none 0 0,.slice none 0 0,.slice none 0 0,.slice none 0 0] 128))=W2 from hW2]
 clear hW1 hW2
 go_wp2_with fail
 refine CA.out.mono ?_
 rintro e w4 ⟨rfl,hb4⟩
 have HB4:=hid (HB2.out.ext hb4)
 have HX4:=hid (HX2.out.ext hb4)
 have HR4:=hid (HR2.out.ext hb4 (HNE.out.2.2))
 have HW4:=hid (HW2.out.trans (hb4.mono HW2.out.size))
 have HZ4:=hid hb4.size
 clear k0 k1 k2 CA hb4 HB2 HX2 HR2 HW2
 go_upto_region 4 with fail
 have k0:=Za (HX4.out.cell (j:=0) rfl)
 have k1:=Za (HX4.out.cell (j:=1) rfl)
 have k2:=Za (HX4.out.cell (j:=2) rfl)
 have c1:=Za (HB4.out.cell (j:=1) rfl)
 have c2:=Za (HB4.out.cell (j:=2) rfl)
 have c3:=Za (HB4.out.cell (j:=3) rfl)
 have CB:∀U:YB w4,Calls Tryz.prog 318 #[.agg #[.int .u32 n,.int .u16 x,.int .u32 y],.agg #[.int .u32 0,.int .u16 p1,.int .u32 p2]] U.W λe w'=>e=.returned (.bool false)∧∃U':YB w4,w'=U'.W:=λU=>ZN (zeh n x y 0 p1 p2 (by have:=HNP.out;omega) U.W) (by simp)
 refine Ze (w:=w4) (Below.refl _ _) (by kernel_rfl) (by kernel_rfl) ?_
 repeat (go_big_quiet_step (with_reducible exact CB _))
 refine wpQuiet_nil ?_
 rintro w5 ⟨⟨_,hb5⟩,rfl⟩
 have HB5:=hid (HB4.out.ext hb5)
 have HX5:=hid (HX4.out.ext hb5)
 have HR5:=hid (HR4.out.ext hb5 (Nat.lt_of_lt_of_le HNE.out.2.2 HZ4.out))
 have HW5:=hid (HW4.out.trans (hb5.mono HW4.out.size))
 have HZ5:=hid hb5.size
 clear k0 k1 k2 c1 c2 c3 CB hb5 HB4 HX4 HR4 HW4
 have k0:=HX5.out.cell (j:=0) rfl
 have k1:=HX5.out.cell (j:=1) rfl
 have k2:=HX5.out.cell (j:=2) rfl
 have c1:=HB5.out.cell (j:=1) rfl
 have c2:=HB5.out.cell (j:=2) rfl
 have c3:=HB5.out.cell (j:=3) rfl
 have fz:=HB5.out.frozen
 go_upto_region 7 with fail
 obtain ⟨w6,hw6⟩:∃z,(((w5.setCell ⟨b,1,none⟩ (.int .u32 n)).setCell ⟨b,2,none⟩ (.int .u16 x)).setCell ⟨b,3,none⟩ (.int .u32 y))=z:=⟨_,rfl⟩
 have hx6:Zc w6 b 250 (acC sl n x y (.pointer none)):=by rw [←hw6];exact ((HB5.out.set (j:=1) (v:=.int .u32 n)).set (j:=2) (v:=.int .u16 x)).set (j:=3) (v:=.int .u32 y)
 have hm6:Mut (λk=>k=b) w5 w6:=by rw [←hw6];exact Zf (G:=λk=>k=b) (Zf (G:=λk=>k=b) (Zf (G:=λk=>k=b) (Mut.refl _ _) b _ _ rfl) b _ _ rfl) b _ _ rfl
 rw [hw6]
 have HB6:=hid hx6
 have HM6:Hid (Mut (λk=>k=b∨w.heap.size≤k) w w6):=hid (((Mut.of_below HW5.out).mono λk _ e=>.inr e).trans (hm6.mono λk _ e=>.inl e))
 have hx56:=HX5.out.mut hm6 (λe=>by have:=HNE.out;omega)
 have HR6:=hid (HR5.out.mut (by decide) hm6 (by have:=HNE.out;omega))
 clear hw6 hx6 hm6 k0 k1 k2 c1 c2 c3 fz HB5 HX5 HR5 HW5
 have k0:=hx56.cell (j:=0) rfl
 have k1:=hx56.cell (j:=1) rfl
 have k2:=hx56.cell (j:=2) rfl
 have ht:=(Xe.made (ML Zu Vi) w6 128).there (o:=0) (n:=29) (by decide)
 clear hx56
 go_upto_region 8 with (refine VO (A:=Zu) (m:=YU sl n x y) ht rfl rfl rfl rfl ?_)
 have hm67:∀w7,(w6.alloc (.cells (ML Zu Vi).toArray 128)).setCells w6.heap.size 0 (ML Zu (YU sl n x y))=w7→Below w6.heap.size w6 w7∧Xe w7 w6.heap.size (ML Zu (YU sl n x y)):=by
  intro w7 e
  subst e
  exact ⟨Yl _ _ (bra) (Nat.le_refl _),Xe.all (Xe.made (ML Zu Vi) w6 128) rfl⟩
 generalize hw7:World.setCells _ w6.heap.size 0 (ML Zu (YU sl n x y))=w7
 obtain ⟨hb7,hx7⟩:=hm67 w7 hw7
 have HB7:=hid (HB6.out.ext hb7)
 have HM7:Hid (Mut (λk=>k=b∨w.heap.size≤k) w w7):=hid (HM6.out.trans ((Mut.of_below hb7).mono λk _ e=>.inr (Nat.le_trans HM6.out.size e)))
 have HR7:=hid (HR6.out.ext hb7 (HR6.out.lt (by decide)))
 have xM:Zr w7 w6.heap.size Zu (YU sl n x y):=hx7.r
 have ht:=HR7.out.there (o:=0) (n:=29) (by decide)
 have c4:=HB7.out.cell (j:=4) rfl
 clear hm67 hw7 hb7 hx7 k0 k1 k2 HB6 HM6 HR6
 go_wp2_with (first | (refine ZX xM rfl rfl rfl ?_) | (refine VO (A:=Zu) (m:=YU sl n x y) ht rfl rfl rfl rfl ?_))
 have hr:=Xe.all (vs:=ML Zu (YU sl n x y)) HR7.out rfl
 have hmr:Mut (λk=>k=b∨w.heap.size≤k) w7 (w7.setCells W1.heap.size 0 (ML Zu (YU sl n x y))):=(Ye _ _ _).mono λk _ e=>.inr (by have:=HNE.out;omega)
 exact bodyPost_ret (v:=.tuple #[.agg (ML Zu (YU sl n x y)).toArray,.int .i64 0]) (ZF (p:=6) (q:=7) (ty:=128) rfl _ _ W1.heap.size (ML Zu (YU sl n x y)) _ rfl hr.r Tryz.underlying128 rfl (KJ _ _)) rfl ⟨rfl,HM7.out.trans hmr,HB7.out.mut (Ye _ _ _) (λe=>by have:=HNE.out;omega)⟩
end
def Xd (sl n:Nat) (x y:Int):Jr:={ Vi with kind:=7,sl:=sl,b:=(n,(x,y)) }
set_option maxRecDepth 100000 in
set_option maxHeartbeats 3200000 in
theorem n1Accept {w:World} {b:Nat} {sl n:Nat} {x y:Int} {has:Value} {N:Nat→Prop} {A:MA} {C:Xu} (hB:Zc w b 250 (acC sl n x y has)) (hC:CR w N A C) (hp:KM (x,y)=true) (hok:ok (x,y)) (hfr:okP C.fr) (hc:YE C=0) (hN:∀k,N k→k<w.heap.size) (hNb:N b) :
  Calls Tryz.prog 246 #[.pointer (some ⟨b,0,none⟩),.int .u64 sl,.agg #[.int .u32 n,.int .u16 x,.int .u32 y],.agg (Yd A C)] w λe w'=>∃g:Nat,e=.returned (.tuple #[.agg (ML Zu (Xd sl n x y)).toArray,.int .i64 0])∧Mut (λk=>k=b∨w.heap.size≤k) w w'∧Zc w' b 250 (acC sl n x y (.pointer (some ⟨g,0,none⟩))):=by
 obtain ⟨W1,hW1⟩:∃W1,w.alloc (.cells #[.int .u32 n,.int .u16 x,.int .u32 y] 124)=W1:=⟨_,rfl⟩
 obtain ⟨W2,hW2⟩:∃W2,W1.alloc (.cells (Yd A C) 126)=W2:=⟨_,rfl⟩
 obtain ⟨W3,hW3⟩:∃W3,W2.alloc (.cells (ML Zu Vi).toArray 128)=W3:=⟨_,rfl⟩
 have hb1:Below w.heap.size w W1:=by rw [←hW1];exact bra
 have hb12:Below W1.heap.size W1 W2:=by rw [←hW2];exact bra
 have hb23:Below W2.heap.size W2 W3:=by rw [←hW3];exact bra
 have hb2:Below w.heap.size w W2:=hb1.trans (hb12.mono hb1.size)
 have hb3:Below w.heap.size w W3:=hb2.trans (hb23.mono hb2.size)
 have hz1:W1.heap.size=w.heap.size+1:=by rw [←hW1];simp
 have hz2:W2.heap.size=W1.heap.size+1:=by rw [←hW2];simp
 have xB:Zc W3 w.heap.size 124 [.int .u32 n,.int .u16 x,.int .u32 y]:=((by rw [←hW1];exact Zc.made _ _ _:Zc W1 w.heap.size 124 [.int .u32 n,.int .u16 x,.int .u32 y]).ext hb12).ext hb23
 have xC:Zc W3 W1.heap.size 126 [.int .i64 C.kind,.int .u16 C.fr.1,.int .u32 C.fr.2,.int .u64 C.num,.int .u64 C.vw,.slice A.da C.data.length A.dc,.int .u64 C.v.id,.slice A.am C.v.ms.length A.cm,.slice A.al C.v.ls.length A.cl,.slice A.ad C.v.ds.length A.cd]:=(by rw [←hW2];exact Zc.made _ _ (Yd A C).toList:Zc W2 W1.heap.size 126 (Yd A C).toList).ext hb23
 have xR:Xe W3 W2.heap.size (ML Zu Vi):=by rw [←hW3];exact Xe.made _ _ _
 have hB3:=hB.ext hb3
 have CK:=hid (Fy (hC.ext hb3) hfr hc)
 have k0:=xC.cell (j:=0) rfl
 have k1:=xC.cell (j:=1) rfl
 have k2:=xC.cell (j:=2) rfl
 have k3:=xC.cell (j:=3) rfl
 have k4:=xC.cell (j:=4) rfl
 have k5:=xC.cell (j:=5) rfl
 have k6:=xC.cell (j:=6) rfl
 have k7:=xC.cell (j:=7) rfl
 have k8:=xC.cell (j:=8) rfl
 have k9:=xC.cell (j:=9) rfl
 have HB3:=hid hB3
 have HX3:=hid xB
 have HC3:=hid xC
 have HR3:=hid xR
 have HW3:=hid hb3
 have HNE:Hid (w.heap.size≠b∧W1.heap.size≠b∧W2.heap.size≠b∧W1.heap.size=w.heap.size+1∧W2.heap.size=W1.heap.size+1∧W2.heap.size<W3.heap.size∧b<w.heap.size):=hid (by have:=hB.lt;have:=xR.lt (by decide);omega)
 have HN:=hid hN
 have HCW:=hid hC
 have HMP:=hid hp
 have HOK:=hid hok
 have HNB:=hid hNb
 clear hB hC hfr hc hN hp hok hNb hb1 hb12 hb23 hb2 hb3 xB xC xR hB3 hz1 hz2
 go_enter Tryz.func246,Tryz.ntmps246
 rw [show Yd A C=#[.int .i64 C.kind,.int .u16 C.fr.1,.int .u32 C.fr.2,.int .u64 C.num,.int .u64 C.vw,.slice A.da C.data.length A.dc,.int .u64 C.v.id,.slice A.am C.v.ms.length A.cm,.slice A.al C.v.ls.length A.cl,.slice A.ad C.v.ds.length A.cd] from rfl] at hW2
 rw [show Yd A C=#[.int .i64 C.kind,.int .u16 C.fr.1,.int .u32 C.fr.2,.int .u64 C.num,.int .u64 C.vw,.slice A.da C.data.length A.dc,.int .u64 C.v.id,.slice A.am C.v.ms.length A.cm,.slice A.al C.v.ls.length A.cl,.slice A.ad C.v.ds.length A.cd] from rfl]
 go_upto_region 1 with fail
 rw [show (W2.alloc (.cells #[.int .i64 0,.int .u16 0,.int .u32 0,.int .u64 0,.int .u64 0,.int .u64 0,.int .i64 0,.int .u32 0,.int .u16 0,.int .u32 0,.int .u32 0,.int .u16 0,.int .u32 0,.bool false,.int .i64 0,.int .u16 0,.int .u32 0,.int .u64 0,.int .u64 0,.slice none 0 0,.int .u64 0,.slice none 0 0,.slice none 0 0,.slice none 0 0,.int .u64 0,.slice none 0 0,.slice none 0 0,.slice none 0 0,.slice none 0 0] 128))=W3 from hW3]
 clear hW1 hW2 hW3
 go_wp2_with fail
 refine CK.out.mono ?_
 rintro e w4 ⟨rfl,hb4⟩
 have HB4:=hid (HB3.out.ext hb4)
 have HX4:=hid (HX3.out.ext hb4)
 have HC4:=hid (HC3.out.ext hb4)
 have HR4:=hid (HR3.out.ext hb4 (HR3.out.lt (by decide)))
 have HW4:=hid (HW3.out.trans (hb4.mono HW3.out.size))
 have CA:=hid (zdP HB4.out HMP.out n)
 clear CK k0 k1 k2 k3 k4 k5 k6 k7 k8 k9 hb4 HB3 HX3 HC3 HR3 HW3
 have j0:=HX4.out.cell (j:=0) rfl
 have j1:=HX4.out.cell (j:=1) rfl
 have j2:=HX4.out.cell (j:=2) rfl
 go_wp2_with fail
 refine CA.out.mono ?_
 rintro e w5 ⟨rfl,hb5⟩
 have HB5:=hid (HB4.out.ext hb5)
 have HX5:=hid (HX4.out.ext hb5)
 have HC5:=hid (HC4.out.ext hb5)
 have HR5:=hid (HR4.out.ext hb5 (HR4.out.lt (by decide)))
 have HW5:=hid (HW4.out.trans (hb5.mono HW4.out.size))
 clear j0 j1 j2 CA hb5 HB4 HX4 HC4 HR4 HW4
 go_upto_region 6 with fail
 have k0:=Za (HX5.out.cell (j:=0) rfl)
 have k1:=Za (HX5.out.cell (j:=1) rfl)
 have k2:=Za (HX5.out.cell (j:=2) rfl)
 have c1:=Za (HB5.out.cell (j:=1) rfl)
 have c2:=Za (HB5.out.cell (j:=2) rfl)
 have c3:=Za (HB5.out.cell (j:=3) rfl)
 have CB:∀U:YB w5,Calls Tryz.prog 318 #[.agg #[.int .u32 n,.int .u16 x,.int .u32 y],.agg #[.int .u32 n,.int .u16 x,.int .u32 y]] U.W λe w'=>e=.returned (.bool false)∧∃U':YB w5,w'=U'.W:=λU=>ZN (Gd n x y HOK.out U.W) rfl
 refine Ze (w:=w5) (Below.refl _ _) (by kernel_rfl) (by kernel_rfl) ?_
 repeat (go_big_quiet_step (with_reducible exact CB _))
 refine wpQuiet_nil ?_
 rintro w6 ⟨⟨_,hb6⟩,rfl⟩
 have HB6:=hid (HB5.out.ext hb6)
 have HX6:=hid (HX5.out.ext hb6)
 have HC6:=hid (HC5.out.ext hb6)
 have HR6:=hid (HR5.out.ext hb6 (HR5.out.lt (by decide)))
 have HW6:=hid (HW5.out.trans (hb6.mono HW5.out.size))
 clear k0 k1 k2 c1 c2 c3 CB hb6 HB5 HX5 HC5 HR5 HW5
 have k0:=HX6.out.cell (j:=0) rfl
 have k1:=HX6.out.cell (j:=1) rfl
 have k2:=HX6.out.cell (j:=2) rfl
 have c1:=HB6.out.cell (j:=1) rfl
 have c2:=HB6.out.cell (j:=2) rfl
 have c3:=HB6.out.cell (j:=3) rfl
 have fz:=HB6.out.frozen
 go_upto_region 9 with fail
 obtain ⟨w7,hw7⟩:∃z,(((w6.setCell ⟨b,1,none⟩ (.int .u32 n)).setCell ⟨b,2,none⟩ (.int .u16 x)).setCell ⟨b,3,none⟩ (.int .u32 y))=z:=⟨_,rfl⟩
 have hx7:Zc w7 b 250 (acC sl n x y has):=by rw [←hw7];exact ((HB6.out.set (j:=1) (v:=.int .u32 n)).set (j:=2) (v:=.int .u16 x)).set (j:=3) (v:=.int .u32 y)
 have hm7:Mut (λk=>k=b) w6 w7:=by rw [←hw7];exact Zf (G:=λk=>k=b) (Zf (G:=λk=>k=b) (Zf (G:=λk=>k=b) (Mut.refl _ _) b _ _ rfl) b _ _ rfl) b _ _ rfl
 rw [hw7]
 have HB7:=hid hx7
 have HX7:=hid (HX6.out.mut hm7 HNE.out.1)
 have HC7:=hid (HC6.out.mut hm7 HNE.out.2.1)
 have HR7:=hid (HR6.out.mut (by decide) hm7 HNE.out.2.2.1)
 have HM7:Hid (Mut (λk=>k=b∨w.heap.size≤k) w w7):=hid (((Mut.of_below HW6.out).mono λk _ e=>.inr e).trans (hm7.mono λk _ e=>.inl e))
 have HCR:=hid (HCW.out.mut HM7.out (λk e=>by rcases e with rfl | e;exact .inl HNB.out;exact .inr e))
 have HZ7:Hid (w.heap.size≤w7.heap.size):=hid HM7.out.size
 have CC:Hid (∀W,Below w7.heap.size w7 W→Calls Tryz.prog 196 #[.agg #[.int .i64 C.kind,.int .u16 C.fr.1,.int .u32 C.fr.2,.int .u64 C.num,.int .u64 C.vw,.slice A.da C.data.length A.dc,.int .u64 C.v.id,.slice A.am C.v.ms.length A.cm,.slice A.al C.v.ls.length A.cl,.slice A.ad C.v.ds.length A.cd]] W λe w'=>∃A':MA,e=.returned (.agg (Yd A' C))∧CR w' N A' C∧Below w7.heap.size w7 w'):=hid λW hb=>(Ey (A:=A) (HCR.out.ext hb) (λk hk=>by
  have h2:=HZ7.out
  have h3:=hb.size
  have h4:=HNE.out
  have:=HN.out k hk
  omega)).mono λe w' ⟨A',h1,h2,h3⟩=>⟨A',h1,h2,hb.trans (h3.mono hb.size)⟩
 have HS:Hid (∀W,Zc W w.heap.size 124 [.int .u32 n,.int .u16 x,.int .u32 y]→Zc W W1.heap.size 126 [.int .i64 C.kind,.int .u16 C.fr.1,.int .u32 C.fr.2,.int .u64 C.num,.int .u64 C.vw,.slice A.da C.data.length A.dc,.int .u64 C.v.id,.slice A.am C.v.ms.length A.cm,.slice A.al C.v.ls.length A.cl,.slice A.ad C.v.ds.length A.cd]→(W.cell? ⟨w.heap.size,0,none⟩=some (.int .u32 n)∧W.cell? ⟨w.heap.size,1,none⟩=some (.int .u16 x)∧W.cell? ⟨w.heap.size,2,none⟩=some (.int .u32 y)∧W.cell? ⟨W1.heap.size,0,none⟩=some (.int .i64 C.kind)∧W.cell? ⟨W1.heap.size,1,none⟩=some (.int .u16 C.fr.1)∧W.cell? ⟨W1.heap.size,2,none⟩=some (.int .u32 C.fr.2)∧W.cell? ⟨W1.heap.size,3,none⟩=some (.int .u64 C.num)∧W.cell? ⟨W1.heap.size,4,none⟩=some (.int .u64 C.vw)∧W.cell? ⟨W1.heap.size,5,none⟩=some (.slice A.da C.data.length A.dc)∧W.cell? ⟨W1.heap.size,6,none⟩=some (.int .u64 C.v.id)∧W.cell? ⟨W1.heap.size,7,none⟩=some (.slice A.am C.v.ms.length A.cm)∧W.cell? ⟨W1.heap.size,8,none⟩=some (.slice A.al C.v.ls.length A.cl)∧W.cell? ⟨W1.heap.size,9,none⟩=some (.slice A.ad C.v.ds.length A.cd))):=hid λW h1 h2=>⟨h1.cell (j:=0) rfl,h1.cell (j:=1) rfl,h1.cell (j:=2) rfl,h2.cell (j:=0) rfl,h2.cell (j:=1) rfl,h2.cell (j:=2) rfl,h2.cell (j:=3) rfl,h2.cell (j:=4) rfl,h2.cell (j:=5) rfl,h2.cell (j:=6) rfl,h2.cell (j:=7) rfl,h2.cell (j:=8) rfl,h2.cell (j:=9) rfl⟩
 clear hw7 hx7 hm7 k0 k1 k2 c1 c2 c3 fz HB6 HX6 HC6 HR6 HW6
 refine wp_region_held_drew (S:=λW=>W.cell? ⟨w.heap.size,0,none⟩=some (.int .u32 n)∧W.cell? ⟨w.heap.size,1,none⟩=some (.int .u16 x)∧W.cell? ⟨w.heap.size,2,none⟩=some (.int .u32 y)∧W.cell? ⟨W1.heap.size,0,none⟩=some (.int .i64 C.kind)∧W.cell? ⟨W1.heap.size,1,none⟩=some (.int .u16 C.fr.1)∧W.cell? ⟨W1.heap.size,2,none⟩=some (.int .u32 C.fr.2)∧W.cell? ⟨W1.heap.size,3,none⟩=some (.int .u64 C.num)∧W.cell? ⟨W1.heap.size,4,none⟩=some (.int .u64 C.vw)∧W.cell? ⟨W1.heap.size,5,none⟩=some (.slice A.da C.data.length A.dc)∧W.cell? ⟨W1.heap.size,6,none⟩=some (.int .u64 C.v.id)∧W.cell? ⟨W1.heap.size,7,none⟩=some (.slice A.am C.v.ms.length A.cm)∧W.cell? ⟨W1.heap.size,8,none⟩=some (.slice A.al C.v.ls.length A.cl)∧W.cell? ⟨W1.heap.size,9,none⟩=some (.slice A.ad C.v.ds.length A.cd)) (by kernel_rfl) (HS.out _ (HX7.out.ext (Below.refl _ _).drew) (HC7.out.ext (Below.refl _ _).drew)) (λhHeld=>?_)
 refine tkv 0 (.pointer (some ⟨b,0,none⟩)) rfl ?_
 refine tkv 1 (.agg #[.int .u32 n,.int .u16 x,.int .u32 y]) rfl ?_
 refine tkv 2 (.agg #[.int .i64 C.kind,.int .u16 C.fr.1,.int .u32 C.fr.2,.int .u64 C.num,.int .u64 C.vw,.slice A.da C.data.length A.dc,.int .u64 C.v.id,.slice A.am C.v.ms.length A.cm,.slice A.al C.v.ls.length A.cl,.slice A.ad C.v.ds.length A.cd]) rfl ?_
 refine rd1 3 rfl λK hK=>?_
 go_simp
 refine (CC.out _ (Below.refl _ _).drew).mono ?_
 rintro e w8 ⟨A1,rfl,hc8,hb8⟩
 rw [show Yd A1 C=#[.int .i64 C.kind,.int .u16 C.fr.1,.int .u32 C.fr.2,.int .u64 C.num,.int .u64 C.vw,.slice A1.da C.data.length A1.dc,.int .u64 C.v.id,.slice A1.am C.v.ms.length A1.cm,.slice A1.al C.v.ls.length A1.cl,.slice A1.ad C.v.ds.length A1.cd] from rfl]
 refine hK.out _ _ (HS.out _ (HX7.out.ext hb8) (HC7.out.ext hb8)) (λhHeld=>?_)
 clear hK K
 try simp only [lay]
 refine tkv 4 (.agg #[.int .u32 n,.int .u16 x,.int .u32 y,.int .i64 C.kind,.int .u16 C.fr.1,.int .u32 C.fr.2,.int .u64 C.num,.int .u64 C.vw,.slice A1.da C.data.length A1.dc,.int .u64 C.v.id,.slice A1.am C.v.ms.length A1.cm,.slice A1.al C.v.ls.length A1.cl,.slice A1.ad C.v.ds.length A1.cd]) rfl ?_
 refine rd1 5 rfl λK hK=>?_
 go_simp
 obtain ⟨w9,hw9⟩:∃z,w8.alloc (.cells #[.int .u32 n,.int .u16 x,.int .u32 y,.int .i64 C.kind,.int .u16 C.fr.1,.int .u32 C.fr.2,.int .u64 C.num,.int .u64 C.vw,.slice A1.da C.data.length A1.dc,.int .u64 C.v.id,.slice A1.am C.v.ms.length A1.cm,.slice A1.al C.v.ls.length A1.cl,.slice A1.ad C.v.ds.length A1.cd] 370)=z:=⟨_,rfl⟩
 have hb89:Below w8.heap.size w8 w9:=by rw [←hw9];exact bra
 have hb9:Below w7.heap.size w7 w9:=hb8.trans (hb89.mono hb8.size)
 have hx9:=HB7.out.ext hb9
 rw [hw9]
 refine hK.out _ _ (HS.out _ (HX7.out.ext hb9) (HC7.out.ext hb9)) (λhHeld=>?_)
 clear hK K
 try simp only [lay]
 refine tkv 6 (.pointer (some ⟨b,0,none⟩)) rfl ?_
 refine tkv 7 (.pointer (some ⟨b,4,none⟩)) rfl ?_
 refine rd1 8 rfl λK hK=>?_
 have c4:=hx9.cell (j:=4) rfl
 have fz:=hx9.frozen
 go_simp
 obtain ⟨w10,hw10⟩:∃z,w9.setCell ⟨b,4,none⟩ (.pointer (some ⟨w8.heap.size,0,none⟩))=z:=⟨_,rfl⟩
 have hx10:Zc w10 b 250 (acC sl n x y (.pointer (some ⟨w8.heap.size,0,none⟩))):=by rw [←hw10];exact hx9.set (j:=4) (v:=.pointer (some ⟨w8.heap.size,0,none⟩))
 have hm10:Mut (λk=>k=b) w9 w10:=by rw [←hw10];exact Zf (G:=λk=>k=b) (Mut.refl _ _) b _ _ rfl
 rw [hw10]
 refine hK.out _ _ (HS.out _ ((HX7.out.ext hb9).mut hm10 HNE.out.1) ((HC7.out.ext hb9).mut hm10 HNE.out.2.1)) (λhHeld=>?_)
 clear hK K
 try simp only [lay]
 refine dn ?_
 have HB10:=hid hx10
 have HM10:Hid (Mut (λk=>k=b∨w.heap.size≤k) w w10):=hid ((HM7.out.trans ((Mut.of_below hb9).mono λk _ e=>.inr (Nat.le_trans HZ7.out e))).trans (hm10.mono λk _ e=>.inl e))
 have HR10:=hid ((HR7.out.ext hb9 (HR7.out.lt (by decide))).mut (by decide) hm10 HNE.out.2.2.1)
 have HX10:=hid ((HX7.out.ext hb9).mut hm10 HNE.out.1)
 obtain ⟨g,hg⟩:∃g,w8.heap.size=g:=⟨_,rfl⟩
 rw [hg] at HB10 hw10
 clear hx10 hm10 hw10 c4 fz hx9 hb9 hb89 hw9 hc8 hb8 HS CC HB7 HX7 HC7 HR7
 have k0:=HX10.out.cell (j:=0) rfl
 have k1:=HX10.out.cell (j:=1) rfl
 have k2:=HX10.out.cell (j:=2) rfl
 have ht:=HR10.out.there (o:=0) (n:=29) (by decide)
 go_wp2_with (refine VO (A:=Zu) (m:=Xd sl n x y) ht rfl rfl rfl rfl ?_)
 have hr:=Xe.all (vs:=ML Zu (Xd sl n x y)) HR10.out rfl
 have hmr:Mut (λk=>k=W2.heap.size) w10 (w10.setCells W2.heap.size 0 (ML Zu (Xd sl n x y))):=Ye _ _ _
 exact bodyPost_ret (v:=.tuple #[.agg (ML Zu (Xd sl n x y)).toArray,.int .i64 0]) (ZF (p:=8) (q:=9) (ty:=128) rfl _ _ W2.heap.size (ML Zu (Xd sl n x y)) _ rfl hr.r Tryz.underlying128 rfl (KJ _ _)) rfl ⟨g,rfl,HM10.out.trans (hmr.mono λk _ e=>.inr (by have:=HNE.out;omega)),HB10.out.mut hmr (λe=>by have:=HNE.out;omega)⟩
theorem JI {p:Pid} {l:List Pid}:(Yz p (Zx [] l)).isSome=true↔p∈l:=by
 rw [ZM,Js];simp [keys]
def XZ (xs ys:List Pid):List Pid:=xs.filter λp=>!decide (p∈ys)
def ZA (xs ys:List Pid):List Pid:=xs.filter λp=>decide (p∈ys)
theorem QW {xs:List Pid} {k:Nat} (h:k<xs.length) {x y:Int} (hx:(x,y)=xs[k]) (f:Pid→Bool):(xs.drop k).filter f=if f (x,y)=true then (x,y) :: (xs.drop (k+1)).filter f else (xs.drop (k+1)).filter f:=by
 rw [List.drop_eq_getElem_cons h,← hx,List.filter_cons]
set_option maxRecDepth 100000 in
set_option maxHeartbeats 1600000 in
theorem Qz (a:Option Addr) (c:Nat) (xs:List Pid) (b:Option Addr) (d:Nat) (ys:List Pid) (w:World) (hn:xs.length≤549755813888) (hm:ys.length≤549755813888) (hx:Zb w a xs) (hy:Zb w b ys) :
  Calls Tryz.prog 181 #[.slice a xs.length c,.slice b ys.length d] w λe w'=>∃v,e=.returned v∧Zy w' w.heap.size v (XZ xs ys)∧Below w.heap.size w w':=by
 go_enter Tryz.func181,Tryz.ntmps181
 go_wp2_with (go_at_call 69;refine (VL _ _ ys _ (by omega) hy).mono ?_;rintro e w1 ⟨s,r,rfl,hs,hr,hS,hb1⟩)
 have hx1:=hx.ext hb1
 go_loopw [6,13] (λv i wr=>∃(k:Nat) (got:List Pid),k≤xs.length∧i=.int .i64 k∧got.length≤k∧Hid (XZ xs ys=got ++ XZ (xs.drop k) ys)∧Zy wr w1.heap.size v got∧Below w1.heap.size w1 wr) (λ_ i _=>xs.length - (intOf i).toNat)
 case atStart=>exact ⟨0,[],Nat.zero_le _,rfl,Nat.le_refl _,rfl,Zy.nil _ _,Below.refl _ _⟩
 case round =>
  obtain ⟨k,got,hk,rfl,hg,hM,hown,hb⟩:=hrel
  have hs0:=hb.size
  have hSr:=hS.ext hb
  by_cases hlt:k<xs.length
  ·obtain ⟨pb,po,x,y,rfl,hpx,d1,d2⟩:=hx1.at hb rfl hlt
   have hfd:=QW hlt hpx (λp=>!decide (p∈ys))
   have hB1:Below w1.heap.size w1 (wr.alloc (.cells #[.int .u16 x,.int .u32 y] 25)):=hb.alloc hb.size _
   have hS1:=hSr.alloc (.cells #[.int .u16 x,.int .u32 y] 25)
   have hmem:(Yz (x,y) (Zx [] ys)).isSome=decide ((x,y)∈ys):=by rw [Bool.eq_iff_iff,JI];simp
   cases hin:decide ((x,y)∈ys)
   ·rw [hin] at hmem hfd
    have HMEM:=hid hmem
    have HFD:=hid hfd
    clear hmem hfd hin hpx hx hx1
    go_wp2_with (first
     | (go_at_call 265;refine (Kn _ _ _ _ _ _ _ hS1 HMEM).mono ?_;rintro e w3 ⟨rfl,hb3⟩;have p0:=ZG (show (wr.alloc (.cells #[.int .u16 x,.int .u32 y] 25)).cell? ⟨wr.heap.size,0,none⟩=some (.int .u16 x) by simp) hb3;have p1:=ZG (show (wr.alloc (.cells #[.int .u16 x,.int .u32 y] 25)).cell? ⟨wr.heap.size,1,none⟩=some (.int .u32 y) by simp) hb3)
     | (at_builtin;refine ZQ (((hown.alloc _).ext hb3).alloc _) (Zb.one _ x y) ?cb ?cz rfl rfl rfl rfl ?_;rotate_right;intro v4 w4 hown4 hg4 hnil4))
    case cb=>simp;omega
    case cz=>have:=hb3.size;simp at this;simp;omega
    have hz3:=hb3.size
    simp at hz3
    have hB3:=hB1.trans (hb3.mono hB1.size)
    have hB4:Below w1.heap.size w1 w4:=(hB3.alloc hB3.size _).grown hg4 (by simp;omega) (λg hg=>(World.ownsRow.lt hown g hg).1)
    go_roundw
    case rel=>exact ⟨k+1,got ++ [(x,y)],by omega,by go_num,by simp;omega,hid (hM.out.trans (by unfold XZ;rw [HFD.out];simp)),hown4,hB4⟩
    case measure=>simp [intOf];omega
   ·rw [hin] at hmem hfd
    have HMEM:=hid hmem
    have HFD:=hid hfd
    clear hmem hfd hin hpx hx hx1
    go_wp2_with (go_at_call 265;refine (Kn _ _ _ _ _ _ _ hS1 HMEM).mono ?_;rintro e w3 ⟨rfl,hb3⟩)
    go_roundw
    case rel=>exact ⟨k+1,got,by omega,by go_num,by omega,hid (hM.out.trans (by unfold XZ;rw [HFD.out];simp)),(hown.alloc _).ext hb3,hB1.trans (hb3.mono hB1.size)⟩
    case measure=>simp [intOf];omega
  ·have hend:Hid (XZ xs ys=got):=by
    have:=hM.out
    rw [List.drop_eq_nil_of_le (by omega)] at this
    rw [Hid,this];simp [XZ]
   go_wp2
   go_ret
   exact ⟨_,rfl,by rw [hend.out];exact hown.mono hb1.size,hb1.trans (hb.mono hb1.size)⟩
theorem zbj (xs ys:List Pid):XZ xs (XZ xs ys)=ZA xs ys:=by
 unfold XZ ZA
 apply List.filter_congr
 intro p hp
 simp [hp]
set_option maxRecDepth 100000 in
set_option maxHeartbeats 1600000 in
theorem Vv (a:Option Addr) (c:Nat) (xs:List Pid) (b:Option Addr) (d:Nat) (ys:List Pid) (w:World) (hn:xs.length≤549755813888) (hm:ys.length≤549755813888) (hx:Zb w a xs) (hy:Zb w b ys) :
  Calls Tryz.prog 131 #[.slice a xs.length c,.slice b ys.length d] w λe w'=>∃v,e=.returned v∧Zy w' w.heap.size v (ZA xs ys)∧Below w.heap.size w w':=by
 have hl:(XZ xs ys).length≤549755813888:=Nat.le_trans (List.length_filter_le _ _) hn
 have hmm:=zbj xs ys
 have HMM:=hid hmm
 clear hmm
 go_enter Tryz.func131,Tryz.ntmps131
 go_wp2_with fail
 refine (Qz _ _ xs _ _ ys _ hn hm hx hy).mono ?_
 rintro e w1 ⟨v1,rfl,hown1,hb1⟩
 obtain ⟨a1,c1,rfl,hrow1,-⟩:=hown1.row
 go_wp2_with fail
 refine (Qz _ _ xs _ _ (XZ xs ys) _ hn hl (hx.ext hb1) hrow1).mono ?_
 rintro e w2 ⟨v2,rfl,hown2,hb2⟩
 go_wp2
 go_ret
 exact ⟨_,rfl,by rw [←HMM.out];exact hown2.mono hb1.size,hb1.trans (hb2.mono hb1.size)⟩
theorem Qb {w:World} {b:Nat} {u v x y:Value} (h0:w.cell? ⟨b,0,none⟩=some u) (h1:w.cell? ⟨b,1,none⟩=some v) :
  ((w.setCell ⟨b,0,none⟩ x).setCell ⟨b,1,none⟩ y).cell? ⟨b,0,none⟩=some x∧((w.setCell ⟨b,0,none⟩ x).setCell ⟨b,1,none⟩ y).cell? ⟨b,1,none⟩=some y:=by
 constructor
 ·rw [World.cell?_setCell_other _ _ _ _ (by simp)]
  exact World.cell?_setCell_same _ _ _ h0
 ·refine World.cell?_setCell_same _ _ _ (u:=v) ?_
  rw [World.cell?_setCell_other _ _ _ _ (by simp)]
  exact h1
def hor (f:Nat→Bool):Nat→Nat→Nat
 | _,0=>0
 | k,n+1=>2 * hor f (k+1) n+(f k).toNat
theorem off2 {w:World} {b q j:Nat} {x:Value} (hc:j≠q):(w.setCell ⟨b,q,none⟩ x).cell? ⟨b,j,none⟩=w.cell? ⟨b,j,none⟩ :=
 World.cell?_setCell_other _ _ _ _ (by intro e;injection e with e1 e2;exact hc e2.symm)
structure Zq (w:World) (s r:Nat) (T:Int) (L:List (Pid × Int)):Prop where
 c0:w.cell? ⟨s,0,none⟩=some (.int .i64 T)
 c1:w.cell? ⟨s,1,none⟩=some (.map (some r))
 f1:w.frozen? ⟨s,1,none⟩=false
 map:Zj w r Yg eI L
theorem Zq.lt {w:World} {s r:Nat} {T:Int} {L:List (Pid × Int)} (h:Zq w s r T L):s<w.heap.size:=World.block_lt_of_cell? w _ h.c0
theorem Zq.ext {w w':World} {s r:Nat} {T:Int} {L:List (Pid × Int)} (h:Zq w s r T L) (hb:Below w.heap.size w w'):Zq w' s r T L :=
 ⟨by rw [hb.cell (by exact h.lt)];exact h.c0,by rw [hb.cell (by exact h.lt)];exact h.c1,by rw [hb.frozen (by exact h.lt)];exact h.f1,h.map.ext hb⟩
theorem Zq.alloc {w:World} {s r:Nat} {T:Int} {L:List (Pid × Int)} (h:Zq w s r T L) (o:Obj):Zq (w.alloc o) s r T L:=h.ext (bra)
theorem Zq.drew {w:World} {s r:Nat} {T:Int} {L:List (Pid × Int)} (h:Zq w s r T L):Zq w.drew s r T L:=h.ext (Below.refl _ _).drew
theorem Zq.ne {w:World} {s r:Nat} {T:Int} {L:List (Pid × Int)} (h:Zq w s r T L):s≠r:=λe=>by
 have h1:=h.c0
 obtain ⟨es,cl,h2,_⟩:=h.map
 subst e
 simp [World.cell?,h2] at h1
theorem Zq.mut {F:Nat→Prop} {w w':World} {s r:Nat} {T:Int} {L:List (Pid × Int)} (h:Zq w s r T L) (hm:Mut F w w') (hs:¬ F s) (hr:¬ F r):Zq w' s r T L :=
 ⟨(hm.cell (by exact h.lt) (by exact hs)).trans h.c0,(hm.cell (by exact h.lt) (by exact hs)).trans h.c1,(World.frozen?_of_block (w:=w) (hm.block s h.lt hs)).trans h.f1,h.map.same (hm.block r h.map.lt hr)⟩
theorem Zq.but {w w':World} {s r t:Nat} {T:Int} {L:List (Pid × Int)} (h:Zq w s r T L) (hb:But t w w') (hs:s≠t) (hr:r≠t):Zq w' s r T L :=
 h.mut (F:=λk=>k=t) (Mut.of_but hb rfl) hs hr
section
variable (x y:Int) (a:Option Addr) (c:Nat) (xs:List Pid) (w:World)
end
section
variable (s r:Nat) (T:Int) (L:List (Pid × Int)) (x y:Int) (w:World)
end
theorem Ew (t:Int) (w:World):Calls Tryz.prog 68 #[.int .i64 t] w λe w'=>∃s r,e=.returned (.pointer (some ⟨s,0,none⟩))∧w.heap.size≤s∧w.heap.size≤r∧Zq w' s r (max t 1) []∧Below w.heap.size w w':=by
 have hmm:=@run_makeMap Tryz.prog
 go_enter Tryz.func68,Tryz.ntmps68
 go_wp2
 go_ret
 exact ⟨_,_,rfl,by omega,Nat.le_refl _,⟨by simp,by simp,by simp,(Zj.made w).alloc _⟩,(bra).alloc (by simp) _⟩
def Xp (L:List (Pid × Int)):List (Pid × Int)→List Pid→List (Pid × Int)
 | M,[]=>M
 | M,p :: r=>Xp L (ins p ((Yz p L).getD 0) M) r
theorem En {L M:List (Pid × Int)} {xs:List Pid} {k:Nat} (h:k<xs.length) {x y:Int} (hx:(x,y)=xs[k]) :
  Xp L M (xs.drop k)=Xp L (ins (x,y) ((Yz (x,y) L).getD 0) M) (xs.drop (k+1)):=by
 rw [List.drop_eq_getElem_cons h,← hx];rfl
set_option maxRecDepth 100000 in
set_option maxHeartbeats 1600000 in
theorem zcH (s r:Nat) (T:Int) (L:List (Pid × Int)) (a:Option Addr) (c:Nat) (xs:List Pid) (w:World) (hn:xs.length≤70368744177664) (hrow:Zb w a xs) (hW:Zq w s r T L) :
  Calls Tryz.prog 174 #[.pointer (some ⟨s,0,none⟩),.slice a xs.length c] w λe w'=>∃r',e=.returned (.tuple #[])∧w.heap.size≤r'∧Zq w' s r' T (Xp L [] xs)∧Mut (λk=>k=s) w w':=by
 have hmm:=@run_makeMap Tryz.prog
 have hsl:=hW.lt
 go_enter Tryz.func174,Tryz.ntmps174
 go_wp2
 go_loopw [12] (λi wr=>∃(k:Nat) (M:List (Pid × Int)),k≤xs.length∧i=.int .i64 k∧Hid (Xp L [] xs=Xp L M (xs.drop k))∧Zj wr w.heap.size Yg eI M∧Below w.heap.size w wr) (λi _=>xs.length - (intOf i).toNat)
 case atStart=>exact ⟨0,[],Nat.zero_le _,rfl,rfl,Zj.made _,bra⟩
 case round =>
  obtain ⟨k,M,hk,rfl,hL,hM,hb⟩:=hrel
  have hs1:=hM.lt
  have hWr:=hW.ext hb
  by_cases hlt:k<xs.length
  ·obtain ⟨b,off,x,y,rfl,hx,d1,d2⟩:=hrow.at hb rfl hlt
   have hL1:=En (L:=L) (M:=M) hlt hx
   obtain ⟨n,hn0⟩:∃n,(Yz (x,y) L).getD 0=n:=⟨_,rfl⟩
   rw [hn0] at hL1
   have hlk:∀W,Zq W s r T L→(Instr.lookup 170 (.map (some r)) (.agg #[.int .u16 x,.int .u32 y]) false).run Tryz.prog W=.ok (.int .i64 n) W:=λW h=>by
    have:=h.map.lookup_no Xa Tryz.underlying170 (zcA W) (x,y)
    rw [FH,hn0] at this
    exact this
   have hbx:∀W,Zq W s r T L→W.cell? ⟨s,1,none⟩=some (.map (some r)):=λW h=>h.c1
   have HL1:=hid hL1
   clear hx hrow hL1 hn0
   have hB1:Below w.heap.size w (wr.alloc (.cells #[.int .u16 x,.int .u32 y] 25)):=hb.alloc hb.size _
   have hW1:=hWr.alloc (.cells #[.int .u16 x,.int .u32 y] 25)
   obtain ⟨w2,hrun,hM2,hbut⟩:=(hM.alloc (.cells #[.int .u16 x,.int .u32 y] 25)).ext (Below.refl _ _).drew |>.update Xa Tryz.underlying170 (x,y) n
   have e0:(wr.alloc (.cells #[.int .u16 x,.int .u32 y] 25)).drew.cell? ⟨wr.heap.size,0,none⟩=some (.int .u16 x):=by simp
   have e1:(wr.alloc (.cells #[.int .u16 x,.int .u32 y] 25)).drew.cell? ⟨wr.heap.size,1,none⟩=some (.int .u32 y):=by simp
   have c0:w2.cell? ⟨wr.heap.size,0,none⟩=some (.int .u16 x):=(hbut.cell (by simp;omega)).trans e0
   have c1:w2.cell? ⟨wr.heap.size,1,none⟩=some (.int .u32 y):=(hbut.cell (by simp;omega)).trans e1
   have hW2:Zq w2 s r T L:=hW1.drew.but hbut (by omega) (by have:=hW.map.lt;omega)
   have hB2:Below w.heap.size w w2:=But.below' hB1.drew hbut (Nat.le_refl _)
   go_wp2
   go_region_held3 (λW=>Zq W s r T L∧W.cell? ⟨wr.heap.size,0,none⟩=some (.int .u16 x)∧W.cell? ⟨wr.heap.size,1,none⟩=some (.int .u32 y)) (first | exact ⟨hW1.drew,e0,e1⟩ | exact ⟨hW2,c0,c1⟩) (fail)
   go_wp2
   go_roundw
   case rel=>exact ⟨k+1,_,by omega,by go_num,hL.out.trans HL1.out,hM2,hB2⟩
   case measure=>simp [intOf];omega
  ·have hend:Hid (Xp L [] xs=M):=by
    have:=hL.out
    rw [List.drop_eq_nil_of_le (by omega)] at this
    exact this
   obtain ⟨g0,g1,g2,-⟩:=hWr
   go_wp2
   have hbs:But s wr (wr.setCell ⟨s,1,none⟩ (.map (some w.heap.size))):=⟨rfl,rfl,rfl,by simp,λk hk=>Below.heap_setCell _ _ _ _ hk⟩
   refine bodyPost_end (results_none rfl _ _ _) rfl ⟨_,rfl,Nat.le_refl _,⟨?_,?_,?_,?_⟩,(Mut.of_below hb).trans (Mut.of_but hbs rfl)⟩
   ·rw [off2 (by omega)];exact g0
   ·exact World.cell?_setCell_same _ _ _ g1
   ·simp [g2]
   ·rw [hend.out];exact hM.setCell (by simp;omega) _
def tickL (T:Int) (L:List (Pid × Int)):List (Pid × Int):=L.map λp=>(p.1,min (p.2+1) T)
def YY (T:Int) (todo:List Pid) (L:List (Pid × Int)):List (Pid × Int):=L.map λp=>if p.1∈todo then p else (p.1,min (p.2+1) T)
theorem JM (T:Int) (todo:List Pid) (L:List (Pid × Int)):keys (YY T todo L)=keys L:=by
 unfold keys YY
 rw [List.map_map]
 apply List.map_congr_left
 intro p _
 dsimp only [Function.comp]
 split <;> rfl
theorem zbv (T:Int) (L:List (Pid × Int)):YY T (keys L) L=L:=by
 unfold YY
 conv=>rhs;rw [←List.map_id L]
 apply List.map_congr_left
 intro p hp
 have:p.1∈keys L:=List.mem_map_of_mem (f:=λx:Pid × Int=>x.1) hp
 rw [if_pos this];rfl
theorem zaV (T:Int) (L:List (Pid × Int)):YY T [] L=tickL T L:=by
 unfold YY tickL
 apply List.map_congr_left
 intro p _
 rw [if_neg (by simp)]
theorem JL {x:Pid} {u:Int}:∀{L:List (Pid × Int)},(keys L).Nodup→∀{n:Int},(x,n)∈L→ins x u L=L.map λp=>if p.1=x then (x,u) else p
 | [],_,_,h=>by simp at h
 | p :: l,hn,n,h=>by
  obtain ⟨h1,h2⟩:=List.nodup_cons.1 hn
  by_cases hp:x=p.1
  ·simp only [ins,if_pos hp,List.map_cons,if_pos hp.symm]
   congr 1
   conv=>lhs;rw [←List.map_id l]
   apply List.map_congr_left
   intro q hq
   rw [if_neg];· rfl
   intro e
   apply h1
   show p.1∈_
   rw [←hp,← e]
   exact List.mem_map_of_mem (f:=λx:Pid × Int=>x.1) hq
  ·simp only [ins,if_neg hp,List.map_cons,if_neg (Ne.symm hp)]
   rw [JL h2 (n:=n) ((List.mem_cons.1 h).elim (λh=>absurd (congrArg Prod.fst h) hp) id)]
theorem VE {x:Pid} {n:Int}:∀{L:List (Pid × Int)},(keys L).Nodup→(x,n)∈L→Yz x L=some n
 | [],_,h=>by simp at h
 | p :: l,hn,h=>by
  obtain ⟨h1,h2⟩:=List.nodup_cons.1 hn
  rcases List.mem_cons.1 h with h | h
  ·subst h;simp [Yz]
  ·have:x≠p.1:=λe=>h1 (by show p.1∈_;rw [←e];exact List.mem_map_of_mem (f:=λx:Pid × Int=>x.1) h)
   simp only [Yz,if_neg this]
   exact VE h2 h
theorem zae {T:Int} {L:List (Pid × Int)} (hn:(keys L).Nodup) {s u:List Pid} {x:Pid} {n:Int} (hx:(x,n)∈L) (hd:x ∉ s ++ u) :
  ins x (min (n+1) T) (YY T (s ++ x :: u) L)=YY T (s ++ u) L:=by
 have hk:(keys (YY T (s ++ x :: u) L)).Nodup:=by rw [JM];exact hn
 have hm:(x,n)∈YY T (s ++ x :: u) L:=List.mem_map.2 ⟨(x,n),hx,by rw [if_pos (by simp)]⟩
 rw [JL hk hm]
 unfold YY
 rw [List.map_map]
 apply List.map_congr_left
 intro p hp
 dsimp only [Function.comp]
 by_cases hpx:p.1=x
 ·have:p=(x,n):=by
   have h1:=VE hn hp
   have h2:=VE hn hx
   rw [hpx,h2] at h1
   exact Prod.ext hpx (Option.some.inj h1).symm
  subst this
  simp at hd
  simp [hd]
 ·by_cases h1:p.1∈s ++ u
  ·have h2:p.1∈s ++ x :: u:=by
    rcases List.mem_append.1 h1 with h | h
    ·exact List.mem_append_left _ h
    ·exact List.mem_append_right _ (List.mem_cons_of_mem _ h)
   simp only [h1,h2,if_true,hpx,if_false]
  ·have h2:p.1 ∉ s ++ x :: u:=by
    intro h
    rcases List.mem_append.1 h with h | h
    ·exact h1 (List.mem_append_left _ h)
    ·rcases List.mem_cons.1 h with h | h
     ·exact hpx h
     ·exact h1 (List.mem_append_right _ h)
   simp only [h1,h2,if_false,hpx]
theorem Mut.thenBut {F:Nat→Prop} {a b c:World} {t:Nat} (h:Mut F a b) (k:But t b c) (ht:a.heap.size≤t):Mut F a c :=
 ⟨k.os.trans h.os,k.tape.trans h.tape,k.output.trans h.output,by rw [k.size];exact h.size,λi hi hf=>(k.block i (by omega)).trans (h.block i hi hf)⟩
theorem pidV_inj (x y:Pid) (h:Yg x=Yg y):x=y:=by
 obtain ⟨a,b⟩:=x
 obtain ⟨c,d⟩:=y
 simpa using h
set_option maxRecDepth 100000 in
set_option maxHeartbeats 1600000 in
theorem tick_any (s r:Nat) (T:Int) (L:List (Pid × Int)) (w:World) (hW:Zq w s r T L) (hnd:(keys L).Nodup) (hb:∀p∈L,0≤p.2∧p.2≤4611686018427387904) :
  Calls Tryz.prog 44 #[.pointer (some ⟨s,0,none⟩)] w λe w'=>e=.returned (.tuple #[])∧Zq w' s r T (tickL T L)∧Mut (λk=>k=r) w w':=by
 have hsl:=hW.lt
 have hrl:=hW.map.lt
 have hsr:=hW.ne
 obtain ⟨g0,g1,g2,hM⟩:=hW
 have HND:=hid hnd
 have HB:=hid hb
 clear hnd hb
 go_enter Tryz.func44,Tryz.ntmps44
 go_wp2_with (at_range;refine Yo hM Tryz.underlying170 rfl rfl rfl ?_;intro w0 hR0 hb0)
 go_frame
 go_loopw [] (λwr=>∃(left:List (Pid × Int)),Zn wr r w.heap.size Yg eI (YY T (keys left) L) left∧Hid (left.Sublist L)∧Mut (λk=>k=r) w wr) (λwr=>wr.rangeLeft r w.heap.size)
 case atStart=>exact ⟨L,by rw [zbv];exact hR0,(show L.Sublist L from List.Sublist.refl _),Mut.of_below hb0⟩
 case round =>
  obtain ⟨left,hR,hSub,hmut⟩:=hrel
  have HLM:=hid hR.left_eq
  have hlt:=hR.lt
  go_wp2_with (at_next;refine Yh hR rfl rfl rfl ?_ ?_)
  ·intro hl
   have hM':=hR.map
   rw [hl.out,show keys ([]:List (Pid × Int))=[] from rfl,zaV] at hM'
   have hW':Zq wr s r T (tickL T L):=⟨(hmut.cell (by exact hsl) (by exact hsr)).trans g0,(hmut.cell (by exact hsl) (by exact hsr)).trans g1,(World.frozen?_of_block (w:=w) (hmut.block s hsl hsr)).trans g2,hM'⟩
   go_wp2
   exact bodyPost_end (results_none rfl _ _ _) rfl ⟨rfl,hW',hmut⟩
  ·intro x y n s1 s2 w1 hl hR1 hbut hen
   have hmem:((x,y),n)∈left:=by rw [hl.out];simp
   have hmL:((x,y),n)∈L:=hSub.out.subset hmem
   obtain ⟨n0,n1⟩:=HB.out _ hmL
   simp only at n0 n1
   have hkl:(keys left).Nodup:=HND.out.sublist (hSub.out.map _)
   have hkeys:keys left=keys s1 ++ (x,y) :: keys s2:=by rw [hl.out];simp [keys]
   have hnot:(x,y) ∉ keys s1 ++ keys s2:=by
    rw [hkeys] at hkl
    intro h
    have:=(List.nodup_append.1 hkl)
    rcases List.mem_append.1 h with h | h
    ·exact this.2.2 _ h _ (List.mem_cons_self ..) rfl
    ·exact (List.nodup_cons.1 this.2.1).1 h
   have hnot2:∀p∈s1 ++ s2,p.1≠(x,y):=by
    intro p hp e
    apply hnot
    rw [←e,show keys s1 ++ keys s2=keys (s1 ++ s2) by simp [keys]]
    exact List.mem_map_of_mem (f:=λx:Pid × Int=>x.1) hp
   have hlk:(Yz (x,y) (YY T (keys left) L)).isSome=true:=by
    rw [ZM,JM]
    exact List.mem_map_of_mem (f:=λx:Pid × Int=>x.1) hmL
   have hstep:ins (x,y) (min (n+1) T) (YY T (keys left) L)=YY T (keys (s1 ++ s2)) L:=by
    rw [hkeys,zae HND.out hmL hnot];simp [keys]
   obtain ⟨w2,hrun,hR2,hbut2⟩:=(hR1.alloc (.cells #[.int .u16 x,.int .u32 y] 25)).ext (Below.refl _ _).drew |>.update Xa pidV_inj Tryz.underlying170 (x,y) (min (n+1) T) hlk hnot2
   rw [hstep] at hR2
   have HSZ:=hid hbut.size
   have hst:s≠w.heap.size:=by omega
   have d0:w1.cell? ⟨s,0,none⟩=some (.int .i64 T):=(hbut.cell (by exact hst)).trans ((hmut.cell (by exact hsl) (by exact hsr)).trans g0)
   have d1:w1.cell? ⟨s,1,none⟩=some (.map (some r)):=(hbut.cell (by exact hst)).trans ((hmut.cell (by exact hsl) (by exact hsr)).trans g1)
   have hB1:Below w1.heap.size w1 (w1.alloc (.cells #[.int .u16 x,.int .u32 y] 25)).drew:=(bra).drew
   have e0:=ZG d0 hB1
   have e1:=ZG d1 hB1
   have e2:(w1.alloc (.cells #[.int .u16 x,.int .u32 y] 25)).drew.cell? ⟨w1.heap.size,0,none⟩=some (.int .u16 x):=by simp
   have e3:(w1.alloc (.cells #[.int .u16 x,.int .u32 y] 25)).drew.cell? ⟨w1.heap.size,1,none⟩=some (.int .u32 y):=by simp
   have hrw1:r<w1.heap.size:=hR1.map.lt
   have k0:=(hbut2.cell (p:=⟨s,0,none⟩) (by exact hsr)).trans e0
   have k1:=(hbut2.cell (p:=⟨s,1,none⟩) (by exact hsr)).trans e1
   have k2:=(hbut2.cell (p:=⟨w1.heap.size,0,none⟩) (by simp;omega)).trans e2
   have k3:=(hbut2.cell (p:=⟨w1.heap.size,1,none⟩) (by simp;omega)).trans e3
   have HST:=hid hR2
   have HSUB:Hid ((s1 ++ s2).Sublist L):=hid (List.Sublist.trans (by rw [hl.out];simp) hSub.out)
   have HLEN:Hid (left.length=s1.length+1+s2.length):=hid (by rw [hl.out];simp;omega)
   have hmut2:Mut (λk=>k=r) w w2:=((hmut.thenBut hbut (Nat.le_refl _)).trans (Mut.of_below hB1)).trans (Mut.of_but hbut2 rfl)
   clear hmem hmL hkl hkeys hnot hnot2 hlk hstep hR2 d0 d1
   have hsum:IntKind.i64.wrap (n+1)=n+1:=IntWalk.i64_in _ (by omega)
   go_wp2
   go_region_held3 (λW=>W.cell? ⟨s,0,none⟩=some (.int .i64 T)∧W.cell? ⟨s,1,none⟩=some (.map (some r))∧W.cell? ⟨w1.heap.size,0,none⟩=some (.int .u16 x)∧W.cell? ⟨w1.heap.size,1,none⟩=some (.int .u32 y)) (first | exact ⟨e0,e1,e2,e3⟩ | exact ⟨k0,k1,k2,k3⟩) (fail)
   have HL2:=hid HST.out.left_eq
   go_wp2
   go_roundw
   case rel=>exact ⟨s1 ++ s2,HST.out,HSUB,hmut2⟩
   case measure=>rw [HL2.out,HLM.out,HLEN.out];simp <;> omega
def Jg (T:Int) (L:List (Pid × Int)):List Pid:=keys (L.filter λp=>decide (T≤p.2))
set_option maxRecDepth 100000 in
set_option maxHeartbeats 1600000 in
theorem late_any (s r:Nat) (T:Int) (L:List (Pid × Int)) (w:World) (hW:Zq w s r T L) (hnd:(keys L).Nodup) (hok:∀p∈keys L,ok p) (hn:L.length≤549755813888) :
  Calls Tryz.prog 46 #[.pointer (some ⟨s,0,none⟩)] w λe w'=>∃v,e=.returned v∧Zy w' w.heap.size v (YS (Jg T L))∧Below w.heap.size w w':=by
 obtain ⟨g0,g1,-,hM⟩:=hW
 have hsl:s<w.heap.size:=World.block_lt_of_cell? w _ g0
 have HND:=hid hnd
 have HOK:=hid hok
 clear hnd hok
 go_enter Tryz.func46,Tryz.ntmps46
 go_wp2_with (at_range;refine Yo hM Tryz.underlying170 rfl rfl rfl ?_;intro w0 hR0 hb0)
 go_frame
 have hs0:=hb0.size
 have ht0:=hR0.lt
 go_loopw [3] (λv wr=>∃(got:List Pid) (left:List (Pid × Int)),Zn wr r w.heap.size Yg eI L left∧Zy wr w.heap.size v got∧Hid ((got ++ Jg T left).Perm (Jg T L))∧got.length+left.length≤L.length∧Below w.heap.size w wr∧w.heap.size<wr.heap.size) (λ_ wr=>wr.rangeLeft r w.heap.size)
 case atStart=>exact ⟨[],L,hR0,Zy.nil _ _,(show ([] ++ Jg T L).Perm (Jg T L) from List.Perm.refl _),by simp,hb0,ht0⟩
 case round =>
  obtain ⟨got,left,hR,hown,hP,hlen,hb,hlt⟩:=hrel
  have HLEN:=hid hlen
  have hgl:got.length≤L.length:=by omega
  have hlm:=hR.left_eq
  have HLM:=hid hlm
  clear hlen hlm
  have k0:=ZG g0 hb
  go_wp2_with (at_next;refine Yh hR rfl rfl rfl ?_ ?_)
  ·intro hl
   have hgp:got.Perm (Jg T L):=by have:=hP.out;rw [hl.out] at this;simpa [Jg,keys] using this
   have hsub:(Jg T L).Sublist (keys L):=by unfold Jg keys;exact List.Sublist.map _ List.filter_sublist
   have hgn:got.Nodup:=hgp.symm.nodup (HND.out.sublist hsub)
   have hgo:∀p∈got,ok p:=λp hp=>HOK.out p (hsub.subset (hgp.mem_iff.1 hp))
   have hsq:FR got=YS (Jg T L):=by rw [KT hgn];exact JA hgp hgo
   have HSQ:=hid hsq
   have HGO:=hid hgo
   obtain ⟨a,c,rfl,hrow,-⟩:=hown.row
   clear hgp hgn hsq hgo hsub
   go_wp2_with (go_at_call 35;refine (Qc a c got _ (by omega) hrow HGO.out).mono ?_;rintro e w3 ⟨v,rfl,hown3,hb3⟩)
   go_ret
   exact ⟨_,rfl,by rw [←HSQ.out];exact hown3.mono (by omega),hb.trans (hb3.mono (by omega))⟩
  ·intro x y n s1 s2 w1 hl hR1 hbut hen
   have hown1:=hown.butT hbut (hown.ne_iter hR)
   have HSZ:=hid hbut.size
   have q0:=(hbut.cell (p:=⟨s,0,none⟩) (by simp;omega)).trans k0
   have hsw1:s<w1.heap.size:=by rw [HSZ.out];omega
   have hlq:Hid (left.length=s1.length+1+s2.length):=hid (by rw [hl.out];simp;omega)
   by_cases hT:T≤n
   ·have hT':decide (T≤n)=true:=by simpa using hT
    have hone:Zb ((w1.alloc (.cells #[.int .u16 x,.int .u32 y] 25)).alloc (.cells #[.int .u16 x,.int .u32 y] 25)) (some ⟨w1.heap.size+1,0,none⟩) [(x,y)]:=Zb.one' _ (by simp) x y
    go_wp2_with (at_builtin;refine ZQ ((hown1.alloc _).alloc _) hone ?cb ?cz rfl rfl rfl rfl ?_;rotate_right;intro v4 w4 hown4 hg4 hnil4)
    case cb=>simp;omega
    case cz=>have:=HSZ.out;simp;omega
    have hsz1:=HSZ.out
    have hB4:Below w.heap.size w w4:=(((But.below' hb hbut (Nat.le_refl _)).alloc (by omega) _).alloc (by simp;omega) _).grown hg4 (by simp;omega) (λg hg=>(World.ownsRow.lt hown g hg).1)
    have hR4:=((hR1.alloc (.cells #[.int .u16 x,.int .u32 y] 25)).alloc (.cells #[.int .u16 x,.int .u32 y] 25)).grown ((hown1.alloc _).alloc _) hg4
    have hlt4:=hR4.lt
    have HLM4:=hid hR4.left_eq
    go_roundw
    case rel =>
     refine ⟨got ++ [(x,y)],s1 ++ s2,hR4,hown4,hid ?_,by have:=HLEN.out;have:=hlq.out;simp;omega,hB4,hlt4⟩
     refine List.Perm.trans ?_ hP.out
     rw [hl.out]
     simp only [Jg,keys,List.filter_append,List.filter_cons,hT',if_true,List.map_append,List.map_cons,List.append_assoc,List.cons_append,List.nil_append]
     exact List.Perm.append_left _ List.perm_middle.symm
    case measure=>rw [HLM4.out,HLM.out,hlq.out];simp <;> omega
   ·have hT':decide (T≤n)=false:=by simpa using hT
    go_wp2
    have hsz1:=HSZ.out
    have hB4:Below w.heap.size w (w1.alloc (.cells #[.int .u16 x,.int .u32 y] 25)):=(But.below' hb hbut (Nat.le_refl _)).alloc (by omega) _
    have hR4:=hR1.alloc (.cells #[.int .u16 x,.int .u32 y] 25)
    have hlt4:=hR4.lt
    have HLM4:=hid hR4.left_eq
    go_roundw
    case rel =>
     refine ⟨got,s1 ++ s2,hR4,hown1.alloc _,hid ?_,by have:=HLEN.out;have:=hlq.out;simp;omega,hB4,hlt4⟩
     refine List.Perm.trans ?_ hP.out
     rw [hl.out]
     simp only [Jg,keys,List.filter_append,List.filter_cons,hT',Bool.false_eq_true,if_false,List.map_append,List.append_assoc]
     exact List.Perm.refl _
    case measure=>rw [HLM4.out,HLM.out,hlq.out];simp <;> omega
theorem zd0 {α β:Type} [DecidableEq α] {x:α}:∀{L:List (α × β)} {i j:Nat} {v:β},Yk x L i=some (j,v)→del x L=L.eraseIdx (j - i)
 | [],_,_,_,h=>by simp [Yk] at h
 | p :: l,i,j,v,h=>by
  simp only [Yk] at h
  split at h
  ·next hx =>
   simp only [Option.some.injEq,Prod.mk.injEq] at h
   obtain ⟨rfl,_⟩:=h
   simp [del,hx]
  ·next hx =>
   have h1:=Xo h
   have e:j - i=(j - (i+1))+1:=by omega
   rw [e]
   simp only [del,if_neg hx,List.eraseIdx_cons_succ,zd0 h]
theorem FO {α β:Type} [DecidableEq α] {x:α}:∀{L:List (α × β)} {i:Nat},Yk x L i=none→del x L=L
 | [],_,_=>rfl
 | p :: l,i,h=>by
  simp only [Yk] at h
  split at h
  ·simp at h
  ·next hx=>simp [del,if_neg hx,FO h]
theorem VN {α β:Type} (f:α→β):∀(l:List α) (j:Nat),(l.eraseIdx j).map f=(l.map f).eraseIdx j
 | [],_=>rfl
 | _ :: _,0=>rfl
 | a :: l,j+1=>by simp [VN f l j]
theorem Zj.delete {α β:Type} [DecidableEq α] {ke:α→Value} {ve:β→Value} {P:Program} {K:TypeId} {w:World} {r:Nat} {L:List (α × β)} (h:Zj w r ke ve L) (kk:Kz P K ke) {t e:TypeId} (ht:P.underlying t=some (.map K e)) (x:α) :
  ∃w',(∀ty,(Builtin.delete_ #[t,K] ty #[.map (some r),ke x]).run P w=.ok (.tuple #[]) w')∧Zj w' r ke ve (del x L)∧But r w w':=by
 obtain ⟨es,clock,hb,he,hbn⟩:=h
 have hf:=Kq (w:=w) kk he x
 cases hq:Yk x L 0 with
 | none =>
  rw [hq] at hf
  refine ⟨{ w with heap:=w.heap.setIfInBounds r (.map es clock) },λty=>by simp [Builtin.delete_,run_underlying ht,MapKept.run_getObj_map hb,kk.check,hf,MapKept.run_setObj_map _ hb,Result.andThen],⟨_,_,(MapKept.heap_set hb).1,by rw [FO hq];exact he,hbn⟩,But.of_set _ _ _⟩
 | some q =>
  obtain ⟨j,u⟩:=q
  rw [hq] at hf
  have hlen:es.toList.length=L.length:=by simpa using congrArg List.length he
  have hj:j<es.size:=by have:=(Xo hq).2.1;simp at hlen;omega
  refine ⟨{ w with heap:=w.heap.setIfInBounds r (.map (es.eraseIdxIfInBounds j) clock) },λty=>by simp [Builtin.delete_,run_underlying ht,MapKept.run_getObj_map hb,kk.check,hf,MapKept.run_setObj_map _ hb,Result.andThen],⟨_,_,(MapKept.heap_set hb).1,?_,?_⟩,But.of_set _ _ _⟩
  ·rw [zd0 hq,Nat.sub_zero]
   have:(es.eraseIdxIfInBounds j).toList=es.toList.eraseIdx j:=by simp [Array.eraseIdxIfInBounds,hj,Array.toList_eraseIdx]
   rw [this,VN,he,VN]
  ·have:(es.eraseIdxIfInBounds j).toList=es.toList.eraseIdx j:=by simp [Array.eraseIdxIfInBounds,hj,Array.toList_eraseIdx]
   have hs:(es.toList.eraseIdx j).Sublist es.toList:=List.eraseIdx_sublist _ _
   exact ⟨by rw [this];exact hbn.1.sublist (hs.map _),λe he'=>hbn.2 e (hs.subset (by rw [←this];exact he'))⟩
end Go.Proofs.YtcdpaflmofljaaaGreat
