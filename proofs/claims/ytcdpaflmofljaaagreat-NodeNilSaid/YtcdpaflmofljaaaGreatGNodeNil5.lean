import Derived.Test.YtcdpaflmofljaaaGreatGNodeNil4
import Derived.Deep.DeepCutAuto
/- Parts of the proof of NodeNil: X35. -/
namespace Go.Proofs.YtcdpaflmofljaaaGreat
open Go.RowKit
theorem Zy.put4 {w:World} {base b:Nat} {v:Value} {xs:List Pid} {u0 u1 u2 u3:Value} (h:Zy w base v xs) (hb:∀g,v.ownBlock=some g→g≠b):Zy ((((w.setCell ⟨b,0,none⟩ u0).setCell ⟨b,1,none⟩ u1).setCell ⟨b,2,none⟩ u2).setCell ⟨b,3,none⟩ u3) base v xs :=
 h.mutN (mutV w b u0 u1 u2 u3) (λg hg e=>hb g hg e)
theorem Yy {B:Nat} {w W:World} {b:Nat} {u0 u1 u2 u3:Value} (h:Below B w W) (hb:B≤b):Below B w ((((W.setCell ⟨b,0,none⟩ u0).setCell ⟨b,1,none⟩ u1).setCell ⟨b,2,none⟩ u2).setCell ⟨b,3,none⟩ u3) :=
 Zi (Zi (Zi (Zi h hb) hb) hb) hb
structure zax (W2 wx:World) (b3:Nat) (i:Int) (vm vd:Value) (V:Zs):Prop where
 bx:VQ wx b3 (.int .u64 i) vm (.slice none 0 0) vd
 om:Zy wx W2.heap.size vm V.ms
 od:Zy wx W2.heap.size vd V.ds
 nm:∀g,vm.ownBlock=some g→g≠b3
 nd:∀g,vd.ownBlock=some g→g≠b3
 nn:∀g,vm.ownBlock=some g→vd.ownBlock≠some g
 le:W2.heap.size≤b3
 b:Below W2.heap.size W2 wx
theorem zax.of {W2 w7:World} {b3:Nat} {i:Int} {vm vd z0 z1 z2 z3:Value} {V:Zs} (bx:VQ w7 b3 z0 z1 z2 z3) (om:Zy w7 W2.heap.size vm V.ms) (od:Zy w7 W2.heap.size vd V.ds) (nm:∀g,vm.ownBlock=some g→g≠b3) (nd:∀g,vd.ownBlock=some g→g≠b3) (nn:∀g,vm.ownBlock=some g→vd.ownBlock≠some g) (le:W2.heap.size≤b3) (b:Below W2.heap.size W2 w7) :
  zax W2 ((((w7.setCell ⟨b3,0,none⟩ (.int .u64 i)).setCell ⟨b3,1,none⟩ vm).setCell ⟨b3,2,none⟩ (.slice none 0 0)).setCell ⟨b3,3,none⟩ vd) b3 i vm vd V :=
 ⟨bx.put _ _ _ _,om.put4 nm,od.put4 nd,nm,nd,nn,le,Yy b le⟩
theorem zax.made {W2 w7:World} {i:Int} {vm vd:Value} {V:Zs} (om:Zy w7 W2.heap.size vm V.ms) (od:Zy w7 W2.heap.size vd V.ds) (nn:∀g,vm.ownBlock=some g→vd.ownBlock≠some g) (b:Below W2.heap.size W2 w7) :
  zax W2 (w7.alloc (.cells #[.int .u64 i,vm,.slice none 0 0,vd] 35)) w7.heap.size i vm vd V :=
 ⟨VQ.made _ _ _ _ _ _,om.ext (bra),od.ext (bra),λg hg e=>by have:=(om.blk hg).2;omega,λg hg e=>by have:=(od.blk hg).2;omega,nn,b.size,b.alloc b.size _⟩
set_option maxRecDepth 100000 in
set_option maxHeartbeats 12800000 in
theorem JN {V:Zs} {i:Nat} {am al ad:Option Addr} {cm cl cd:Nat} {w:World} (hi:V.id=(i:Int)) (hV:Zt w am al ad V) (hm:V.ms.length≤549755813888) (hd:V.ds.length≤549755813888) (hl:V.ls.length≤549755813888) (hle:∀l∈V.ls,l.length≤549755813888) :
  Calls Tryz.prog 38 #[.agg #[.int .u64 i,.slice am V.ms.length cm,.slice al V.ls.length cl,.slice ad V.ds.length cd]] w λe w'=>∃(vm vl vd:Value) (B:Nat),e=.returned (.agg #[.int .u64 i,vm,vl,vd])∧Zy w' w.heap.size vm V.ms∧Xz w' B vl V.ls∧Zy w' w.heap.size vd V.ds∧(∀g,vm.ownBlock=some g→g<B)∧(∀g,vd.ownBlock=some g→g<B)∧(∀g,vm.ownBlock=some g→vd.ownBlock≠some g)∧w.heap.size≤B∧Below w.heap.size w w':=by
 obtain ⟨W2,hW2⟩:∃W2,((w.alloc (.cells #[.int .u64 i,.slice am V.ms.length cm,.slice al V.ls.length cl,.slice ad V.ds.length cd] 35)).alloc (.cells #[.int .u64 0,.slice none 0 0,.slice none 0 0,.slice none 0 0] 35))=W2:=⟨_,rfl⟩
 have hB2:Below w.heap.size w W2:=by rw [←hW2];exact (bra).alloc (by simp) _
 have hz2:W2.heap.size=w.heap.size+1+1:=by rw [←hW2];simp
 have x1:VQ W2 w.heap.size (.int .u64 i) (.slice am V.ms.length cm) (.slice al V.ls.length cl) (.slice ad V.ds.length cd):=by
  rw [←hW2];exact (VQ.made _ _ _ _ _ _).ext (bra)
 have x2:VQ W2 (w.heap.size+1) (.int .u64 0) (.slice none 0 0) (.slice none 0 0) (.slice none 0 0):=by
  rw [←hW2]
  have:=VQ.made (w.alloc (.cells #[.int .u64 i,.slice am V.ms.length cm,.slice al V.ls.length cl,.slice ad V.ds.length cd] 35)) 35 (.int .u64 0) (.slice none 0 0) (.slice none 0 0) (.slice none 0 0)
  simpa using this
 have hV2:=hV.ext hB2
 have CM:Hid (∀W,Below W2.heap.size W2 W→Calls Tryz.prog 86 #[.slice am V.ms.length cm] W λe w'=>∃v,e=.returned v∧Zy w' W.heap.size v V.ms∧Below W.heap.size W w'):=hid λW h=>Jb hm (hV2.ms.ext h)
 have CD:Hid (∀W,Below W2.heap.size W2 W→Calls Tryz.prog 86 #[.slice ad V.ds.length cd] W λe w'=>∃v,e=.returned v∧Zy w' W.heap.size v V.ds∧Below W.heap.size W w'):=hid λW h=>Jb hd (hV2.ds.ext h)
 have HS:Hid (∀W,Below W2.heap.size W2 W→W.cell? ⟨w.heap.size,0,none⟩=some (.int .u64 i)∧W.cell? ⟨w.heap.size,1,none⟩=some (.slice am V.ms.length cm)∧W.cell? ⟨w.heap.size,3,none⟩=some (.slice ad V.ds.length cd)):=hid λW h=>⟨Zk x1.c0 h,Zk x1.c1 h,Zk x1.c3 h⟩
 have H0:Below W2.heap.size W2 W2.drew:=(Below.refl _ _).drew
 have HV2:=hid hV2
 have X1:=hid x1
 have X2:=hid x2
 have HB2:=hid hB2
 have HZ2:=hid hz2
 have HLE:=hid hle
 obtain ⟨nl,hnl⟩:∃k,V.ls.length=k:=⟨_,rfl⟩
 have HNL:=hid hnl
 clear x1 x2 hB2 hz2 hV2 hle hm hd hV hi
 rw [hnl] at X1 hW2 hl ⊢
 clear hnl
 go_enter Tryz.func38,Tryz.ntmps38
 go_upto_region 1 with fail
 go_cut [3] (λsl wx=>∃(b3:Nat) (a4 a7:Option Addr) (k4 k7:Nat),sl=.pointer (some ⟨b3,0,none⟩)∧zax W2 wx b3 i (.slice a4 V.ms.length k4) (.slice a7 V.ds.length k7) V)
 case first =>
  refine rhd HS.out H0 λhHeld=>?_
  refine tkv 0 (.pointer (some ⟨w.heap.size,0,none⟩)) rfl ?_
  refine tkv 1 (.int .u64 i) rfl ?_
  refine tkv 2 (.pointer (some ⟨w.heap.size,1,none⟩)) rfl ?_
  refine tkv 3 (.slice am V.ms.length cm) rfl ?_
  refine tkv 5 (.pointer (some ⟨w.heap.size,3,none⟩)) rfl ?_
  refine tkv 6 (.slice ad V.ds.length cd) rfl ?_
  refine rd (rs:=[4,9]) ?_
  refine AllReadyH.cons (o:=_) rfl (λK hK=>?_) (AllReadyH.cons (o:=_) rfl (λK hK=>?_) AllReadyH.nil)
  ·go_simp
   refine (CM.out _ H0).mono ?_
   rintro e w4 ⟨v4,rfl,ho4,hb4⟩
   obtain ⟨a4,k4,e4,-,-⟩:=ho4.row
   subst e4
   have h24:=H0.trans (hb4.mono H0.size)
   refine hK.out _ _ (HS.out _ (h24)) (λhHeld=>?_)
   clear hK K
   try simp only [lay]
   refine rd (rs:=[7,9]) ?_
   refine AllReadyH.cons (o:=_) rfl (λK hK=>?_) (AllReadyH.cons (o:=_) rfl (λK hK=>?_) AllReadyH.nil)
   ·go_simp
    refine (CD.out _ h24).mono ?_
    rintro e w7 ⟨v7,rfl,ho7,hb7⟩
    obtain ⟨a7,k7,e7,-,-⟩:=ho7.row
    subst e7
    have h27:=h24.trans (hb7.mono h24.size)
    refine hK.out _ _ (HS.out _ (h27)) (λhHeld=>?_)
    clear hK K
    try simp only [lay]
    refine tkv 8 (.agg #[.int .u64 i,.slice a4 V.ms.length k4,.slice none 0 0,.slice a7 V.ds.length k7]) rfl ?_
    refine rd1 9 rfl λK hK=>?_
    go_simp
    have h29:Below W2.heap.size W2 (w7.alloc (.cells #[.int .u64 0,.slice none 0 0,.slice none 0 0,.slice none 0 0] 35)):=h27.alloc h27.size _
    have x9:VQ (w7.alloc (.cells #[.int .u64 0,.slice none 0 0,.slice none 0 0,.slice none 0 0] 35)) w7.heap.size (.int .u64 0) (.slice none 0 0) (.slice none 0 0) (.slice none 0 0):=VQ.made w7 _ _ _ _ _
    refine hK.out _ _ (HS.out _ (h29)) (λhHeld=>?_)
    clear hK K
    try simp only [lay]
    refine rd1 10 rfl λK hK=>?_
    go_simp
    refine hK.out _ _ (HS.out _ (h27.alloc h27.size _)) (λhHeld=>?_)
    clear hK K
    try simp only [lay]
    refine dn ?_
    go_wp2_with fail
    go_meet
    exact ⟨_,_,_,_,_,rfl,zax.made ((ho4.ext hb7).mono2 H0.size) (ho7.mono2 h24.size) (λg h1 h2=>by have:=(ho4.blk h1).2;have:=(ho7.blk h2).1;omega) h27⟩
   ·go_simp
    have hq9:Below w4.heap.size w4 (w4.alloc (.cells #[.int .u64 0,.slice none 0 0,.slice none 0 0,.slice none 0 0] 35)):=bra
    have h29:Below W2.heap.size W2 (w4.alloc (.cells #[.int .u64 0,.slice none 0 0,.slice none 0 0,.slice none 0 0] 35)):=h24.trans (hq9.mono h24.size)
    have x9:VQ (w4.alloc (.cells #[.int .u64 0,.slice none 0 0,.slice none 0 0,.slice none 0 0] 35)) w4.heap.size (.int .u64 0) (.slice none 0 0) (.slice none 0 0) (.slice none 0 0):=VQ.made w4 _ _ _ _ _
    have s9:(w4.alloc (.cells #[.int .u64 0,.slice none 0 0,.slice none 0 0,.slice none 0 0] 35)).heap.size=w4.heap.size+1:=by simp
    refine hK.out _ _ (HS.out _ (h29)) (λhHeld=>?_)
    clear hK K
    try simp only [lay]
    refine rd1 7 rfl λK hK=>?_
    go_simp
    refine (CD.out _ h29).mono ?_
    rintro e w7 ⟨v7,rfl,ho7,hb7⟩
    obtain ⟨a7,k7,e7,-,-⟩:=ho7.row
    subst e7
    have h27:=h29.trans (hb7.mono h29.size)
    have x7:=x9.ext hb7
    refine hK.out _ _ (HS.out _ (h27)) (λhHeld=>?_)
    clear hK K
    try simp only [lay]
    refine tkv 8 (.agg #[.int .u64 i,.slice a4 V.ms.length k4,.slice none 0 0,.slice a7 V.ds.length k7]) rfl ?_
    refine rd1 10 rfl λK hK=>?_
    have z0:=x7.c0
    have z1:=x7.c1
    have z2:=x7.c2
    have z3:=x7.c3
    have f0:=x7.f0
    have f1:=x7.f1
    have f2:=x7.f2
    have f3:=x7.f3
    go_simp
    refine hK.out _ _ (HS.out _ (Yy h27 h24.size)) (λhHeld=>?_)
    clear hK K
    try simp only [lay]
    refine dn ?_
    go_wp2_with fail
    go_meet
    exact ⟨_,_,_,_,_,rfl,zax.of x7 (((ho4.ext hq9).ext hb7).mono2 H0.size) (ho7.mono2 (by have:=h24.size;omega)) (λg hg e=>by have:=(ho4.blk hg).2;omega) (λg hg e=>by have:=(ho7.blk hg).1;omega) (λg h1 h2=>by have:=(ho4.blk h1).2;have:=(ho7.blk h2).1;omega) h24.size h27⟩
  ·go_simp
   have h29:Below W2.heap.size W2 (W2.drew.alloc (.cells #[.int .u64 0,.slice none 0 0,.slice none 0 0,.slice none 0 0] 35)):=H0.alloc H0.size _
   have x9:VQ (W2.drew.alloc (.cells #[.int .u64 0,.slice none 0 0,.slice none 0 0,.slice none 0 0] 35)) W2.heap.size (.int .u64 0) (.slice none 0 0) (.slice none 0 0) (.slice none 0 0):=VQ.made W2.drew _ _ _ _ _
   have s9:(W2.drew.alloc (.cells #[.int .u64 0,.slice none 0 0,.slice none 0 0,.slice none 0 0] 35)).heap.size=W2.heap.size+1:=by simp
   refine hK.out _ _ (HS.out _ (h29)) (λhHeld=>?_)
   clear hK K
   try simp only [lay]
   refine rd1 4 rfl λK hK=>?_
   go_simp
   refine (CM.out _ h29).mono ?_
   rintro e w4 ⟨v4,rfl,ho4,hb4⟩
   obtain ⟨a4,k4,e4,-,-⟩:=ho4.row
   subst e4
   have h24:=h29.trans (hb4.mono h29.size)
   have x4:=x9.ext hb4
   refine hK.out _ _ (HS.out _ (h24)) (λhHeld=>?_)
   clear hK K
   try simp only [lay]
   refine rd1 7 rfl λK hK=>?_
   go_simp
   refine (CD.out _ h24).mono ?_
   rintro e w7 ⟨v7,rfl,ho7,hb7⟩
   obtain ⟨a7,k7,e7,-,-⟩:=ho7.row
   subst e7
   have h27:=h24.trans (hb7.mono h24.size)
   have x7:=x4.ext hb7
   refine hK.out _ _ (HS.out _ (h27)) (λhHeld=>?_)
   clear hK K
   try simp only [lay]
   refine tkv 8 (.agg #[.int .u64 i,.slice a4 V.ms.length k4,.slice none 0 0,.slice a7 V.ds.length k7]) rfl ?_
   refine rd1 10 rfl λK hK=>?_
   have z0:=x7.c0
   have z1:=x7.c1
   have z2:=x7.c2
   have z3:=x7.c3
   have f0:=x7.f0
   have f1:=x7.f1
   have f2:=x7.f2
   have f3:=x7.f3
   go_simp
   refine hK.out _ _ (HS.out _ (Yy h27 (Nat.le_refl _))) (λhHeld=>?_)
   clear hK K
   try simp only [lay]
   refine dn ?_
   go_wp2_with fail
   go_meet
   exact ⟨_,_,_,_,_,rfl,zax.of x7 ((ho4.ext hb7).mono2 (by omega)) (ho7.mono2 h24.size) (λg hg e=>by have:=(ho4.blk hg).1;omega) (λg hg e=>by have:=(ho7.blk hg).1;have:=hb4.size;omega) (λg h1 h2=>by have:=(ho4.blk h1).2;have:=(ho7.blk h2).1;omega) (Nat.le_refl _) h27⟩
 case rest =>
 obtain ⟨b3,a4,a7,k4,k7,rfl,hC⟩:=hcut
 rename World=>wx
 have HC:=hid hC
 have y2:=Zk X1.out.c2 hC.b
 have hb3:=hC.le
 clear hC H0 hW2
 go_wp2_with fail
 have HQ:=hid HC.out.bx.lt
 go_loopw [18] (λj wr=>∃(k:Nat) (vl:Value),k≤nl∧j=.int .i64 k∧VQ wr b3 (.int .u64 i) (.slice a4 V.ms.length k4) vl (.slice a7 V.ds.length k7)∧Xz wr wx.heap.size vl (V.ls.take k)∧Mut (λk=>k=b3∨wx.heap.size≤k) wx wr) (λi _=>nl - (intOf i).toNat)
 case atStart=>exact ⟨0,_,Nat.zero_le _,rfl,HC.out.bx,by simpa using Xz.nil _ _,Mut.refl _ _⟩
 case round =>
  obtain ⟨k,vl,hk,rfl,hbx,hown,hmut⟩:=hrel
  have hb2r:Hid (∀W,Mut (λk=>k=b3∨wx.heap.size≤k) wx W→Below W2.heap.size W2 W):=hid λW h=>HC.out.b.trans (h.below HC.out.b.size (λk e=>by have:=HC.out.b.size;rcases e with e | e <;> omega))
  have HBX:=hid hbx
  have HOWN:=hid hown
  have HMU:=hid hmut
  have hsz:wx.heap.size≤wr.heap.size:=hmut.size
  by_cases hlt:k<nl
  ·have t1:decide ((k:Int)<(nl:Int))=true:=by simpa using hlt
   have t1':decide (k<nl)=true:=by simpa using hlt
   obtain ⟨bl,ofl,ai,ci,l,rfl,hx,f1,f2⟩:=(HV2.out.ext (hb2r.out _ hmut)).ls.at (Below.refl _ _) rfl (show k<V.ls.length by rw [HNL.out];exact hlt)
   have hll:l.length≤549755813888:=HLE.out l (by rw [hx];exact List.getElem_mem _)
   have hG2:V.ls.take k ++ [l]=V.ls.take (k+1):=by
    rw [List.take_succ_eq_append_getElem (by rw [HNL.out];exact hlt),hx]
   have HG2L:Hid ((V.ls.take (k+1)).length=k+1):=hid (by rw [List.length_take,HNL.out];omega)
   have hgl:Hid ((V.ls.take k).length=k):=hid (by rw [List.length_take,HNL.out];omega)
   obtain ⟨G2,hG2'⟩:∃G2,V.ls.take (k+1)=G2:=⟨_,rfl⟩
   rw [hG2'] at hG2 HG2L
   have HG2:=hid hG2
   have HG2':=hid hG2'
   have CP:=hid (Jb (c:=ci) hll (f2.ext (Below.refl wr.heap.size wr).drew))
   have hbd:=hbx.ext (Below.refl wr.heap.size wr).drew
   have hod:=hown.ext (Below.refl wr.heap.size wr).drew
   have hmd:Mut (λk=>k=b3∨wx.heap.size≤k) wx wr.drew:=hmut.drew
   obtain ⟨y0,y1,z2d,y3,-,-,fz2,-⟩:=id hbd
   have hblk:∀g,vl.ownBlock=some g→g<wr.heap.size:=λg hg=>(hown.blk hg).2
   have HBD:=hid hbd
   have HOD:=hid hod
   have HMD:=hid hmd
   have HBLK:=hid hblk
   have HLT:=hid hlt
   clear hbx hown hmut hx f2 hG2 hG2' hbd hod hmd hblk hll hlt
   go_wp2_with fail
   refine wp_region_held_drew (S:=λW=>W.cell? ⟨b3,1,none⟩=some (.slice a4 V.ms.length k4)) (by kernel_rfl) (HBD.out.c1) (λhHeld=>?_)
   refine tkv 0 (.pointer (some ⟨b3,2,none⟩)) rfl ?_
   refine tkv 2 (.slice ai l.length ci) rfl ?_
   refine rd (rs:=[1,3]) ?_
   refine AllReadyH.cons (o:=_) rfl (λK hK=>?_) (AllReadyH.cons (o:=_) rfl (λK hK=>?_) AllReadyH.nil)
   ·go_simp
    refine hK.out _ _ (HBD.out.c1) (λhHeld=>?_)
    clear hK K
    try simp only [lay]
    refine rd1 3 rfl λK hK=>?_
    go_simp
    refine CP.out.mono ?_
    rintro e w11 ⟨v11,rfl,hv11,hM11⟩
    obtain ⟨q11,k11,e11,-,-⟩:=hv11.row
    subst e11
    have hq:Below w11.heap.size w11 (w11.alloc (.cells #[.slice q11 l.length k11] 26)):=bra
    have hb11:=HBD.out.ext hM11
    have z11:=hb11.c2
    have hb11b:=hb11.ext hq
    have z11b:=hb11b.c2
    have ho11:=(HOD.out.ext hM11).ext hq
    have hv11b:=(hv11.ext hq).mono2 (b':=wx.heap.size) (by simp;omega)
    have hm11:Mut (λk=>k=b3∨wx.heap.size≤k) wx w11:=HMD.out.trans (Mut.of_below hM11)
    have hm11b:=hm11.trans (Mut.of_below hq)
    have hne11:∀g,(Value.slice q11 l.length k11).ownBlock=some g→vl.ownBlock≠some g:=λg h1 h2=>by
     have h3:=(hv11.blk h1).1
     have h4:=HBLK.out g h2
     simp at h3;omega
    have h011:(w11.alloc (.cells #[.slice q11 l.length k11] 26)).cell? ⟨w11.heap.size,0,none⟩=some (.slice q11 l.length k11):=by simp
    have hsz11:wr.heap.size≤w11.heap.size:=hM11.size
    have HV11:=hid hv11b
    have HNE11:=hid hne11
    have HO11:=hid ho11
    have HM11:=hid hm11b
    have H011:=hid h011
    have HB11:=hid hb11
    have HB11B:=hid hb11b
    clear hv11 hv11b hne11 ho11 hm11 hm11b h011 hM11 hq hb11 hb11b
    refine hK.out _ _ (HB11.out.c1) (λhHeld=>?_)
    clear hK K
    try simp only [lay]
    refine rd1 4 rfl λK hK=>?_
    go_simp
    refine hK.out _ _ (HB11B.out.c1) (λhHeld=>?_)
    clear hK K
    try simp only [lay]
    refine rd1 5 rfl λK hK=>?_
    refine VB (by rfl) HO11.out H011.out HV11.out HNE11.out (by have:=hgl.out;omega) (by simp;omega) rfl rfl rfl ?_
    intro v12 w12 hown12 hg12
    rw [HG2.out] at hown12
    obtain ⟨a12,k12,he12,-⟩:=hown12.row
    subst he12
    have hgm:=KN hg12 HO11.out
    have hb12:=HB11B.out.mutT hgm (λe=>by have e:wx.heap.size≤b3:=e;have:=HQ.out;omega)
    have z12:=hb12.c2
    have f12:=hb12.f2
    have hm12:Mut (λk=>k=b3∨wx.heap.size≤k) wx w12:=HM11.out.trans (hgm.mono (λk _ e=>.inr e))
    have hb13:=hb12.set2 (.slice a12 G2.length k12)
    have hm13:=hm12.trans ((Xk (s:=b3) (i:=2) (v:=.slice a12 G2.length k12)).mono (λk _ e=>.inl e))
    have ho13:=hown12.mutT (Xk (s:=b3) (i:=2) (v:=.slice a12 G2.length k12)) (λk e=>by rw [e];exact HQ.out)
    have HB12:=hid hb12
    have HB13:=hid hb13
    have HM13:=hid hm13
    have HO13:=hid ho13
    clear hown12 hg12 hgm hm12 hb13 hm13 ho13 hb12
    refine hK.out _ _ (HB12.out.c1) (λhHeld=>?_)
    clear hK K
    try simp only [lay]
    refine rd1 6 rfl λK hK=>?_
    go_simp
    refine hK.out _ _ (HB12.out.c1) (λhHeld=>?_)
    clear hK K
    try simp only [lay]
    refine rd1 7 rfl λK hK=>?_
    go_simp
    refine hK.out _ _ (HB13.out.c1) (λhHeld=>?_)
    clear hK K
    try simp only [lay]
    refine dn ?_
    go_wp2
    go_roundw
    case rel=>exact ⟨k+1,_,by have:=HLT.out;omega,by go_num,HB13.out,by rw [HG2'.out];exact HO13.out,HM13.out⟩
    case measure=>have:=HLT.out;simp [intOf];omega
   ·go_simp
    refine CP.out.mono ?_
    rintro e w11 ⟨v11,rfl,hv11,hM11⟩
    obtain ⟨q11,k11,e11,-,-⟩:=hv11.row
    subst e11
    have hq:Below w11.heap.size w11 (w11.alloc (.cells #[.slice q11 l.length k11] 26)):=bra
    have hb11:=HBD.out.ext hM11
    have z11:=hb11.c2
    have hb11b:=hb11.ext hq
    have z11b:=hb11b.c2
    have ho11:=(HOD.out.ext hM11).ext hq
    have hv11b:=(hv11.ext hq).mono2 (b':=wx.heap.size) (by simp;omega)
    have hm11:Mut (λk=>k=b3∨wx.heap.size≤k) wx w11:=HMD.out.trans (Mut.of_below hM11)
    have hm11b:=hm11.trans (Mut.of_below hq)
    have hne11:∀g,(Value.slice q11 l.length k11).ownBlock=some g→vl.ownBlock≠some g:=λg h1 h2=>by
     have h3:=(hv11.blk h1).1
     have h4:=HBLK.out g h2
     simp at h3;omega
    have h011:(w11.alloc (.cells #[.slice q11 l.length k11] 26)).cell? ⟨w11.heap.size,0,none⟩=some (.slice q11 l.length k11):=by simp
    have hsz11:wr.heap.size≤w11.heap.size:=hM11.size
    have HV11:=hid hv11b
    have HNE11:=hid hne11
    have HO11:=hid ho11
    have HM11:=hid hm11b
    have H011:=hid h011
    have HB11:=hid hb11
    have HB11B:=hid hb11b
    clear hv11 hv11b hne11 ho11 hm11 hm11b h011 hM11 hq hb11 hb11b
    refine hK.out _ _ (HB11.out.c1) (λhHeld=>?_)
    clear hK K
    try simp only [lay]
    refine rd (rs:=[1,4]) ?_
    refine AllReadyH.cons (o:=_) rfl (λK hK=>?_) (AllReadyH.cons (o:=_) rfl (λK hK=>?_) AllReadyH.nil)
    ·go_simp
     refine hK.out _ _ (HB11.out.c1) (λhHeld=>?_)
     clear hK K
     try simp only [lay]
     refine rd1 4 rfl λK hK=>?_
     go_simp
     refine hK.out _ _ (HB11B.out.c1) (λhHeld=>?_)
     clear hK K
     try simp only [lay]
     refine rd1 5 rfl λK hK=>?_
     refine VB (by rfl) HO11.out H011.out HV11.out HNE11.out (by have:=hgl.out;omega) (by simp;omega) rfl rfl rfl ?_
     intro v12 w12 hown12 hg12
     rw [HG2.out] at hown12
     obtain ⟨a12,k12,he12,-⟩:=hown12.row
     subst he12
     have hgm:=KN hg12 HO11.out
     have hb12:=HB11B.out.mutT hgm (λe=>by have e:wx.heap.size≤b3:=e;have:=HQ.out;omega)
     have z12:=hb12.c2
     have f12:=hb12.f2
     have hm12:Mut (λk=>k=b3∨wx.heap.size≤k) wx w12:=HM11.out.trans (hgm.mono (λk _ e=>.inr e))
     have hb13:=hb12.set2 (.slice a12 G2.length k12)
     have hm13:=hm12.trans ((Xk (s:=b3) (i:=2) (v:=.slice a12 G2.length k12)).mono (λk _ e=>.inl e))
     have ho13:=hown12.mutT (Xk (s:=b3) (i:=2) (v:=.slice a12 G2.length k12)) (λk e=>by rw [e];exact HQ.out)
     have HB12:=hid hb12
     have HB13:=hid hb13
     have HM13:=hid hm13
     have HO13:=hid ho13
     clear hown12 hg12 hgm hm12 hb13 hm13 ho13 hb12
     refine hK.out _ _ (HB12.out.c1) (λhHeld=>?_)
     clear hK K
     try simp only [lay]
     refine rd1 6 rfl λK hK=>?_
     go_simp
     refine hK.out _ _ (HB12.out.c1) (λhHeld=>?_)
     clear hK K
     try simp only [lay]
     refine rd1 7 rfl λK hK=>?_
     go_simp
     refine hK.out _ _ (HB13.out.c1) (λhHeld=>?_)
     clear hK K
     try simp only [lay]
     refine dn ?_
     go_wp2
     go_roundw
     case rel=>exact ⟨k+1,_,by have:=HLT.out;omega,by go_num,HB13.out,by rw [HG2'.out];exact HO13.out,HM13.out⟩
     case measure=>have:=HLT.out;simp [intOf];omega
    ·go_simp
     refine hK.out _ _ (HB11B.out.c1) (λhHeld=>?_)
     clear hK K
     try simp only [lay]
     refine rd1 1 rfl λK hK=>?_
     go_simp
     refine hK.out _ _ (HB11B.out.c1) (λhHeld=>?_)
     clear hK K
     try simp only [lay]
     refine rd1 5 rfl λK hK=>?_
     refine VB (by rfl) HO11.out H011.out HV11.out HNE11.out (by have:=hgl.out;omega) (by simp;omega) rfl rfl rfl ?_
     intro v12 w12 hown12 hg12
     rw [HG2.out] at hown12
     obtain ⟨a12,k12,he12,-⟩:=hown12.row
     subst he12
     have hgm:=KN hg12 HO11.out
     have hb12:=HB11B.out.mutT hgm (λe=>by have e:wx.heap.size≤b3:=e;have:=HQ.out;omega)
     have z12:=hb12.c2
     have f12:=hb12.f2
     have hm12:Mut (λk=>k=b3∨wx.heap.size≤k) wx w12:=HM11.out.trans (hgm.mono (λk _ e=>.inr e))
     have hb13:=hb12.set2 (.slice a12 G2.length k12)
     have hm13:=hm12.trans ((Xk (s:=b3) (i:=2) (v:=.slice a12 G2.length k12)).mono (λk _ e=>.inl e))
     have ho13:=hown12.mutT (Xk (s:=b3) (i:=2) (v:=.slice a12 G2.length k12)) (λk e=>by rw [e];exact HQ.out)
     have HB12:=hid hb12
     have HB13:=hid hb13
     have HM13:=hid hm13
     have HO13:=hid ho13
     clear hown12 hg12 hgm hm12 hb13 hm13 ho13 hb12
     refine hK.out _ _ (HB12.out.c1) (λhHeld=>?_)
     clear hK K
     try simp only [lay]
     refine rd1 6 rfl λK hK=>?_
     go_simp
     refine hK.out _ _ (HB12.out.c1) (λhHeld=>?_)
     clear hK K
     try simp only [lay]
     refine rd1 7 rfl λK hK=>?_
     go_simp
     refine hK.out _ _ (HB13.out.c1) (λhHeld=>?_)
     clear hK K
     try simp only [lay]
     refine dn ?_
     go_wp2
     go_roundw
     case rel=>exact ⟨k+1,_,by have:=HLT.out;omega,by go_num,HB13.out,by rw [HG2'.out];exact HO13.out,HM13.out⟩
     case measure=>have:=HLT.out;simp [intOf];omega
  ·have t1:decide ((k:Int)<(nl:Int))=false:=by simpa using hlt
   have t1':decide (k<nl)=false:=by simpa using hlt
   have hown2:Xz wr wx.heap.size vl V.ls:=by rw [List.take_of_length_le (by rw [HNL.out];omega)] at hown;exact hown
   obtain ⟨al2,cl2,e2,-⟩:=hown2.row
   subst e2
   have hx2:=(X2.out.ext HC.out.b).mutT hmut (λe=>by have:=HZ2.out;have:=HC.out.b.size;rcases e with e | e <;> omega)
   have hom:=HC.out.om.mutN hmut (λg hg e=>by have:=HC.out.nm g hg;have:=(HC.out.om.blk hg).2;rcases e with e | e <;> omega)
   have hod:=HC.out.od.mutN hmut (λg hg e=>by have:=HC.out.nd g hg;have:=(HC.out.od.blk hg).2;rcases e with e | e <;> omega)
   obtain ⟨y0,y1,z2d,y3,-,-,-,-⟩:=id hbx
   obtain ⟨u0,u1,u2,u3,fu0,fu1,fu2,fu3⟩:=id hx2
   have HX2:=hid hx2
   have HOM:=hid hom
   have HOD:=hid hod
   have HO2:=hid hown2
   have hbw:=hid (HB2.out.trans ((hb2r.out _ hmut).mono HB2.out.size))
   clear hbx hown hmut hown2 hx2 hom hod hlt
   go_wp2
   obtain ⟨p0,p1,p2,p3,-,-,-,-⟩:=HX2.out.put (.int .u64 i) (.slice a4 V.ms.length k4) (.slice al2 V.ls.length cl2) (.slice a7 V.ds.length k7)
   have hz2:=HZ2.out
   exact bodyPost_ret (v:=.agg #[.int .u64 i,.slice a4 V.ms.length k4,.slice al2 V.ls.length cl2,.slice a7 V.ds.length k7]) (by simp [results,Tryz.results38,go_sem,p0,p1,p2,p3]) rfl
    ⟨_,_,_,wx.heap.size,rfl,(HOM.out.put4 (λg hg e=>by have:=(HOM.out.blk hg).1;omega)).mono2 (by omega),HO2.out.mutT (mutV wr (w.heap.size+1) _ _ _ _) (λk e=>by have e:k=w.heap.size+1:=e;have:=HC.out.b.size;omega),(HOD.out.put4 (λg hg e=>by have:=(HOD.out.blk hg).1;omega)).mono2 (by omega),
     λg hg=>(HC.out.om.blk hg).2,λg hg=>(HC.out.od.blk hg).2,HC.out.nn,by have:=HC.out.b.size;omega,Yy hbw.out (by omega)⟩
end Go.Proofs.YtcdpaflmofljaaaGreat
