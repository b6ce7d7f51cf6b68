import Derived.Test.YtcdpaflmofljaaaGreatGNodeNil21
/- Parts of the proof of NodeNil: MF. -/
namespace Go.Proofs.YtcdpaflmofljaaaGreat
open Go.RowKit
theorem AppD.ext {own:Nat→Nat} {b:PB} {x y v:Int} {i mc:Nat} {ma:Option Addr} {cs:List Value} {w w1 w2:World} (h:AppD own b x y i mc ma v cs w w1) (hb:Below w1.heap.size w1 w2):AppD own b x y i mc ma v cs w w2:=by
 obtain ⟨ev,ea,ec,h1,h2,h3⟩:=h.n
 obtain ⟨qa,qc,h4⟩:=h.q
 obtain ⟨la,lc,h5,h6⟩:=h.l
 exact ⟨h.mt.trans (Zl.below hb),⟨ev,ea,ec,h1.ext hb,h2.o (l:=[]) (Zl.below hb) (by simp),h3.ext hb⟩,⟨qa,qc,h4.ext hb⟩,h.bx.ext hb,h.bil.ext hb,h.biw.ext hb,h.bta.ext hb,⟨la,lc,h5,h6.ext hb⟩,h.a.ext hb⟩
theorem AppD.from {own:Nat→Nat} {b:PB} {x y v:Int} {i mc:Nat} {ma:Option Addr} {cs:List Value} {w w1 w2:World} (h:AppD own b x y i mc ma v cs w1 w2) (hm:Zl own [1,2,3,4,5,6,7] w w1):AppD own b x y i mc ma v cs w w2:=by
 obtain ⟨ev,ea,ec,h1,h2,h3⟩:=h.n
 exact ⟨hm.trans h.mt,⟨ev,ea,ec,h1.mono hm.size,h2,h3⟩,h.q,h.bx,h.bil,h.biw,h.bta,h.l,h.a⟩
def chosM (sl:Nat) (h:Int) (C:Xu):Jr:={ Vi with kind:=2,sl:=sl,hops:=h,c:=C }
theorem chosL (B:MA) (C:Xu) (h:Int):(ML (mA B) (chosM 1 h C)).toArray=#[.int .i64 2,.int .u16 0,.int .u32 0,.int .u64 0,.int .u64 1,.int .u64 0,.int .i64 h,.int .u32 0,.int .u16 0,.int .u32 0,.int .u32 0,.int .u16 0,.int .u32 0,.bool false,.int .i64 C.kind,.int .u16 C.fr.1,.int .u32 C.fr.2,.int .u64 C.num,.int .u64 C.vw,.slice B.da C.data.length B.dc,.int .u64 C.v.id,.slice B.am C.v.ms.length B.cm,.slice B.al C.v.ls.length B.cl,.slice B.ad C.v.ds.length B.cd,.int .u64 0,.slice none 0 0,.slice none 0 0,.slice none 0 0,.slice none 0 0]:=by rfl
theorem zeroCmd (w:World):(zeroValue 126).run Tryz.prog w=.ok (.agg cmd0.toArray) w:=by kernel_rfl
theorem heldNo {w:World} {r:Nat} (h:Zj w r n64 sv ([]:List (Nat × Value))) (k:Nat):(Instr.lookup 93 (.map (some r)) (.int .u64 k) true).run Tryz.prog w=.ok (.tuple #[.agg cmd0.toArray,.bool false]) w :=
 Zj.lookup_ok (ke:=ke64) (ve:=λv=>v) h key64_t Tryz.underlying93 (zeroCmd w) k
section
variable {ops:Array Oper} {rest:List Oper} {op:Oper} {a:Go.Act} {w:World} {Q:Exit→Go.Act→World→Prop} {x:Operand} {b:Nat} {A:MA} {c:Xu}
theorem EJ (h:Zc w b 126 (Yd A c).toList) (hgd:op.guard=none) (ho:op.op=.load 126 x)
  (hx:a.eval x=.pointer (some ⟨b,0,none⟩)) (hk:wpList Tryz.prog ops Q rest (a.put op.dst (.agg (Yd A c))) w):wpList Tryz.prog ops Q (op :: rest) a w :=
 wpList_load_mid hgd 126 x ho b 0 hx (Yd A c).toList _ h.range Tryz.underlying126 rfl Gv hk
end
section
variable {w:World} {nb:Nat} {M:MA} {m:Jr}
theorem nDown4 (hm:m.hops=4):Calls Tryz.prog 241 #[.pointer (some ⟨nb,0,none⟩),.agg (ML M m).toArray] w λe w'=>e=.returned (.tuple #[])∧Below w.heap.size w w':=by
 obtain ⟨W1,hW1⟩:∃W1,w.alloc (.cells (ML M m).toArray 128)=W1:=⟨_,rfl⟩
 have hb1:Below w.heap.size w W1:=by rw [←hW1];exact bra
 have xM:Zr W1 w.heap.size M m:=by rw [←hW1];exact Zr.made _ _ _ _ _
 have m6:=xM.cell (j:=6) (v:=.int .i64 m.hops) rfl
 rw [hm] at m6
 have HB1:=hid hb1
 clear hb1 xM
 go_enter Tryz.func241,Tryz.ntmps241
 go_upto_region 1 with fail
 try rw [hW1]
 clear hW1
 go_wp2_with fail
 exact bodyPost_end (results_none rfl _ _ _) rfl ⟨rfl,HB1.out⟩
end
section
variable {own:Nat→Nat} {b:PB} {x y v T s0 s1 s2 b0 b1 b2 m0 m1:Int} {i tl mc qg qc:Nat} {V:Zs} {A As At:VAd} {ma:Option Addr} {bd:Bnd} {w:World} {cs:List Value} {xv c5 c6 c7 c8 c9 c10 c11 c12 ld val has:Value} {B:MA} {C:Xu} {R:World→Prop}
set_option maxRecDepth 100000 in
set_option maxHeartbeats 6400000 in
theorem nLearn (F:Fix own b x y i tl mc V A As At ma T w) (t:Gy own b) (hN:NP cs x y i A bd b) (h48:cs[48]?=some (.slice none 0 0)) (hB:Zc w b.nb 98 cs) (hQ:Zc w b.qb 159 [.int .u64 v,.int .u64 1,.slice (some ⟨qg,0,none⟩) 1 qc]) (hqc:1≤qc) (hX:Zc w b.xb 199 (ibC i ma mc b.il b.iw 0)) (hil:Zj w b.il Yg n64 []) (hiw:Zj w b.iw KQ sv [((x,y,1),xv)]) (hta:Zj w b.ta Yg n64 []) (hL:Zc w b.lb 149 [.int .u64 0,.slice none 0 0]) (hS:Zc w b.sb 247 (vcl V i As ++ [.map (some b.sm),c5,c6,c7,c8,c9,c10,c11,c12])) (hsm:Zj w b.sm Yg n64 []) (hA:Zc w b.ab 250 (acC 1 1 x y has)) (hP:Zc w b.pb 255 (prC x y s0 s1 s2 2 ld 2 b0 b1 b2 val m0 m1)) (hC:CR w (λk=>own k≠0) B C) (hs:zab C x y i) (hd:C.data=[109]) (hc:YE C=0) (h1:V1 V x y i)
  (CD:∀W,AppD own b x y i mc ma v cs w W→Calls Tryz.prog 49 #[.pointer (some ⟨b.nb,0,none⟩),.bool false] W λe w'=>ZC (λk=>own k≠0) R W e w') :
  Calls Tryz.prog 151 #[.pointer (some ⟨b.nb,0,none⟩),.agg #[.int .u16 x,.int .u32 y],.int .u64 1,.agg (Yd B C),.int .i64 4] w λe w'=>ZC (λk=>own k≠0) R w e w':=by
 obtain ⟨W1,hW1⟩:∃W1,w.alloc (.cells #[.int .u16 x,.int .u32 y] 25)=W1:=⟨_,rfl⟩
 obtain ⟨W2,hW2⟩:∃W2,W1.alloc (.cells (Yd B C) 126)=W2:=⟨_,rfl⟩
 have hb1:Below w.heap.size w W1:=by rw [←hW1];exact bra
 have hb12:Below W1.heap.size W1 W2:=by rw [←hW2];exact bra
 have hb2:Below w.heap.size w W2:=hb1.trans (hb12.mono hb1.size)
 have xC:Zc W2 W1.heap.size 126 (Yd B C).toList:=by rw [←hW2];exact Zc.made _ _ (Yd B C).toList
 have hO1:own W1.heap.size=0:=by
  by_cases e:own W1.heap.size=0
  ·exact e
  ·have h1:=F.lt _ e;have h2:=hb1.size;omega
 have HM2:Hid (Zl own [] w W2):=hid (Zl.below hb2)
 have n20:=(hB.ext hb2).cell hN.c20
 have n42c:=hN.c42
 have CL:=hid (XT (hL.ext hb2))
 have CA:=hid (nApply (F.o t HM2.out (by simp)) t hN h48 (hB.ext hb2) (hQ.ext hb2) hqc (hX.ext hb2) (hil.ext hb2) (hiw.ext hb2) (hta.ext hb2) (hL.ext hb2) (hS.ext hb2) (hsm.ext hb2) (hA.ext hb2) (hP.ext hb2) (hC.ext hb2) hs hd hc h1)
 have HCD:=hid CD
 have HHM:=hid (F.hm.ext hb2)
 have HT:=hid t
 have HN:=hid hN
 have HO1:=hid hO1
 have HXC:=hid xC
 clear F t hN h48 hB hQ hqc hX hil hiw hta hL hS hsm hA hP hC hs hd hc h1 CD hb1 hb12 hb2 hO1
 go_enter Tryz.func151,Tryz.ntmps151
 go_upto_region 1 with fail
 try rw [hW2]
 clear hW1 hW2
 go_wp2_with fail
 refine CL.out.mono ?_
 rintro e w3 ⟨rfl,rfl⟩
 rename World=>W2
 clear CL n20
 go_wp2_with (refine EJ xC rfl rfl rfl ?_)
 refine CA.out.mono ?_
 rintro e w3 ⟨rfl,hA3⟩
 have HA3:=hid hA3
 have xC:=HXC.out.o hA3.mt HO1.out (by simp)
 have CD4:Hid (∀W,Calls Tryz.prog 241 #[.pointer (some ⟨b.nb,0,none⟩),.agg #[.int .i64 2,.int .u16 0,.int .u32 0,.int .u64 0,.int .u64 1,.int .u64 0,.int .i64 4,.int .u32 0,.int .u16 0,.int .u32 0,.int .u32 0,.int .u16 0,.int .u32 0,.bool false,.int .i64 C.kind,.int .u16 C.fr.1,.int .u32 C.fr.2,.int .u64 C.num,.int .u64 C.vw,.slice B.da C.data.length B.dc,.int .u64 C.v.id,.slice B.am C.v.ms.length B.cm,.slice B.al C.v.ls.length B.cl,.slice B.ad C.v.ds.length B.cd,.int .u64 0,.slice none 0 0,.slice none 0 0,.slice none 0 0,.slice none 0 0]] W λe w'=>e=.returned (.tuple #[])∧Below W.heap.size W w'):=hid λW=>by
  have:=nDown4 (w:=W) (nb:=b.nb) (M:=mA B) (m:=chosM 1 4 C) rfl
  rw [chosL] at this
  exact this
 clear CA hA3
 have k0:=xC.cell (j:=0) (v:=.int .i64 C.kind) rfl
 have k1:=xC.cell (j:=1) (v:=.int .u16 C.fr.1) rfl
 have k2:=xC.cell (j:=2) (v:=.int .u32 C.fr.2) rfl
 have k3:=xC.cell (j:=3) (v:=.int .u64 C.num) rfl
 have k4:=xC.cell (j:=4) (v:=.int .u64 C.vw) rfl
 have k5:=xC.cell (j:=5) (v:=.slice B.da C.data.length B.dc) rfl
 have k6:=xC.cell (j:=6) (v:=.int .u64 C.v.id) rfl
 have k7:=xC.cell (j:=7) (v:=.slice B.am C.v.ms.length B.cm) rfl
 have k8:=xC.cell (j:=8) (v:=.slice B.al C.v.ls.length B.cl) rfl
 have k9:=xC.cell (j:=9) (v:=.slice B.ad C.v.ds.length B.cd) rfl
 clear xC HXC
 go_wp2_with fail
 refine (CD4.out _).mono ?_
 rintro e w4 ⟨rfl,hb4⟩
 have HA4:=hid (HA3.out.ext hb4)
 clear CD4 k0 k1 k2 k3 k4 k5 k6 k7 k8 k9 hb4 HA3
 have HHM4:=hid (HHM.out.o HA4.out.mt HT.out.hm (by simp))
 obtain ⟨ev,ea,ec,h1,h2,h3⟩:=HA4.out.n
 have HB4:=hid h3
 have HN4:=hid (HN.out.put 48 ev (.inr (.inr rfl)))
 clear h1 h2 h3
 go_wp2_with fail
 go_loopw [12] (λ_ wr=>wr=w4) (λ_ _=>0)
 case atStart=>rfl
 case round =>
  subst hrel
  rename World=>w4
  have CI:=hid (XR HB4.out HN4.out.toN1)
  go_wp2_with fail
  refine CI.out.mono ?_
  rintro e w5 ⟨rfl,rfl⟩
  rename World=>w4
  obtain ⟨la,lc,hlc,hl⟩:=HA4.out.l
  have CL:=hid (XT hl)
  have n20:=HB4.out.cell HN4.out.c20
  have n42:=HB4.out.cell HN4.out.c42
  clear CI hl hlc
  go_wp2_with fail
  refine CL.out.mono ?_
  rintro e w5 ⟨rfl,rfl⟩
  rename World=>w4
  have hlk:∀W,W=w4→(Instr.lookup 93 (.map (some b.hm)) (.int .u64 2) true).run Tryz.prog W=.ok (.tuple #[.agg #[.int .i64 0,.int .u16 0,.int .u32 0,.int .u64 0,.int .u64 0,.slice none 0 0,.int .u64 0,.slice none 0 0,.slice none 0 0,.slice none 0 0],.bool false]) W:=λW e=>by subst e;exact heldNo HHM4.out 2
  have hlk:=hlk w4 rfl
  clear CL n20
  go_wp2_with fail
  refine (HCD.out _ ((HA4.out.from (HM2.out.mono (by simp))).ext (bra))).mono ?_
  rintro e w6 ⟨rfl,hR⟩
  have HR:Hid (ZC (λk=>own k≠0) R W2 (.returned (.tuple #[])) w6):=hid (ZC.liftM ((HA4.out.mt.n (by simp)).trans ((Mut.of_below ((Below.refl w4.heap.size w4).alloc (Nat.le_refl _) _)).mono λk _ e=>.inr (Nat.le_trans HA4.out.mt.size e))) ⟨rfl,hR⟩)
  clear hR hlk
  go_wp2_with fail
  exact bodyPost_end (results_none rfl _ _ _) rfl (ZC.liftM (HM2.out.n (by simp)) HR.out)
end
end Go.Proofs.YtcdpaflmofljaaaGreat
