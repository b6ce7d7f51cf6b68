import Derived.Test.YtcdpaflmofljaaaGreatGNodeNil6
/- Parts of the proof of NodeNil: FE. -/
namespace Go.Proofs.YtcdpaflmofljaaaGreat
open Go.RowKit
abbrev pk0:List Value:=[.int .i64 0,.int .u16 0,.int .u32 0,.int .u16 0,.int .u32 0,.int .u64 0,.slice none 0 0]
theorem JC:pk0.toArray.all (·.oneCell')=true:=by simp [Value.oneCell']
theorem zbM (v0 v1 v2 v3 v4 v5 v6:Value):(Tryz.prog.info? 111).map (·.size)=some [v0,v1,v2,v3,v4,v5,v6].length:=by kernel_rfl
theorem Jv:(Tryz.prog.info? 111).map (·.size)=some pk0.toArray.size:=by kernel_rfl
def PkAns (w:World) (e:Ending) (w':World):Prop:=(∃(k s er:Int) (x1 y1 x2 y2:Int) (ba:Option Addr) (bn bc:Nat),e=.returned (.tuple #[.agg #[.int .i64 k,.int .u16 x1,.int .u32 y1,.int .u16 x2,.int .u32 y2,.int .u64 s,.slice ba bn bc],.int .i64 er]))∧Below w.heap.size w w'
theorem Ev {w W:World} {q:Nat} {k x1 y1 x2 y2 s er:Int} {ba:Option Addr} {bn bc:Nat} {act:Go.Act} (ht:W.there q 0 7) (hq:w.heap.size≤q) (hb:Below w.heap.size w W) (h2:act.tmps.getD 2 undef=.pointer (some ⟨q,0,none⟩)) (h3:act.tmps.getD 3 undef=.int .i64 er) (hd:act.defers=[]) :
  bodyPost Tryz.prog Tryz.f57 (PkAns w) Exit.ret act (W.setCells q 0 [.int .i64 k,.int .u16 x1,.int .u32 y1,.int .u16 x2,.int .u32 y2,.int .u64 s,.slice ba bn bc]):=by
 have hr:(W.setCells q 0 [.int .i64 k,.int .u16 x1,.int .u32 y1,.int .u16 x2,.int .u32 y2,.int .u64 s,.slice ba bn bc]).rangeAt q 0 [.int .i64 k,.int .u16 x1,.int .u32 y1,.int .u16 x2,.int .u32 y2,.int .u64 s,.slice ba bn bc]:=World.rangeAt_setCells_same _ _ _ _ ht
 have h:=ZF (fn:=Tryz.f57) (p:=2) (q:=3) (ty:=111) rfl act.tmps _ q _ _ h2 hr Tryz.underlying111 rfl (zbM _ _ _ _ _ _ _)
 rw [h3] at h
 exact bodyPost_ret h hd ⟨⟨k,s,er,x1,y1,x2,y2,ba,bn,bc,rfl⟩,Yl _ _ hb hq⟩
abbrev BoxPk (W:World) (q:Nat):Prop:=Zc W q 111 pk0
theorem Zc.there7 {W:World} {q:Nat} {t:TypeId} {cs:List Value} (h:Zc W q t cs) (hl:cs.length=7):W.there q 0 7:=λj hj=>⟨by rw [Nat.zero_add,h.cell (List.getElem?_eq_getElem (show j<cs.length by omega))];rfl,h.frozen _⟩
theorem Zg.cutAF {w:World} {a:Option Addr} {bs:List Nat} {s k c:Nat} (h:Zg w a bs) (hf:∀b off,a=some ⟨b,off,none⟩→bs≠[]→b<s):∀b off,(if c=k then a else a.map (·.add (k * 1)))=some ⟨b,off,none⟩→bs.drop k≠[]→b<s:=by
 intro b off e hne
 have hb:bs≠[]:=λh=>hne (by rw [h];simp)
 rcases h with h | ⟨b',o',rfl,hlt,hc⟩
 ·exact absurd h hb
 ·have h2:=hf b' o' rfl hb
  split at e
  ·cases e;exact h2
  ·simp only [Option.map_some,Xx,Option.some.injEq,Addr.mk.injEq] at e
   rw [←e.1];exact h2
theorem zcm {a:Option Addr} {c n:Nat} {bs:List Nat} {w:World} {x y:Int} {u e:Nat} (h:Hid (EF bs=((x,y),u,e))) (hn:Hid (bs.length=n)) (hc:n≤c) (hl:n≤70368744177664) (hby:∀b∈bs,b<256) (hrow:Zg w a bs) :
  Calls Tryz.prog 122 #[.slice a n c] w λe' w'=>e'=.returned (.tuple #[.agg #[.int .u16 x,.int .u32 y],.int .i64 u,.int .i64 e])∧Below w.heap.size w w':=by
 have:=zc3 (w:=w) hn hc hl hby hrow
 rw [h.out] at this;exact this
theorem Fl {bs:List Nat} (h:(Kr bs).2.2=0):(Kr bs).1<18446744073709551616∧(Kr bs).2.1≤bs.length∧0<(Kr bs).2.1:=by
 obtain ⟨h1,h2,h3,_⟩:=Kx bs 0 0 (by decide) (by decide) h
 exact ⟨h1,by unfold Kr;omega,h2⟩
theorem getP_okF {bs:List Nat} (h:(EF bs).2.2=0):(EF bs).2.1≤bs.length∧okP (EF bs).1:=by
 unfold EF at h ⊢
 by_cases h1:(Kr bs).2.2=0
 ·rw [if_neg (by simp [h1])] at h ⊢
  by_cases h2:(Kr (bs.drop (Kr bs).2.1)).2.2=0
  ·rw [if_neg (by simp [h2])] at h ⊢
   by_cases h3:65535<(Kr bs).1∨4294967295<(Kr (bs.drop (Kr bs).2.1)).1
   ·rw [if_pos h3] at h;simp at h
   ·rw [if_neg h3]
    obtain ⟨_,g2,_⟩:=Fl h1
    obtain ⟨_,g4,_⟩:=Fl h2
    rw [List.length_drop] at g4
    exact ⟨by simp only;omega,by simp only [okP];omega⟩
  ·rw [if_pos h2] at h;exact absurd h h2
 ·rw [if_pos h1] at h;exact absurd h h1
theorem Ys.rowF {w:World} {base:Nat} {v:Value} {bs:List Nat} (h:Ys w base v bs):∃a c,v=.slice a bs.length c∧bs.length≤c∧Zg w a bs∧∀b off,a=some ⟨b,off,none⟩→bs≠[]→b<w.heap.size:=by
 have hcells:=λg=>World.ownsRow.cells (g:=g) h
 rcases h.2 with ⟨rfl,hn⟩ | ⟨g,cap,cur,rfl,hb,hg,hnc,hcm,hcs,htake⟩
 ·exact ⟨none,0,by rw [hn],by omega,.inl (List.length_eq_zero_iff.1 hn),by simp⟩
 ·refine ⟨_,cap,rfl,hnc,.inr ⟨g,0,rfl,(Array.getElem?_eq_some_iff.1 hg).1,λi hi=>?_⟩,λb off e _=>by cases e;exact (Array.getElem?_eq_some_iff.1 hg).1⟩
  have h1:=hcells g rfl i (.int .u8 (bs[i]:Nat)) (by simp [u8C,u8V,hi])
  rw [Xx] at h1
  exact h1
structure PkW (q:Nat) (W2 w:World):Prop where
 o:∃(k s x1 y1 x2 y2:Int) (ba:Option Addr) (bn bc:Nat),Xe w q [.int .i64 k,.int .u16 x1,.int .u32 y1,.int .u16 x2,.int .u32 y2,.int .u64 s,.slice ba bn bc]
 p0:w.cell? ⟨q+1,0,none⟩=some (.pointer (some ⟨q,1,none⟩))
 p1:w.cell? ⟨q+1,1,none⟩=some (.pointer (some ⟨q,3,none⟩))
 b:Below q W2 w
theorem PkW.lt {q:Nat} {W2 w:World} (h:PkW q W2 w):q+1<w.heap.size:=World.block_lt_of_cell? w _ h.p0
theorem PkW.ext {q:Nat} {W2 w w':World} (h:PkW q W2 w) (hb:Below w.heap.size w w'):PkW q W2 w':=by
 have hl:=h.lt
 obtain ⟨k,s,x1,y1,x2,y2,ba,bn,bc,ho⟩:=h.o
 exact ⟨⟨k,s,x1,y1,x2,y2,ba,bn,bc,ho.ext hb (by omega)⟩,Zk h.p0 hb,Zk h.p1 hb,h.b.trans (hb.mono (by omega))⟩
theorem PkW.there {q o:Nat} {W2 w:World} (h:PkW q W2 w) (ho:o=1∨o=3):w.there q o 2:=by
 obtain ⟨k,s,x1,y1,x2,y2,ba,bn,bc,hl⟩:=h.o
 exact hl.there (by rcases ho with rfl | rfl <;> simp)
theorem PkW.put {q o:Nat} {W2 w:World} (h:PkW q W2 w) (ho:o=1∨o=3) (x y:Int):PkW q W2 (w.setCells q o [.int .u16 x,.int .u32 y]):=by
 obtain ⟨k,s,x1,y1,x2,y2,ba,bn,bc,hl⟩:=h.o
 have hm:Mut (λk=>k=q) w (w.setCells q o [.int .u16 x,.int .u32 y]):=Xk.trans Xk
 have hp:=h.p0
 have hq:=h.p1
 refine ⟨?_,ZL hp hm (λe=>absurd (show q+1=q from e) (by omega)),ZL hq hm (λe=>absurd (show q+1=q from e) (by omega)),Yl _ _ h.b (Nat.le_refl _)⟩
 rcases ho with rfl | rfl
 ·exact ⟨k,s,x,y,x2,y2,ba,bn,bc,hl.sets (vs:=[.int .u16 x,.int .u32 y]) (o:=1) (by simp)⟩
 ·exact ⟨k,s,x1,y1,x,y,ba,bn,bc,hl.sets (vs:=[.int .u16 x,.int .u32 y]) (o:=3) (by simp)⟩
theorem PkW.row {q:Nat} {W2 w:World} (h:PkW q W2 w) {k:Nat} (hk:k<2):∃o,(o=1∨o=3)∧w.cell? ⟨q+1,k,none⟩=some (.pointer (some ⟨q,o,none⟩)):=by
 match k,hk with
 | 0,_=>exact ⟨1,.inl rfl,h.p0⟩
 | 1,_=>exact ⟨3,.inr rfl,h.p1⟩
def LoopI (m:Nat) (w2:World) (s i:Value) (wr:World):Prop:=∃(k:Nat) (a':Option Addr) (n' c':Nat) (l:List Nat),k≤2∧i=.int .i64 k∧s=.slice a' n' c'∧l.length=n'∧n'≤c'∧n'≤m∧(∀b∈l,b<256)∧Zg wr a' l∧(∀b off,a'=some ⟨b,off,none⟩→l≠[]→b<w2.heap.size)∧PkW w2.heap.size w2 wr
theorem PkW.made (w2:World) (k:Int) (t u:TypeId):PkW w2.heap.size w2 ((w2.alloc (.cells #[.int .i64 k,.int .u16 0,.int .u32 0,.int .u16 0,.int .u32 0,.int .u64 0,.slice none 0 0] t)).alloc (.cells #[.pointer (some ⟨w2.heap.size,1,none⟩),.pointer (some ⟨w2.heap.size,3,none⟩)] u)):=by
 have h0:=Xe.made [.int .i64 k,.int .u16 0,.int .u32 0,.int .u16 0,.int .u32 0,.int .u64 0,.slice none 0 0] w2 t
 have hb:Below (w2.alloc (.cells #[.int .i64 k,.int .u16 0,.int .u32 0,.int .u16 0,.int .u32 0,.int .u64 0,.slice none 0 0] t)).heap.size _ _:=(Below.refl _ _).alloc (Nat.le_refl _) (.cells #[.pointer (some ⟨w2.heap.size,1,none⟩),.pointer (some ⟨w2.heap.size,3,none⟩)] u)
 refine ⟨⟨k,0,0,0,0,0,none,0,0,h0.ext hb (h0.lt (by simp))⟩,?_,?_,?_⟩
 ·simp
 ·simp
 ·exact (bra).alloc (by simp) _
theorem Zg.setFar2 {w:World} {a:Option Addr} {bs:List Nat} {s i:Nat} {u v:Value} (h:Zg w a bs) (hf:∀b off,a=some ⟨b,off,none⟩→bs≠[]→b<s):Zg (w.setCells s i [u,v]) a bs:=(h.setFar hf).setFar hf
set_option maxRecDepth 100000 in
set_option maxHeartbeats 3200000 in
theorem zaM {a:Option Addr} {c n:Nat} {bs:List Nat} {w:World} (hn:Hid (bs.length=n)) (hnc:n≤c) (hlw:n≤140737488355328) (hby:∀b∈bs,b<256) (hrow:Zg w a bs) :
  Calls Tryz.prog 57 #[.slice a n c] w (PkAns w):=by
 obtain ⟨W1,hW1⟩:∃W1,w.alloc (.cells #[.int .i64 0,.int .u16 0,.int .u32 0,.int .u16 0,.int .u32 0,.int .u64 0,.slice none 0 0] 111)=W1:=⟨_,rfl⟩
 have hb1:Below w.heap.size w W1:=by rw [←hW1];exact bra
 have hx1:BoxPk W1 w.heap.size:=by rw [←hW1];exact Zc.made w _ _
 have HX:=hid hx1
 have HB:=hid hb1
 have ht1:=hx1.there7 rfl
 by_cases h12:n<12
 ·have t1:decide ((n:Int)<12)=true:=decide_eq_true (by omega)
  clear hx1 hb1
  go_enter Tryz.func57,Tryz.ntmps57
  go_upto_region 1 with fail
  try rw [hW1]
  clear hW1
  go_wp2_with (refine wpList_store_mid rfl 111 _ _ rfl w.heap.size 0 pk0.toArray rfl rfl ht1 Jv JC ?_)
  exact Ev ht1 (Nat.le_refl _) HB.out rfl rfl rfl
 obtain ⟨m,rfl⟩:∃m,n=m+12:=⟨n - 12,by omega⟩
 have t1:decide (((m+12:Nat):Int)<12)=false:=decide_eq_false (by omega)
 have t1':decide ((m:Int)+12<12)=false:=decide_eq_false (by omega)
 have hr1:=hrow.ext hb1
 have hr2:=hr1.cut (k:=4) (c:=c) (by rw [hn.out];exact hnc)
 have hn2:(bs.drop 4).length=m+8:=by rw [List.length_drop,hn.out];omega
 obtain ⟨A2,hA2⟩:∃A,(if c=4 then a else a.map (·.add (4 * 1)))=A:=⟨_,rfl⟩
 obtain ⟨c2,hc2⟩:∃z,c - 4=z:=⟨_,rfl⟩
 have hrun:∀W,(Instr.slice 46 (.slice a (m+12) c) (some (.int .i64 4)) none none).run Tryz.prog W=.ok (.slice A2 (m+8) c2) W:=λW=>by
  have h:=Vn (a:=a) (c:=c) (n:=m+12) (k:=4) (by omega) W
  rw [hA2,hc2,show m+12 - 4=m+8 by omega] at h
  exact h
 rw [hA2] at hr2
 have CG1:Hid (Calls Tryz.prog 120 #[.slice a ((m+12:Nat)) c,.int .i64 4] W1 λe w'=>(∃v:Nat,v<4294967296∧e=.returned (.tuple #[.int .u64 v,.int .i64 0]))∧w'=W1):=hid (by
  have h:=Fk (c:=c) hn.out hnc hby hr1
  rw [if_neg (by omega)] at h
  exact h)
 have CG2:Hid (Calls Tryz.prog 120 #[.slice A2 ((m+8:Nat)) c2,.int .i64 4] W1 λe w'=>(∃v:Nat,v<4294967296∧e=.returned (.tuple #[.int .u64 v,.int .i64 0]))∧w'=W1):=hid (by
  have h:=Fk (c:=c2) hn2 (by omega) (λb hb=>hby b (List.mem_of_mem_drop hb)) hr2
  rw [if_neg (by omega)] at h
  exact h)
 have CO:Hid (m+12≤549755813888→Calls Tryz.prog 121 #[.slice a ((m+12:Nat)) c] W1 λe w'=>(∃(v:Value) (er:Int),e=.returned (.tuple #[v,.int .i64 er])∧((er≠0∧v=.slice none 0 0)∨(er=0∧Ys w' W1.heap.size v (bs.take (m+8)))))∧Below W1.heap.size W1 w'):=hid λhl=>crcOpen (m:=m+8) hn (by omega) (by omega) hby hr1
 have HR0:Hid ((bs.take (m+8)).length=m+8):=hid (by rw [List.length_take,hn.out];omega)
 have HBY:Hid (∀b∈bs.take (m+8),b<256):=hid λb hb=>hby b (List.mem_of_mem_take hb)
 obtain ⟨rs,hrs⟩:∃z,bs.take (m+8)=z:=⟨_,rfl⟩
 rw [hrs] at HR0 HBY CO
 clear hr1 hr2 hn2 hA2 h12 hrs hrow hby hn hx1 hb1
 go_enter Tryz.func57,Tryz.ntmps57
 go_upto_region 1 with fail
 try rw [hW1]
 clear hW1
 go_wp2_with fail
 refine CG1.out.mono ?_
 rintro e w2 ⟨⟨v1,hv1,rfl⟩,rfl⟩
 rename World=>W1
 clear CG1
 go_wp2_with fail
 refine CG2.out.mono ?_
 rintro e w2 ⟨⟨v2,hv2,rfl⟩,rfl⟩
 rename World=>W1
 clear CG2 hrun
 go_wp2_with (refine wpList_store_mid rfl 111 _ _ rfl w.heap.size 0 pk0.toArray rfl rfl ht1 Jv JC ?_)
 ·exact Ev ht1 (Nat.le_refl _) HB.out rfl rfl rfl
 ·exact Ev ht1 (Nat.le_refl _) HB.out rfl rfl rfl
 have hl:m+12≤549755813888:=by
  by_cases hh:m+12≤549755813888
  ·exact hh
  ·have e2:=‹((v2:Int) != (m:Int)+12)=false›
   simp only [bne_eq_false_iff_eq] at e2
   omega
 refine (CO.out hl).mono ?_
 rintro e w2 ⟨⟨v,er,rfl,hor⟩,hb2⟩
 clear CO
 have hx2:BoxPk w2 w.heap.size:=HX.out.ext hb2
 have hbw:Below w.heap.size w w2:=HB.out.trans (hb2.mono HB.out.size)
 have ht2:=hx2.there7 rfl
 rcases hor with ⟨h0,rfl⟩ | ⟨rfl,hown⟩
 ·have tE:decide (er=0)=false:=decide_eq_false h0
  clear hx2
  go_wp2_with (refine wpList_store_mid rfl 111 _ _ rfl w.heap.size 0 pk0.toArray rfl rfl ht2 Jv JC ?_)
  exact Ev ht2 (Nat.le_refl _) hbw rfl rfl rfl
 obtain ⟨ra,rc,hv,hcap,hrow0,hfar0⟩:=hown.rowF
 rw [HR0.out] at hv hcap
 subst hv
 obtain ⟨A3,hA3⟩:∃A,(if rc=8 then ra else ra.map (·.add (8 * 1)))=A:=⟨_,rfl⟩
 obtain ⟨c3,hc3⟩:∃z,rc - 8=z:=⟨_,rfl⟩
 have hrow1:=hrow0.cut (k:=8) (c:=rc) (by rw [HR0.out];exact hcap)
 have hfar1:=Zg.cutAF hrow0 (k:=8) (c:=rc) hfar0
 rw [hA3] at hrow1 hfar1
 have hrun:∀W,(Instr.slice 46 (.slice ra (m+8) rc) (some (.int .i64 8)) none none).run Tryz.prog W=.ok (.slice A3 m c3) W:=λW=>by
  have h:=Vn (a:=ra) (c:=rc) (n:=m+8) (k:=8) (by omega) W
  rw [hA3,hc3,show m+8 - 8=m by omega] at h
  exact h
 have HROW:=hid hrow1
 have HFAR:=hid hfar1
 have HBW:=hid hbw
 have HX2:=hid hx2
 have HN:Hid ((rs.drop 8).length=m):=hid (by rw [List.length_drop,HR0.out];omega)
 have HBY1:Hid (∀b∈rs.drop 8,b<256):=hid λb hb=>HBY.out b (List.mem_of_mem_drop hb)
 obtain ⟨rs1,hrs1⟩:∃z,rs.drop 8=z:=⟨_,rfl⟩
 have HC3:Hid (m≤c3):=hid (by omega)
 rw [hrs1] at HROW HFAR HN HBY1
 have HT:Hid (∀W,Below w2.heap.size w2 W→W.there w.heap.size 0 7∧Below w.heap.size w W):=hid λW h=>⟨((HX2.out).ext h).there7 rfl,HBW.out.trans (h.mono HBW.out.size)⟩
 clear hrow0 hrow1 hfar0 hfar1 hA3 hc3 hbw hx2 ht2 ht1 hown HBY HR0 hrs1 HX HB
 go_wp2_with fail
 go_loopw [11,65] (LoopI m w2) (λ_ i _=>2 - (intOf i).toNat)
 case atStart=>exact ⟨0,A3,m,c3,rs1,by omega,rfl,rfl,HN.out,HC3.out,Nat.le_refl _,HBY1.out,(HROW.out.alloc _).alloc _,HFAR.out,PkW.made w2 _ _ _⟩
 clear HROW HFAR HN HBY1 HC3 hrun
 case round =>
  obtain ⟨k,a1,n1,c1,l,hk,rfl,rfl,hn1,hc1,hm1,hby1,hrow1,hfar1,hP⟩:=hrel
  by_cases hlt:k<2
  ·have tk:decide ((k:Int)<2)=true:=decide_eq_true (by omega)
   obtain ⟨o,ho,hpo⟩:=hP.row hlt
   have HPO:=hid hpo
   obtain ⟨⟨⟨x,y⟩,u,er⟩,hG⟩:∃z,EF l=z:=⟨_,rfl⟩
   have HG:=hid hG
   have CP:=hid (zcm (w:=wr) HG (hid hn1) hc1 (by omega) hby1 hrow1)
   have HP:=hid hP
   have HROW:=hid hrow1
   have HFAR:=hid hfar1
   have HN:=hid hn1
   have HC:=hid hc1
   have HM:=hid hm1
   have HBY:=hid hby1
   have HO:=hid ho
   clear hrow1 hfar1 hn1 hc1 hby1 hG hm1 ho
   go_wp2_with fail
   clear hpo
   refine CP.out.mono ?_
   rintro e wz ⟨rfl,hbz⟩
   clear CP
   have hPz:=HP.out.ext hbz
   have hz:∀o,Below w2.heap.size w2 (wz.alloc o):=λo=>hPz.b.alloc hPz.b.size o
   by_cases he:er=0
   ·subst he
    have hu:u≤n1:=by
     have:=(getP_okF (bs:=l) (by rw [HG.out])).1
     rw [HG.out,HN.out] at this
     exact this
    obtain ⟨wn,hwn⟩:∃wn,wz.alloc (.cells #[.int .u16 x,.int .u32 y] 25)=wn:=⟨_,rfl⟩
    have hbn:Below wz.heap.size wz wn:=by rw [←hwn];exact bra
    have HPD:=hid ((hPz.ext hbn).ext (Below.refl _ _).drew)
    have HRD:=hid (((HROW.out.ext hbz).ext hbn).ext (Below.refl _ _).drew)
    have hxx:wn.cell? ⟨wz.heap.size,0,none⟩=some (.int .u16 x)∧wn.cell? ⟨wz.heap.size,1,none⟩=some (.int .u32 y):=by rw [←hwn];simp
    have HS:Hid (∀W,Below wn.heap.size wn W→W.cell? ⟨wz.heap.size,0,none⟩=some (.int .u16 x)∧W.cell? ⟨wz.heap.size,1,none⟩=some (.int .u32 y)):=hid λW h=>⟨Zk hxx.1 h,Zk hxx.2 h⟩
    have HNE:Hid (wz.heap.size≠w2.heap.size):=hid (by have:=hPz.lt;omega)
    have HMQ:Hid (Mut (λk=>k=w2.heap.size) wn.drew (wn.drew.setCells w2.heap.size o [.int .u16 x,.int .u32 y])):=hid (Xk.trans Xk)
    obtain ⟨A4,hA4⟩:∃A,(if c1=u then a1 else a1.map (·.add (u * 1)))=A:=⟨_,rfl⟩
    obtain ⟨c4,hc4⟩:∃z,c1 - u=z:=⟨_,rfl⟩
    have hrow2:=HRD.out.cut (k:=u) (c:=c1) (by rw [HN.out];exact HC.out)
    have hfar2:=Zg.cutAF HROW.out (k:=u) (c:=c1) HFAR.out
    rw [hA4] at hrow2 hfar2
    have HROW2:=hid hrow2
    have HFAR2:=hid hfar2
    have HC4:Hid (n1 - u≤c4):=hid (by have:=HC.out;omega)
    have hrun:∀W,(Instr.slice 46 (.slice a1 n1 c1) (some (.int .i64 (u:Nat))) none none).run Tryz.prog W=.ok (.slice A4 (n1 - u) c4) W:=λW=>by
     have h:=Vn (a:=a1) (c:=c1) (n:=n1) (k:=u) hu W
     rw [hA4,hc4] at h
     exact h
    clear hA4 hc4 hrow2 hfar2 hz hPz hbn hxx hbz
    go_wp2_with fail
    try rw [hwn]
    clear hwn
    refine rhd HS.out ((Below.refl _ _).drew) λhHeld=>?_
    refine tkv 0 (.pointer (some ⟨w2.heap.size,o,none⟩)) rfl ?_
    refine tkv 1 (.agg #[.int .u16 x,.int .u32 y]) rfl ?_
    refine tkv 2 (.slice a1 n1 c1) rfl ?_
    refine tkv 3 (.int .i64 (u:Nat)) rfl ?_
    refine tkv 4 (.slice A4 (n1 - u) c4) rfl ?_
    refine tkv 5 (.pointer (some ⟨w2.heap.size,o,none⟩)) rfl ?_
    refine rd1 6 rfl λK hK=>?_
    refine (show _ from ?_)
    rw [if_pos (by rfl)]
    refine wp_store_mid 25 _ _ rfl w2.heap.size o #[.int .u16 x,.int .u32 y] rfl rfl (HPD.out.there HO.out) (by kernel_rfl) (by simp [Value.oneCell']) ?_
    refine hK.out _ _ ⟨ZL (HS.out _ (Below.refl _ _).drew).1 HMQ.out HNE.out,ZL (HS.out _ (Below.refl _ _).drew).2 HMQ.out HNE.out⟩ (λhHeld=>?_)
    clear hK K
    try simp only [lay]
    refine tkv 7 (.slice A4 (n1 - u) c4) rfl ?_
    refine dn ?_
    go_wp2_with fail
    go_roundw
    case rel=>exact ⟨k+1,A4,n1 - u,c4,l.drop u,by omega,by go_num,rfl,by rw [List.length_drop,HN.out],HC4.out,by have:=HM.out;omega,λb hb=>HBY.out b (List.mem_of_mem_drop hb),HROW2.out.setFar2 HFAR2.out,HFAR2.out,HPD.out.put HO.out x y⟩
    case measure=>simp [intOf];omega
   ·have tE:decide ((er:Int)=0)=false:=decide_eq_false (by omega)
    have tE':decide (er=0)=false:=decide_eq_false he
    go_wp2_with (refine wpList_store_mid rfl 111 _ _ rfl w.heap.size 0 pk0.toArray rfl rfl (HT.out _ (hz _)).1 Jv JC ?_)
    exact Ev (HT.out _ (hz _)).1 (Nat.le_refl _) (HT.out _ (hz _)).2 rfl rfl rfl
  ·have tk:decide ((k:Int)<2)=false:=decide_eq_false (by omega)
   obtain ⟨g,u,er,hG⟩:∃g u er,Kr l=(g,u,er):=⟨_,_,_,rfl⟩
   have HG:=hid hG
   have CS:=hid (Yi (c:=c1) (w:=wr) HG (hid hn1) (by omega) hby1 hrow1)
   have HP:=hid hP
   have HROW:=hid hrow1
   have HN:=hid hn1
   have HC:=hid hc1
   have HM:=hid hm1
   clear hrow1 hfar1 hn1 hc1 hby1 hG hm1 hP
   go_wp2_with fail
   refine CS.out.mono ?_
   rintro e wz ⟨rfl,rfl⟩
   clear CS
   rename World=>wr
   by_cases he:er=0
   ·subst he
    have hu:u≤n1:=by
     have:=(Fl (bs:=l) (by rw [HG.out])).2.1
     rw [HG.out,HN.out] at this
     exact this
    obtain ⟨A4,hA4⟩:∃A,(if c1=u then a1 else a1.map (·.add (u * 1)))=A:=⟨_,rfl⟩
    obtain ⟨c4,hc4⟩:∃z,c1 - u=z:=⟨_,rfl⟩
    have hrow2:=HROW.out.cut (k:=u) (c:=c1) (by rw [HN.out];exact HC.out)
    rw [hA4] at hrow2
    have hl2:(l.drop u).length=n1 - u:=by rw [List.length_drop,HN.out]
    have CC:=hid (Xb (c:=c4) (hid hl2) (by have:=HM.out;omega) hrow2)
    have hrun:∀W,(Instr.slice 46 (.slice a1 n1 c1) (some (.int .i64 (u:Nat))) none none).run Tryz.prog W=.ok (.slice A4 (n1 - u) c4) W:=λW=>by
     have h:=Vn (a:=a1) (c:=c1) (n:=n1) (k:=u) hu W
     rw [hA4,hc4] at h
     exact h
    have HL2:=hid hl2
    clear hA4 hc4 hrow2 hl2
    go_wp2_with fail
    refine CC.out.mono ?_
    rintro e w3 ⟨bv,rfl,hob,hb3⟩
    obtain ⟨ba,bc,hbv,-,-,-⟩:=hob.rowF
    rw [HL2.out] at hbv
    subst hbv
    obtain ⟨bn,hbn⟩:∃z,n1 - u=z:=⟨_,rfl⟩
    rw [hbn]
    have hP3:=HP.out.ext hb3
    obtain ⟨kd,sq,x1,y1,x2,y2,ba0,bn0,bc0,ho⟩:=hP3.o
    have q5:=ho.cell (j:=5) rfl
    have q6:=ho.cell (j:=6) rfl
    have f5:=ho.f 5
    have f6:=ho.f 6
    obtain ⟨w4,hw4⟩:∃w4,(w3.setCell ⟨w2.heap.size,5,none⟩ (.int .u64 (g:Nat))).setCell ⟨w2.heap.size,6,none⟩ (.slice ba bn bc)=w4:=⟨_,rfl⟩
    have hO:Xe w4 w2.heap.size [.int .i64 kd,.int .u16 x1,.int .u32 y1,.int .u16 x2,.int .u32 y2,.int .u64 (g:Nat),.slice ba bn bc]:=by
     rw [←hw4]
     exact (ho.set (j:=5) (by simp) (.int .u64 (g:Nat))).set (j:=6) (by simp) (.slice ba bn bc)
    have hB4:Below w2.heap.size w2 w4:=by rw [←hw4];exact Zi (Zi hP3.b (Nat.le_refl _)) (Nat.le_refl _)
    have HO:=hid hO
    have HB4:=hid hB4
    have CF:=hid (zcM (kd:=kd) (x1:=x1) (y1:=y1) (x2:=x2) (y2:=y2) (sq:=(g:Nat)) (ba:=ba) (n:=bn) (bc:=bc) (w:=w4))
    have HL4:Hid (w2.heap.size<w4.heap.size):=hid (hO.lt (by simp))
    clear CC hrun ho hP3 hob hO hB4 hu hbn
    go_wp2_with (refine wpList_load_mid rfl 111 _ rfl w2.heap.size 0 rfl [.int .i64 kd,.int .u16 x1,.int .u32 y1,.int .u16 x2,.int .u32 y2,.int .u64 (g:Nat),.slice ba bn bc] _ HO.out.r Tryz.underlying111 rfl (zbM _ _ _ _ _ _ _) ?_)
    refine CF.out.mono ?_
    rintro e w5 ⟨⟨ef,rfl⟩,hb5⟩
    clear CF hw4 q5 q6 f5 f6
    have HO5:=hid (HO.out.ext hb5 HL4.out)
    have hB5:=HB4.out.trans (hb5.mono (Nat.le_of_lt HL4.out))
    by_cases he:ef=0
    ·subst he
     go_wp2_with (first | (refine wpList_load_mid rfl 111 _ rfl w2.heap.size 0 rfl [.int .i64 kd,.int .u16 x1,.int .u32 y1,.int .u16 x2,.int .u32 y2,.int .u64 (g:Nat),.slice ba bn bc] _ HO5.out.r Tryz.underlying111 rfl (zbM _ _ _ _ _ _ _) ?_) | (refine wpList_store_mid rfl 111 _ _ rfl w.heap.size 0 #[.int .i64 kd,.int .u16 x1,.int .u32 y1,.int .u16 x2,.int .u32 y2,.int .u64 (g:Nat),.slice ba bn bc] rfl rfl (HT.out _ hB5).1 (zbM _ _ _ _ _ _ _) (by simp [Value.oneCell']) ?_))
     exact Ev (HT.out _ hB5).1 (Nat.le_refl _) (HT.out _ hB5).2 rfl rfl rfl
    ·have tE:decide (ef=0)=false:=decide_eq_false he
     go_wp2_with (refine wpList_store_mid rfl 111 _ _ rfl w.heap.size 0 pk0.toArray rfl rfl (HT.out _ hB5).1 Jv JC ?_)
     exact Ev (HT.out _ hB5).1 (Nat.le_refl _) (HT.out _ hB5).2 rfl rfl rfl
   ·have tE:decide ((er:Int)=0)=false:=decide_eq_false (by omega)
    have tE':decide (er=0)=false:=decide_eq_false he
    have hB5:=HP.out.b
    go_wp2_with (refine wpList_store_mid rfl 111 _ _ rfl w.heap.size 0 pk0.toArray rfl rfl (HT.out _ hB5).1 Jv JC ?_)
    exact Ev (HT.out _ hB5).1 (Nat.le_refl _) (HT.out _ hB5).2 rfl rfl rfl
end Go.Proofs.YtcdpaflmofljaaaGreat
