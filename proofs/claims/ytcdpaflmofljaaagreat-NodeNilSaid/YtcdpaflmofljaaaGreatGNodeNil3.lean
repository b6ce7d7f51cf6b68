import Derived.Test.YtcdpaflmofljaaaGreatGNodeNil2
/- Parts of the proof of NodeNil: X24. -/
namespace Go.Proofs.YtcdpaflmofljaaaGreat
open Go.RowKit
theorem GU (V:Zs):Vh V ZS=decide (V=ZS):=by
 obtain ⟨a,b,c,d⟩:=V
 rw [Bool.eq_iff_iff]
 simp only [Vh,ZS,Bool.and_eq_true,decide_eq_true_eq,Zs.mk.injEq]
 exact ⟨λ⟨h1,h2,h3,h4⟩=>⟨of_decide_eq_true h1,of_decide_eq_true h2,of_decide_eq_true h3,of_decide_eq_true h4⟩,λ⟨h1,h2,h3,h4⟩=>⟨decide_eq_true h1,decide_eq_true h2,decide_eq_true h3,decide_eq_true h4⟩⟩
theorem cmdChk_0 {A:Xu} (h1:A.kind≠1) (h2:A.kind≠2) (h3:A.kind≠3):YE A=1:=by
 unfold YE;rw [if_neg h1,if_neg h2,if_neg h3]
theorem cmdChk_1 {A:Xu} {r:Bool} (h1:A.kind=1) (hr:XK A ⟨1,(0,0),0,0,[],ZS⟩=r):YE A=if r then 0 else 1:=by
 unfold YE;rw [if_pos h1,← hr]
 congr 1
 simp [XK,GU,h1]
theorem cmdChk_2 {A:Xu} {r:Bool} (h2:A.kind=2) (hm:Ez A.fr=true) (hn:zaE A.num=true) (hv:zaE A.vw=true) (hr:XK A ⟨2,A.fr,A.num,A.vw,A.data,ZS⟩=r):YE A=if r then (if 200<A.data.length then 14 else 0) else 1:=by
 unfold YE;rw [if_neg (by omega),if_pos h2,← hr]
 congr 1
 simp [XK,GU,h2,hm,hn,hv]
theorem QY {A:Xu} (h2:A.kind=2) (hm:Ez A.fr=false∨zaE A.num=false∨zaE A.vw=false):YE A=1:=by
 unfold YE;rw [if_neg (by omega),if_pos h2,if_neg]
 rintro ⟨a,b,c,-⟩
 rcases hm with h | h | h <;> simp_all
theorem cmdChk_3 {A:Xu} {r:Bool} (h3:A.kind=3) (hc:Vu A.v=true) (hr:XK A ⟨3,(0,0),0,0,[],A.v⟩=r):YE A=if r then 0 else 1:=by
 unfold YE;rw [if_neg (by omega),if_neg (by omega),if_pos h3,← hr]
 congr 1
 simp [XK,zcy,h3,hc]
theorem zd7 {A:Xu} (h3:A.kind=3) (hc:Vu A.v=false):YE A=1:=by
 unfold YE;rw [if_neg (by omega),if_neg (by omega),if_pos h3,if_neg]
 rintro ⟨-,-,-,-,h⟩;rw [hc] at h;cases h
theorem GL {A B:Xu} (h:XK A B=true):A.data=B.data:=by
 unfold XK at h;simp at h;exact h.2.2.2.2.1
theorem Eb.zero (w:World) (k:Int):Eb w none none none none ⟨k,(0,0),0,0,[],ZS⟩ :=
 ⟨.inl rfl,by simp,by simp,⟨.inl rfl,.inl rfl,.inl rfl,by simp [ZS],by simp [ZS],by simp [ZS],by simp [ZS]⟩⟩
theorem Eb.some {w:World} {da am al ad:Option Addr} {c:Xu} (h:Eb w da am al ad c) (k:Int):Eb w da none none none ⟨k,c.fr,c.num,c.vw,c.data,ZS⟩ :=
 ⟨h.dr,h.dl,h.db,⟨.inl rfl,.inl rfl,.inl rfl,by simp [ZS],by simp [ZS],by simp [ZS],by simp [ZS]⟩⟩
theorem Eb.view {w:World} {da am al ad:Option Addr} {c:Xu} (h:Eb w da am al ad c) (k:Int):Eb w none am al ad ⟨k,(0,0),0,0,[],c.v⟩ :=
 ⟨.inl rfl,by simp,by simp,h.v⟩
theorem Fj {w:World} {b q c j:Nat} {x:Value} (hc:c≠b):(w.setCell ⟨b,q,none⟩ x).cell? ⟨c,j,none⟩=w.cell? ⟨c,j,none⟩ :=
 World.cell?_setCell_other _ _ _ _ (by intro e;injection e with e1;exact hc e1.symm)
theorem Zi {B:Nat} {w W:World} {b o:Nat} {u:Value} (h:Below B w W) (hb:B≤b):Below B w (W.setCell ⟨b,o,none⟩ u):=h.setCell (p:=⟨b,o,none⟩) hb u
theorem QL {x y:Int} {w:World} {r:Bool} (h:Hid (Ez (x,y)=r)) (hy:0≤y):Calls Tryz.prog 159 #[.agg #[.int .u16 x,.int .u32 y]] w λe w'=>e=.returned (.bool r)∧Below w.heap.size w w':=by
 have:=mayP_any x y hy w
 rw [h.out] at this;exact this
theorem Vx {n:Nat} {w:World} {r:Bool} (h:Hid (zaE n=r)):Calls Tryz.prog 296 #[.int .u64 n] w λe w'=>e=.returned (.bool r)∧w'=w:=by
 have:=zbg n w
 rw [h.out] at this;exact this
structure ZV (w:World) (b:Nat) (u0 u1 u2 u3 u4 u5 u6 u7 u8 u9:Value):Prop where
 c0:w.cell? ⟨b,0,none⟩=some u0
 c1:w.cell? ⟨b,1,none⟩=some u1
 c2:w.cell? ⟨b,2,none⟩=some u2
 c3:w.cell? ⟨b,3,none⟩=some u3
 c4:w.cell? ⟨b,4,none⟩=some u4
 c5:w.cell? ⟨b,5,none⟩=some u5
 c6:w.cell? ⟨b,6,none⟩=some u6
 c7:w.cell? ⟨b,7,none⟩=some u7
 c8:w.cell? ⟨b,8,none⟩=some u8
 c9:w.cell? ⟨b,9,none⟩=some u9
 f:∀j,w.frozen? ⟨b,j,none⟩=false
theorem ZV.ext {w w':World} {b:Nat} {u0 u1 u2 u3 u4 u5 u6 u7 u8 u9:Value} (h:ZV w b u0 u1 u2 u3 u4 u5 u6 u7 u8 u9) {B:Nat} (hb:Below B w w') (hB:b<B):ZV w' b u0 u1 u2 u3 u4 u5 u6 u7 u8 u9:=by
 have g:∀k,w'.cell? ⟨b,k,none⟩=w.cell? ⟨b,k,none⟩:=λk=>hb.cell (by exact hB)
 exact ⟨(g 0).trans h.c0,(g 1).trans h.c1,(g 2).trans h.c2,(g 3).trans h.c3,(g 4).trans h.c4,(g 5).trans h.c5,(g 6).trans h.c6,(g 7).trans h.c7,(g 8).trans h.c8,(g 9).trans h.c9,λj=>(hb.frozen (by exact hB)).trans (h.f j)⟩
theorem ZV.made (w:World) (u0 u1 u2 u3 u4 u5 u6 u7 u8 u9:Value) (t:TypeId) {b:Nat} (h:b=w.heap.size):ZV (w.alloc (.cells #[u0,u1,u2,u3,u4,u5,u6,u7,u8,u9] t)) b u0 u1 u2 u3 u4 u5 u6 u7 u8 u9:=by
 subst h
 exact ⟨by simp,by simp,by simp,by simp,by simp,by simp,by simp,by simp,by simp,by simp,λj=>World.frozen?_alloc_at _ _ _ _ rfl⟩
section
variable {A:Xu} {da am al ad:Option Addr} {dc cm cl cd:Nat} {w:World} {r:Bool} {k:Int} (hA:Eb w da am al ad A)
include hA
theorem zaB (h:Hid (XK A ⟨k,(0,0),0,0,[],ZS⟩=r)) :
  Calls Tryz.prog 297 #[.agg #[.int .i64 A.kind,.int .u16 A.fr.1,.int .u32 A.fr.2,.int .u64 A.num,.int .u64 A.vw,.slice da A.data.length dc,.int .u64 A.v.id,.slice am A.v.ms.length cm,.slice al A.v.ls.length cl,.slice ad A.v.ds.length cd],
   .agg #[.int .i64 k,.int .u16 0,.int .u32 0,.int .u64 0,.int .u64 0,.slice none 0 0,.int .u64 0,.slice none 0 0,.slice none 0 0,.slice none 0 0]] w λe w'=>e=.returned (.bool r)∧Below w.heap.size w w':=by
 have:=KX (dc:=dc) (cm:=cm) (cl:=cl) (cd:=cd) (ec:=0) (em:=0) (el:=0) (ed:=0) hA (Eb.zero w k)
 rw [h.out] at this;exact this
theorem Qp (h:Hid (XK A ⟨k,A.fr,A.num,A.vw,A.data,ZS⟩=r)) :
  Calls Tryz.prog 297 #[.agg #[.int .i64 A.kind,.int .u16 A.fr.1,.int .u32 A.fr.2,.int .u64 A.num,.int .u64 A.vw,.slice da A.data.length dc,.int .u64 A.v.id,.slice am A.v.ms.length cm,.slice al A.v.ls.length cl,.slice ad A.v.ds.length cd],
   .agg #[.int .i64 k,.int .u16 A.fr.1,.int .u32 A.fr.2,.int .u64 A.num,.int .u64 A.vw,.slice da A.data.length dc,.int .u64 0,.slice none 0 0,.slice none 0 0,.slice none 0 0]] w λe w'=>e=.returned (.bool r)∧Below w.heap.size w w':=by
 have:=KX (dc:=dc) (cm:=cm) (cl:=cl) (cd:=cd) (ec:=dc) (em:=0) (el:=0) (ed:=0) hA (hA.some k)
 rw [h.out] at this;exact this
theorem zas (h:Hid (XK A ⟨k,(0,0),0,0,[],A.v⟩=r)) :
  Calls Tryz.prog 297 #[.agg #[.int .i64 A.kind,.int .u16 A.fr.1,.int .u32 A.fr.2,.int .u64 A.num,.int .u64 A.vw,.slice da A.data.length dc,.int .u64 A.v.id,.slice am A.v.ms.length cm,.slice al A.v.ls.length cl,.slice ad A.v.ds.length cd],
   .agg #[.int .i64 k,.int .u16 0,.int .u32 0,.int .u64 0,.int .u64 0,.slice none 0 0,.int .u64 A.v.id,.slice am A.v.ms.length cm,.slice al A.v.ls.length cl,.slice ad A.v.ds.length cd]] w λe w'=>e=.returned (.bool r)∧Below w.heap.size w w':=by
 have:=KX (dc:=dc) (cm:=cm) (cl:=cl) (cd:=cd) (ec:=0) (em:=cm) (el:=cl) (ed:=cd) hA (hA.view k)
 rw [h.out] at this;exact this
end
set_option maxRecDepth 100000 in
set_option maxHeartbeats 6400000 in
theorem zay {A:Xu} {da am al ad:Option Addr} {dc cm cl cd:Nat} {w:World} (hA:Eb w da am al ad A) (hsum:Kg A.v.ls≤549755813888) (hwf:XC A.v.ms) (hfr:okP A.fr) :
  Calls Tryz.prog 202 #[.agg (Gp da am al ad dc cm cl cd A)] w λe w'=>e=.returned (.int .i64 (YE A))∧Below w.heap.size w w':=by
 have xA:XX (w.alloc (.cells (Gp da am al ad dc cm cl cd A) 126)) w.heap.size A da am al ad dc cm cl cd:=XX.made (c:=A) w
 have hB1:Below w.heap.size w (w.alloc (.cells (Gp da am al ad dc cm cl cd A) 126)):=bra
 have hl:∀(x:Xu) (da am al ad:Option Addr) (dc cm cl cd:Nat),Gp da am al ad dc cm cl cd x=#[.int .i64 x.kind,.int .u16 x.fr.1,.int .u32 x.fr.2,.int .u64 x.num,.int .u64 x.vw,.slice da x.data.length dc,.int .u64 x.v.id,.slice am x.v.ms.length cm,.slice al x.v.ls.length cl,.slice ad x.v.ds.length cd]:=λ_ _ _ _ _ _ _ _ _=>rfl
 simp only [hl] at *
 have hB2:Below w.heap.size w ((w.alloc (.cells #[.int .i64 A.kind,.int .u16 A.fr.1,.int .u32 A.fr.2,.int .u64 A.num,.int .u64 A.vw,.slice da A.data.length dc,.int .u64 A.v.id,.slice am A.v.ms.length cm,.slice al A.v.ls.length cl,.slice ad A.v.ds.length cd] 126)).alloc (.cells #[.int .i64 A.kind,.int .u16 0,.int .u32 0,.int .u64 0,.int .u64 0,.slice none 0 0,.int .u64 0,.slice none 0 0,.slice none 0 0,.slice none 0 0] 126)):=hB1.alloc hB1.size _
 have x2:XX ((w.alloc (.cells #[.int .i64 A.kind,.int .u16 A.fr.1,.int .u32 A.fr.2,.int .u64 A.num,.int .u64 A.vw,.slice da A.data.length dc,.int .u64 A.v.id,.slice am A.v.ms.length cm,.slice al A.v.ls.length cl,.slice ad A.v.ds.length cd] 126)).alloc (.cells #[.int .i64 A.kind,.int .u16 0,.int .u32 0,.int .u64 0,.int .u64 0,.slice none 0 0,.int .u64 0,.slice none 0 0,.slice none 0 0,.slice none 0 0] 126)) w.heap.size A da am al ad dc cm cl cd:=xA.ext (bra) xA.lt
 have hA2:=hA.ext hB2
 have hz:w.heap.size+1<((w.alloc (.cells #[.int .i64 A.kind,.int .u16 A.fr.1,.int .u32 A.fr.2,.int .u64 A.num,.int .u64 A.vw,.slice da A.data.length dc,.int .u64 A.v.id,.slice am A.v.ms.length cm,.slice al A.v.ls.length cl,.slice ad A.v.ds.length cd] 126)).alloc (.cells #[.int .i64 A.kind,.int .u16 0,.int .u32 0,.int .u64 0,.int .u64 0,.slice none 0 0,.int .u64 0,.slice none 0 0,.slice none 0 0,.slice none 0 0] 126)).heap.size:=by simp
 have bZ:ZV ((w.alloc (.cells #[.int .i64 A.kind,.int .u16 A.fr.1,.int .u32 A.fr.2,.int .u64 A.num,.int .u64 A.vw,.slice da A.data.length dc,.int .u64 A.v.id,.slice am A.v.ms.length cm,.slice al A.v.ls.length cl,.slice ad A.v.ds.length cd] 126)).alloc (.cells #[.int .i64 A.kind,.int .u16 0,.int .u32 0,.int .u64 0,.int .u64 0,.slice none 0 0,.int .u64 0,.slice none 0 0,.slice none 0 0,.slice none 0 0] 126)) (w.heap.size+1) (.int .i64 A.kind) (.int .u16 0) (.int .u32 0) (.int .u64 0) (.int .u64 0) (.slice none 0 0) (.int .u64 0) (.slice none 0 0) (.slice none 0 0) (.slice none 0 0):=ZV.made _ _ _ _ _ _ _ _ _ _ _ _ (by simp)
 by_cases h1:A.kind=1
 ·have h1':(A.kind == 1)=true:=by simpa using h1
  obtain ⟨r,hr⟩:∃r,XK A ⟨1,(0,0),0,0,[],ZS⟩=r:=⟨_,rfl⟩
  have HC:=hid (cmdChk_1 h1 hr)
  have HR:Hid (XK A ⟨A.kind,(0,0),0,0,[],ZS⟩=r):=by rw [h1];exact hid hr
  obtain ⟨a0,a1,a2,a3,a4,a5,a6,a7,a8,a9⟩:=id x2
  cases r
  ·clear h1 hr
   go_enter Tryz.func202,Tryz.ntmps202
   go_wp2_with (go_at_call 297;(with_reducible refine (zaB hA2 HR).mono ?_);rintro e w3 ⟨rfl,hb3⟩)
   go_ret
   exact ⟨by rw [HC.out];rfl,hB2.trans (hb3.mono hB2.size)⟩
  ·have hd0:A.data.length=0:=by rw [GL hr];rfl
   have hd:decide ((A.data.length:Int) > 200)=false:=by simp;omega
   have hd':decide ((200:Int)<(A.data.length:Int))=false:=by simp;omega
   clear h1 hr hd0
   go_enter Tryz.func202,Tryz.ntmps202
   go_wp2_with (go_at_call 297;(with_reducible refine (zaB hA2 HR).mono ?_);rintro e w3 ⟨rfl,hb3⟩;obtain ⟨p0,p1,p2,p3,p4,p5,p6,p7,p8,p9⟩:=x2.ext hb3 x2.lt)
   go_ret
   exact ⟨by rw [HC.out];rfl,hB2.trans (hb3.mono hB2.size)⟩
 ·have h1':(A.kind == 1)=false:=by simpa using h1
  by_cases h2:A.kind=2
  ·have h2':(A.kind == 2)=true:=by simpa using h2
   obtain ⟨a0,a1,a2,a3,a4,a5,a6,a7,a8,a9⟩:=id x2
   have hfy:=hfr.2.2.1
   cases hm:Ez A.fr
   ·have HC:=hid (QY h2 (.inl hm))
    have HM:Hid (Ez (A.fr.1,A.fr.2)=false):=hm
    clear h1 h2 hm
    go_enter Tryz.func202,Tryz.ntmps202
    go_wp2_with (go_at_call 159;(with_reducible refine (QL HM hfy).mono ?_);rintro e w3 ⟨rfl,hb3⟩)
    go_ret
    exact ⟨by rw [HC.out];rfl,hB2.trans (hb3.mono hB2.size)⟩
   ·have HM:Hid (Ez (A.fr.1,A.fr.2)=true):=hm
    cases hn:zaE A.num
    ·have HC:=hid (QY h2 (.inr (.inl hn)))
     have HN:=hid hn
     clear h1 h2 hm hn
     go_enter Tryz.func202,Tryz.ntmps202
     go_wp2_with (first
      | (go_at_call 159;(with_reducible refine (QL HM hfy).mono ?_);rintro e w3 ⟨rfl,hb3⟩;obtain ⟨p0,p1,p2,p3,p4,p5,p6,p7,p8,p9⟩:=x2.ext hb3 x2.lt)
      | (go_at_call 296;(with_reducible refine (Vx HN).mono ?_);rintro e w4 ⟨rfl,hw4⟩;have hw4:=hw4.symm;subst hw4))
     go_ret
     exact ⟨by rw [HC.out];rfl,hB2.trans (hb3.mono hB2.size)⟩
    ·have HN:=hid hn
     cases hv:zaE A.vw
     ·have HC:=hid (QY h2 (.inr (.inr hv)))
      have HV:=hid hv
      clear h1 h2 hm hn hv
      go_enter Tryz.func202,Tryz.ntmps202
      go_wp2_with (first
       | (go_at_call 159;(with_reducible refine (QL HM hfy).mono ?_);rintro e w3 ⟨rfl,hb3⟩;obtain ⟨p0,p1,p2,p3,p4,p5,p6,p7,p8,p9⟩:=x2.ext hb3 x2.lt)
       | (go_at_call 296;first
        | ((with_reducible refine (Vx HN).mono ?_);rintro e w4 ⟨rfl,hw4⟩;have hw4:=hw4.symm;subst hw4)
        | ((with_reducible refine (Vx HV).mono ?_);rintro e w5 ⟨rfl,hw5⟩;have hw5:=hw5.symm;subst hw5)))
      go_ret
      exact ⟨by rw [HC.out];rfl,hB2.trans (hb3.mono hB2.size)⟩
     ·have HV:=hid hv
      obtain ⟨r,hr⟩:∃r,XK A ⟨2,A.fr,A.num,A.vw,A.data,ZS⟩=r:=⟨_,rfl⟩
      have HC:=hid (cmdChk_2 h2 hm hn hv hr)
      have HR:Hid (XK A ⟨A.kind,A.fr,A.num,A.vw,A.data,ZS⟩=r):=by rw [h2];exact hid hr
      clear h1 h2 hm hn hv hr
      go_enter Tryz.func202,Tryz.ntmps202
      go_wp2_with (first
       | (go_at_call 159;(with_reducible refine (QL HM hfy).mono ?_);rintro e w3 ⟨rfl,hb3⟩;obtain ⟨p0,p1,p2,p3,p4,p5,p6,p7,p8,p9⟩:=x2.ext hb3 x2.lt;obtain ⟨q0,q1,q2,q3,q4,q5,q6,q7,q8,q9,qf⟩:=bZ.ext hb3 hz;have f1:=qf 1;have f2:=qf 2;have f3:=qf 3;have f4:=qf 4;have f5:=qf 5;have hs3:=hb3.size)
       | (go_at_call 296;first
        | ((with_reducible refine (Vx HN).mono ?_);rintro e w4 ⟨rfl,hw4⟩;have hw4:=hw4.symm;subst hw4)
        | ((with_reducible refine (Vx HV).mono ?_);rintro e w5 ⟨rfl,hw5⟩;have hw5:=hw5.symm;subst hw5)))
      have HS:Hid (∀W,Below (w.heap.size+1) w3 W→W.cell? ⟨w.heap.size,1,none⟩=some (.int .u16 A.fr.1)∧W.cell? ⟨w.heap.size,2,none⟩=some (.int .u32 A.fr.2)∧W.cell? ⟨w.heap.size,3,none⟩=some (.int .u64 A.num)∧W.cell? ⟨w.heap.size,4,none⟩=some (.int .u64 A.vw)∧W.cell? ⟨w.heap.size,5,none⟩=some (.slice da A.data.length dc)):=hid λW h =>
       ⟨(h.cell (by exact Nat.lt_succ_self _)).trans p1,(h.cell (by exact Nat.lt_succ_self _)).trans p2,(h.cell (by exact Nat.lt_succ_self _)).trans p3,(h.cell (by exact Nat.lt_succ_self _)).trans p4,(h.cell (by exact Nat.lt_succ_self _)).trans p5⟩
      go_region_held3 (λW=>W.cell? ⟨w.heap.size,1,none⟩=some (.int .u16 A.fr.1)∧W.cell? ⟨w.heap.size,2,none⟩=some (.int .u32 A.fr.2)∧W.cell? ⟨w.heap.size,3,none⟩=some (.int .u64 A.num)∧W.cell? ⟨w.heap.size,4,none⟩=some (.int .u64 A.vw)∧W.cell? ⟨w.heap.size,5,none⟩=some (.slice da A.data.length dc)) (first
       | exact HS.out _ (Below.refl _ _).drew
       | (refine HS.out _ ?_;repeat (first | exact Below.refl _ _ | refine Below.drew ?_ | refine Zi ?_ (Nat.le_refl _)))) (fail)
      have hW5:=Below.drew (Zi (o:=5) (u:=.slice da A.data.length dc) (Zi (o:=4) (u:=.int .u64 A.vw) (Zi (o:=3) (u:=.int .u64 A.num) (Zi (o:=2) (u:=.int .u32 A.fr.2) (Zi (b:=w.heap.size+1) (o:=1) (u:=.int .u16 A.fr.1) (hB2.trans (hb3.mono hB2.size)) (Nat.le_succ _)) (Nat.le_succ _)) (Nat.le_succ _)) (Nat.le_succ _)) (Nat.le_succ _))
      have r5:(((((w3.setCell ⟨w.heap.size+1,1,none⟩ (.int .u16 A.fr.1)).setCell ⟨w.heap.size+1,2,none⟩ (.int .u32 A.fr.2)).setCell ⟨w.heap.size+1,3,none⟩ (.int .u64 A.num)).setCell ⟨w.heap.size+1,4,none⟩ (.int .u64 A.vw)).setCell ⟨w.heap.size+1,5,none⟩ (.slice da A.data.length dc)).drew.cell? ⟨w.heap.size,5,none⟩=some (.slice da A.data.length dc):=(HS.out _ (by repeat (first | exact Below.refl _ _ | refine Below.drew ?_ | refine Zi ?_ (Nat.le_refl _)))).2.2.2.2
      cases r
      ·go_wp2_with (go_at_call 297;(with_reducible refine (Qp (hA.ext hW5) HR).mono ?_);rintro e w6 ⟨rfl,hb6⟩;have s5:=(hb6.cell (p:=⟨w.heap.size,5,none⟩) (World.block_lt_of_cell? _ _ r5)).trans r5)
       go_ret
       exact ⟨by rw [HC.out];rfl,hW5.trans (hb6.mono hW5.size)⟩
      ·by_cases hdl:200<A.data.length
       ·have hd:decide ((A.data.length:Int) > 200)=true:=by simp;omega
        have hd':decide ((200:Int)<(A.data.length:Int))=true:=by simp;omega
        have HDL:Hid (200<A.data.length):=hdl
        clear hdl
        go_wp2_with (go_at_call 297;(with_reducible refine (Qp (hA.ext hW5) HR).mono ?_);rintro e w6 ⟨rfl,hb6⟩;have s5:=(hb6.cell (p:=⟨w.heap.size,5,none⟩) (World.block_lt_of_cell? _ _ r5)).trans r5)
        go_ret
        exact ⟨by rw [HC.out];simp [HDL.out],hW5.trans (hb6.mono hW5.size)⟩
       ·have hd:decide ((A.data.length:Int) > 200)=false:=by simp;omega
        have hd':decide ((200:Int)<(A.data.length:Int))=false:=by simp;omega
        have HDL:Hid (¬ 200<A.data.length):=hdl
        clear hdl
        go_wp2_with (go_at_call 297;(with_reducible refine (Qp (hA.ext hW5) HR).mono ?_);rintro e w6 ⟨rfl,hb6⟩;have s5:=(hb6.cell (p:=⟨w.heap.size,5,none⟩) (World.block_lt_of_cell? _ _ r5)).trans r5)
        go_ret
        exact ⟨by rw [HC.out];simp [HDL.out],hW5.trans (hb6.mono hW5.size)⟩
  ·have h2':(A.kind == 2)=false:=by simpa using h2
   by_cases h3:A.kind=3
   ·have h3':(A.kind == 3)=true:=by simpa using h3
    obtain ⟨a0,a1,a2,a3,a4,a5,a6,a7,a8,a9⟩:=id x2
    cases hc:Xh A.v
    ·have HC:=hid (zd7 h3 ((zbI A.v hwf).symm.trans hc))
     have HK:=hid hc
     clear hc h1 h2 h3
     go_enter Tryz.func202,Tryz.ntmps202
     go_wp2_with (go_at_call 193;(with_reducible refine (Fg HK rfl hA2.v hsum).mono ?_);rintro e w3 ⟨rfl,hb3⟩)
     go_ret
     exact ⟨by rw [HC.out];rfl,hB2.trans (hb3.mono hB2.size)⟩
    ·obtain ⟨r,hr⟩:∃r,XK A ⟨3,(0,0),0,0,[],A.v⟩=r:=⟨_,rfl⟩
     have HC:=hid (cmdChk_3 h3 ((zbI A.v hwf).symm.trans hc) hr)
     have HR:Hid (XK A ⟨A.kind,(0,0),0,0,[],A.v⟩=r):=by rw [h3];exact hid hr
     have HK:=hid hc
     cases r
     ·clear hc hr h1 h2 h3
      go_enter Tryz.func202,Tryz.ntmps202
      go_wp2_with (first
       | (go_at_call 193;(with_reducible refine (Fg HK rfl hA2.v hsum).mono ?_);rintro e w3 ⟨rfl,hb3⟩;obtain ⟨p0,p1,p2,p3,p4,p5,p6,p7,p8,p9⟩:=x2.ext hb3 x2.lt;obtain ⟨q0,q1,q2,q3,q4,q5,q6,q7,q8,q9,qf⟩:=bZ.ext hb3 hz;have f6:=qf 6;have f7:=qf 7;have f8:=qf 8;have f9:=qf 9;have hW3:=((((hB2.trans (hb3.mono hB2.size)).setCell (p:=⟨w.heap.size+1,6,none⟩) (Nat.le_succ _) (.int .u64 A.v.id)).setCell (p:=⟨w.heap.size+1,7,none⟩) (Nat.le_succ _) (.slice am A.v.ms.length cm)).setCell (p:=⟨w.heap.size+1,8,none⟩) (Nat.le_succ _) (.slice al A.v.ls.length cl)).setCell (p:=⟨w.heap.size+1,9,none⟩) (Nat.le_succ _) (.slice ad A.v.ds.length cd))
       | (go_at_call 297;(with_reducible refine (zas (hA.ext hW3) HR).mono ?_);rintro e w4 ⟨rfl,hb4⟩))
      go_ret
      exact ⟨by rw [HC.out];rfl,hW3.trans (hb4.mono hW3.size)⟩
     ·have hd0:A.data.length=0:=by rw [GL hr];rfl
      have hd:decide ((A.data.length:Int) > 200)=false:=by simp;omega
      have hd':decide ((200:Int)<(A.data.length:Int))=false:=by simp;omega
      clear hc hr h1 h2 h3 hd0
      go_enter Tryz.func202,Tryz.ntmps202
      go_wp2_with (first
       | (go_at_call 193;(with_reducible refine (Fg HK rfl hA2.v hsum).mono ?_);rintro e w3 ⟨rfl,hb3⟩;obtain ⟨p0,p1,p2,p3,p4,p5,p6,p7,p8,p9⟩:=x2.ext hb3 x2.lt;obtain ⟨q0,q1,q2,q3,q4,q5,q6,q7,q8,q9,qf⟩:=bZ.ext hb3 hz;have f6:=qf 6;have f7:=qf 7;have f8:=qf 8;have f9:=qf 9;have hs3:=hb3.size;have hW3:=((((hB2.trans (hb3.mono hB2.size)).setCell (p:=⟨w.heap.size+1,6,none⟩) (Nat.le_succ _) (.int .u64 A.v.id)).setCell (p:=⟨w.heap.size+1,7,none⟩) (Nat.le_succ _) (.slice am A.v.ms.length cm)).setCell (p:=⟨w.heap.size+1,8,none⟩) (Nat.le_succ _) (.slice al A.v.ls.length cl)).setCell (p:=⟨w.heap.size+1,9,none⟩) (Nat.le_succ _) (.slice ad A.v.ds.length cd))
       | (go_at_call 297;(with_reducible refine (zas (hA.ext hW3) HR).mono ?_);rintro e w4 ⟨rfl,hb4⟩;have r5:=(hb4.cell (p:=⟨w.heap.size,5,none⟩) (by simp at hs3 ⊢;omega)).trans ((Fj (by omega)).trans ((Fj (by omega)).trans ((Fj (by omega)).trans ((Fj (by omega)).trans p5))))))
      go_ret
      exact ⟨by rw [HC.out];rfl,hW3.trans (hb4.mono hW3.size)⟩
   ·have h3':(A.kind == 3)=false:=by simpa using h3
    have HC:=hid (cmdChk_0 h1 h2 h3)
    obtain ⟨a0,a1,a2,a3,a4,a5,a6,a7,a8,a9⟩:=id x2
    clear h1 h2 h3
    go_enter Tryz.func202,Tryz.ntmps202
    go_wp2
    go_ret
    exact ⟨by rw [HC.out];rfl,hB2⟩
end Go.Proofs.YtcdpaflmofljaaaGreat
