import Derived.Test.YtcdpaflmofljaaaGreatGNodeNil11
/- Parts of the proof of NodeNil: E3. -/
namespace Go.Proofs.YtcdpaflmofljaaaGreat
open Go.RowKit
theorem XH {w:World} {ops:Array Oper} {rest:List Oper} {o:Oper} {a:Act} {Q:Exit→Act→World→Prop} {s x:Operand} {base:Nat} {v:Value} {xs:List Pid} {p:Pid} (hown:Zy w base v xs) {ad:Option Addr} {c:Nat} (hy:Zb w ad [p])
  (hlen:xs.length+1≤1099511627776) (hbase:base≤w.heap.size)
  (hg:o.guard=none) (ho:o.op=.call { callee:=.builtin .append,args:=#[s,x],argTypes:=#[26,26] }) (hs:a.eval s=v) (hx:a.eval x=.slice ad 1 c)
  (h:∀v' w',Zy w' base v' (xs ++ [p])→w.grownBy w' v.ownBlock→(v'.ownBlock=v.ownBlock∨v'.ownBlock=some w.heap.size)→wpList Tryz.prog ops Q rest (a.put o.dst v') w'):wpList Tryz.prog ops Q (o :: rest) a w:=by
 obtain ⟨i0,hi,hz0,hz1,hz2⟩:=info_parts EE
 obtain ⟨b,off,rfl,hlt,hc⟩:=hy.get (by simp)
 obtain ⟨v',w',hr,h2,h3,h4,h5⟩:=run_append_own_at (P:=Tryz.prog) w base 26 o.type 25 i0 _ 2 8 Tryz.underlying26 hi hz0 hz1 hz2 rfl (by decide) v xs.length (ZD xs) hown ⟨b,off,none⟩ 1 c (ZD [p]) (ZZ [p]) (Zb.cells hc) (Kc [p]) (by unfold maxLen;omega) (by omega) hbase
 refine Lib.wpList_append_run w hg s x 26 26 ho _ _ hs hx v' w' hr (h v' w' ?_ h3 h5)
 unfold Zy;rw [List.length_append,Xi];exact h2
theorem FS {r:Nat→Int} {x y:Int} {w:World} {b:Bool} (hx:0≤x) (h:Hid (Zv r (x,y)=b)):Calls Tryz.prog 185 #[.agg (KS r),.agg #[.int .u16 x,.int .u32 y]] w λe w'=>e=.returned (.bool b)∧Below w.heap.size w w':=by
 have:=zer r x y w hx
 rw [h.out] at this
 exact this
def Yb (w:World) (b:Nat) (r:Nat→Int):Prop:=∀i,i<16→w.cell? ⟨b,i,none⟩=some (.int .u32 (r i))
theorem Yb.made (w:World) (r:Nat→Int):Yb (w.alloc (.cells (KS r) 92)) w.heap.size r:=λi h=>by
 have hr0:(w.alloc (.cells (KS r) 92)).heap[w.heap.size]?=some (.cells (KS r) 92):=by
  show (w.heap.push _)[w.heap.size]?=_
  simp only [Array.getElem?_push_size]
 simp only [World.cell?,hr0]
 exact FK r h
theorem Yb.ext {w w':World} {b:Nat} {r:Nat→Int} (h:Yb w b r) {B:Nat} (hb:Below B w w') (hB:b<B):Yb w' b r:=λi hi=>(hb.cell (by exact hB)).trans (h i hi)
theorem Yb.all {w:World} {b:Nat} {r:Nat→Int} (h:Yb w b r):w.cell? ⟨b,0,none⟩=some (.int .u32 (r 0))∧w.cell? ⟨b,1,none⟩=some (.int .u32 (r 1))∧w.cell? ⟨b,2,none⟩=some (.int .u32 (r 2))∧w.cell? ⟨b,3,none⟩=some (.int .u32 (r 3))∧w.cell? ⟨b,4,none⟩=some (.int .u32 (r 4))∧w.cell? ⟨b,5,none⟩=some (.int .u32 (r 5))∧w.cell? ⟨b,6,none⟩=some (.int .u32 (r 6))∧w.cell? ⟨b,7,none⟩=some (.int .u32 (r 7))∧w.cell? ⟨b,8,none⟩=some (.int .u32 (r 8))∧w.cell? ⟨b,9,none⟩=some (.int .u32 (r 9))∧w.cell? ⟨b,10,none⟩=some (.int .u32 (r 10))∧w.cell? ⟨b,11,none⟩=some (.int .u32 (r 11))∧w.cell? ⟨b,12,none⟩=some (.int .u32 (r 12))∧w.cell? ⟨b,13,none⟩=some (.int .u32 (r 13))∧w.cell? ⟨b,14,none⟩=some (.int .u32 (r 14))∧w.cell? ⟨b,15,none⟩=some (.int .u32 (r 15)) :=
 ⟨h 0 (by decide),h 1 (by decide),h 2 (by decide),h 3 (by decide),h 4 (by decide),h 5 (by decide),h 6 (by decide),h 7 (by decide),h 8 (by decide),h 9 (by decide),h 10 (by decide),h 11 (by decide),h 12 (by decide),h 13 (by decide),h 14 (by decide),h 15 (by decide)⟩
theorem zbw {S:Pid→Bool} {xs:List Pid} {k:Nat} (h:k<xs.length) {x y:Int} (hx:(x,y)=xs[k]):XJ S (xs.drop k)=if S (x,y)=true then XJ S (xs.drop (k+1)) else (x,y) :: XJ S (xs.drop (k+1)):=by
 unfold XJ
 rw [QW h hx]
 cases S (x,y) <;> simp
def zbk (v u:Value):Prop:=∀g,v.ownBlock=some g→u.ownBlock=none∨u.ownBlock≠some g
theorem kept_r {w w':World} {v u:Value} {A:List Pid} {b:Nat} (hv:Zy w b v A) (hg:w.grownBy w' u.ownBlock) (hap:zbk v u):Zy w' b v A :=
 World.ownsRow.kept hv hg (by
  rcases hq:v.ownBlock with _ | g
  ·exact .inl rfl
  ·right;intro e;rcases hap g hq with h | h
   ·rw [←e] at h;cases h
   ·exact h e.symm)
theorem kept_l {w w':World} {v u:Value} {B:List Pid} {b:Nat} (hu:Zy w b u B) (hg:w.grownBy w' v.ownBlock) (hap:zbk v u):Zy w' b u B :=
 World.ownsRow.kept hu hg (by
  rcases hq:v.ownBlock with _ | g
  ·rcases hu:u.ownBlock with _ | g
   ·exact .inl rfl
   ·right;simp
  ·exact hap g hq)
theorem apart_r {w:World} {v u u':Value} {A:List Pid} {b n:Nat} (hv:Zy w b v A) (hn:w.heap.size≤n) (h:u'.ownBlock=u.ownBlock∨u'.ownBlock=some n) (hap:zbk v u):zbk v u':=λg hg=>by
 rcases h with h | h
 ·rw [h];exact hap g hg
 ·right;rw [h];intro e
  have hgl:=(World.ownsRow.lt hv g hg).2
  simp at e;omega
theorem apart_l {w:World} {v v' u:Value} {B:List Pid} {b n:Nat} (hu:Zy w b u B) (hn:w.heap.size≤n) (h:v'.ownBlock=v.ownBlock∨v'.ownBlock=some n) (hap:zbk v u):zbk v' u:=λg hg=>by
 rcases h with h | h
 ·exact hap g (by rw [←h];exact hg)
 ·rcases hq:u.ownBlock with _ | g'
  ·exact .inl rfl
  ·right;intro e
   have hgl:=(World.ownsRow.lt hu g' hq).2
   rw [h] at hg
   simp at hg e;omega
set_option maxRecDepth 100000 in
set_option maxHeartbeats 3200000 in
theorem zcU (r:Nat→Int) (a:Option Addr) (c:Nat) (xs:List Pid) (w:World) (hwf:XC xs) (hn:xs.length≤549755813888) (hrow:Zb w a xs) :
  Calls Tryz.prog 85 #[.agg (KS r),.slice a xs.length c] w λe w'=>∃v u,e=.returned (.tuple #[v,u])∧Zy w' w.heap.size u (XJ (Zv r) xs)∧Below w.heap.size w w':=by
 have hB1:Below w.heap.size w (w.alloc (.cells (KS r) 92)):=bra
 have hR1:=Yb.made w r
 have hx1:=hrow.ext hB1
 have hz1:w.heap.size<(w.alloc (.cells (KS r) 92)).heap.size:=by simp
 go_enter Tryz.func85,Tryz.ntmps85
 go_wp2
 generalize w.alloc (.cells (KS r) 92)=w1 at *
 go_loopw [4,5,10] (λv u i wr=>∃(k:Nat) (A B:List Pid),k≤xs.length∧i=.int .i64 k∧A.length≤k∧B.length≤k∧Hid (XJ (Zv r) xs=B ++ XJ (Zv r) (xs.drop k))∧Zy wr w1.heap.size v A∧Zy wr w1.heap.size u B∧zbk v u∧Below w1.heap.size w1 wr) (λ_ _ i _=>xs.length - (intOf i).toNat)
 case atStart=>exact ⟨0,[],[],Nat.zero_le _,rfl,Nat.le_refl _,Nat.le_refl _,rfl,Zy.nil _ _,Zy.nil _ _,(λg hg=>.inl rfl),Below.refl _ _⟩
 case round =>
  obtain ⟨k,A,B,hk,rfl,hA,hBl,hM,hvA,huB,hap,hb⟩:=hrel
  have hs0:=hb.size
  by_cases hlt:k<xs.length
  ·obtain ⟨pb,po,x,y,rfl,hpx,d1,d2⟩:=hx1.at hb rfl hlt
   have hx0:0≤x:=by have:=hwf (x,y) (by rw [hpx];exact List.getElem_mem _);exact this.1
   have hfd:=zbw (S:=Zv r) hlt hpx
   have hB2:Below w1.heap.size w1 (wr.alloc (.cells #[.int .u16 x,.int .u32 y] 25)):=hb.alloc hb.size _
   have hR2:=(hR1.ext hb hz1).ext (B:=wr.heap.size) ((Below.refl wr.heap.size wr).alloc (Nat.le_refl _) (.cells #[.int .u16 x,.int .u32 y] 25)) (by omega)
   obtain ⟨q0,q1,q2,q3,q4,q5,q6,q7,q8,q9,q10,q11,q12,q13,q14,q15⟩:=hR2.all
   have p0:(wr.alloc (.cells #[.int .u16 x,.int .u32 y] 25)).cell? ⟨wr.heap.size,0,none⟩=some (.int .u16 x):=by simp
   have p1:(wr.alloc (.cells #[.int .u16 x,.int .u32 y] 25)).cell? ⟨wr.heap.size,1,none⟩=some (.int .u32 y):=by simp
   have HAP:=hid hap
   have HX1:=hid hx1
   have HR1:=hid hR1
   have HR2:=hid hR2
   cases hs:Zv r (x,y)
   ·rw [hs] at hfd
    have HS:=hid hs
    have HFD:=hid hfd
    clear hs hfd hpx hrow hwf hap hx1 hR1 hR2
    go_wp2_with (first
     | (go_at_call 185;refine (FS hx0 HS).mono ?_;rintro e w3 ⟨rfl,hb3⟩;have z0:=ZG p0 hb3;have z1:=ZG p1 hb3)
     | (at_builtin;refine XH (((huB.alloc _).ext hb3).alloc _) (Zb.one _ x y) ?cb ?cz rfl rfl rfl rfl ?_;rotate_right;intro v4 w4 hown4 hg4 hat4))
    case cb=>omega
    case cz=>have:=hb3.size;simp at this;simp;omega
    have hz3:=hb3.size
    simp at hz3
    have hB3:=hB2.trans (hb3.mono hB2.size)
    have hB4:Below w1.heap.size w1 w4:=(hB3.alloc hB3.size _).grown hg4 (by simp;omega) (λg hg=>(World.ownsRow.lt huB g hg).1)
    have hvA4:=kept_r (((hvA.alloc _).ext hb3).alloc _) hg4 HAP.out
    have hap4:=apart_r hvA (by simp;omega) hat4 HAP.out
    have HAT:=hid hat4
    clear hat4
    go_roundw
    case rel=>exact ⟨k+1,A,B ++ [(x,y)],by omega,by go_num,by omega,by simp;omega,hid (hM.out.trans (by rw [HFD.out];simp)),hvA4,hown4,hap4,hB4⟩
    case measure=>simp [intOf];omega
   ·rw [hs] at hfd
    have HS:=hid hs
    have HFD:=hid hfd
    clear hs hfd hpx hrow hwf hap hx1 hR1 hR2
    go_wp2_with (first
     | (go_at_call 185;refine (FS hx0 HS).mono ?_;rintro e w3 ⟨rfl,hb3⟩;have z0:=ZG p0 hb3;have z1:=ZG p1 hb3)
     | (at_builtin;refine XH (((hvA.alloc _).ext hb3).alloc _) (Zb.one _ x y) ?cb ?cz rfl rfl rfl rfl ?_;rotate_right;intro v4 w4 hown4 hg4 hat4))
    case cb=>omega
    case cz=>have:=hb3.size;simp at this;simp;omega
    have hz3:=hb3.size
    simp at hz3
    have hB3:=hB2.trans (hb3.mono hB2.size)
    have hB4:Below w1.heap.size w1 w4:=(hB3.alloc hB3.size _).grown hg4 (by simp;omega) (λg hg=>(World.ownsRow.lt hvA g hg).1)
    have huB4:=kept_l (((huB.alloc _).ext hb3).alloc _) hg4 HAP.out
    have hap4:=apart_l huB (by simp;omega) hat4 HAP.out
    have HAT:=hid hat4
    clear hat4
    go_roundw
    case rel=>exact ⟨k+1,A ++ [(x,y)],B,by omega,by go_num,by simp;omega,by omega,hid (hM.out.trans (by rw [HFD.out];simp)),hown4,huB4,hap4,hB4⟩
    case measure=>simp [intOf];omega
  ·have hend:Hid (XJ (Zv r) xs=B):=by
    have:=hM.out
    rw [List.drop_eq_nil_of_le (by omega)] at this
    rw [Hid,this];simp [XJ]
   go_wp2
   exact bodyPost_ret (v:=.tuple #[_,_]) (by simp [results,Tryz.results85,go_sem];exact ⟨rfl,rfl⟩) rfl ⟨_,_,rfl,by rw [hend.out];exact huB.mono (by omega),hB1.trans (hb.mono (by omega))⟩
theorem zaA (r:Nat→Int) (a:Option Addr) (c:Nat) (xs:List Pid) (w:World) (hwf:XC xs) (hn:xs.length≤549755813888) (hrow:Zb w a xs) :
  Calls Tryz.prog 197 #[.agg (KS r),.slice a xs.length c] w λe w'=>∃u,e=.returned u∧Zy w' w.heap.size u (XJ (Zv r) xs)∧Below w.heap.size w w':=by
 have hB1:Below w.heap.size w (w.alloc (.cells (KS r) 92)):=bra
 obtain ⟨q0,q1,q2,q3,q4,q5,q6,q7,q8,q9,q10,q11,q12,q13,q14,q15⟩:=(Yb.made w r).all
 have hx1:=hrow.ext hB1
 go_enter Tryz.func197,Tryz.ntmps197
 go_wp2_with (go_at_call 85;refine (zcU r _ _ xs _ hwf hn hx1).mono ?_;rintro e w3 ⟨v,u,rfl,hown,hb3⟩)
 go_ret
 exact ⟨_,rfl,hown.mono hB1.size,hB1.trans (hb3.mono hB1.size)⟩
end Go.Proofs.YtcdpaflmofljaaaGreat
