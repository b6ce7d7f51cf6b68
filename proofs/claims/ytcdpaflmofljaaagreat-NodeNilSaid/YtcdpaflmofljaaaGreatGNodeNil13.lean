import Derived.Test.YtcdpaflmofljaaaGreatGNodeNil12
/- Parts of the proof of NodeNil: E4 E5 E6 E8. -/
namespace Go.Proofs.YtcdpaflmofljaaaGreat
open Go.RowKit
abbrev zcK (p:Option Pid):Value:=.tuple #[.agg #[.int .u16 (zdp p).1.1,.int .u32 (zdp p).1.2],.bool (zdp p).2]
structure zaD (w:World) (b:Nat) (v0 v1:Value):Prop where
 c0:w.cell? ⟨b,0,none⟩=some v0
 c1:w.cell? ⟨b,1,none⟩=some v1
 f0:w.frozen? ⟨b,0,none⟩=false
 f1:w.frozen? ⟨b,1,none⟩=false
section
variable {w w':World} {b:Nat} {v0 v1:Value}
theorem zaD.lt (h:zaD w b v0 v1):b<w.heap.size:=World.block_lt_of_cell? w _ h.c0
theorem zaD.ext (h:zaD w b v0 v1) (hb:Below w.heap.size w w'):zaD w' b v0 v1 :=
 ⟨(hb.cell (by exact h.lt)).trans h.c0,(hb.cell (by exact h.lt)).trans h.c1,(hb.frozen (by exact h.lt)).trans h.f0,(hb.frozen (by exact h.lt)).trans h.f1⟩
theorem zaD.made (w:World) (t:TypeId):zaD (w.alloc (.cells #[v0,v1] t)) w.heap.size v0 v1:=⟨by simp,by simp,by simp,by simp⟩
theorem Xy {B:Nat} {w0:World} (hb:Below B w0 w) (h:B≤b) (x y:Value):Below B w0 ((w.setCell ⟨b,0,none⟩ x).setCell ⟨b,1,none⟩ y):=(hb.setCell (by simpa using h) _).setCell (by simpa using h) _
end
set_option maxRecDepth 100000 in
set_option maxHeartbeats 1600000 in
theorem zdH (r:Nat→Int) (a:Option Addr) (c:Nat) (xs:List Pid) (w:World) (hwf:XC xs) (hn:xs.length≤549755813888) (hrow:Zb w a xs) :
  Calls Tryz.prog 283 #[.agg (KS r),.slice a xs.length c] w λe w'=>e=.returned (zcK (YR (Zv r) xs))∧Below w.heap.size w w':=by
 have hB2:Below w.heap.size w ((w.alloc (.cells (KS r) 92)).alloc (.cells #[.int .u16 0,.int .u32 0] 25)):=(bra).alloc (by simp) _
 have hR2:=(Yb.made w r).ext (B:=w.heap.size+1) ((Below.refl (w.heap.size+1) _).alloc (by simp) (.cells #[.int .u16 0,.int .u32 0] 25)) (by omega)
 have hbx:=zaD.made (w.alloc (.cells (KS r) 92)) (v0:=.int .u16 0) (v1:=.int .u32 0) 25
 obtain ⟨q0,q1,q2,q3,q4,q5,q6,q7,q8,q9,q10,q11,q12,q13,q14,q15⟩:=hR2.all
 have hx2:=hrow.ext hB2
 have HR2:=hid hR2
 clear hR2
 cases hs:XJ (Zv r) xs with
 | nil =>
  have HS:Hid (YR (Zv r) xs=none):=hid (by unfold YR;rw [hs];rfl)
  have HL:=hid hs
  clear hs
  go_enter Tryz.func283,Tryz.ntmps283
  go_wp2_with (go_at_call 197;refine (zaA r _ _ xs _ hwf hn hx2).mono ?_;rintro e w3 ⟨u,rfl,hown,hb3⟩;rw [HL.out] at hown;obtain ⟨a3,c3,rfl,hrow3,-⟩:=hown.row;obtain ⟨y0,y1,y2,y3⟩:=hbx.ext hb3;simp only [World.size_alloc] at y0 y1 y2 y3)
  obtain ⟨t0,t1⟩:=Qb (x:=.int .u16 0) (y:=.int .u32 0) y0 y1
  rw [HS.out]
  exact bodyPost_ret (v:=zcK none) (by simp [results,Tryz.results283,go_sem,t0,t1,zdp]) rfl ⟨rfl,Xy (hB2.trans (hb3.mono hB2.size)) (by omega) _ _⟩
 | cons p rest =>
  obtain ⟨x,y⟩:=p
  have HS:Hid (YR (Zv r) xs=some (x,y)):=hid (by unfold YR;rw [hs];rfl)
  have HL:=hid hs
  clear hs
  go_enter Tryz.func283,Tryz.ntmps283
  go_wp2_with (go_at_call 197;refine (zaA r _ _ xs _ hwf hn hx2).mono ?_;rintro e w3 ⟨u,rfl,hown,hb3⟩;rw [HL.out] at hown;obtain ⟨a3,c3,rfl,hrow3,-⟩:=hown.row;obtain ⟨y0,y1,y2,y3⟩:=hbx.ext hb3;simp only [World.size_alloc] at y0 y1 y2 y3;obtain ⟨b3,o3,rfl,hlt3,hc3⟩:=hrow3.get (by simp);obtain ⟨z0,z1⟩:=hc3 0 (by simp);simp at z0 z1;clear hc3)
  obtain ⟨t0,t1⟩:=Qb (x:=.int .u16 x) (y:=.int .u32 y) y0 y1
  rw [HS.out]
  exact bodyPost_ret (v:=zcK (some (x,y))) (by simp [results,Tryz.results283,go_sem,t0,t1,zdp]) rfl ⟨rfl,Xy (hB2.trans (hb3.mono hB2.size)) (by omega) _ _⟩
def RL (r:Nat→Int):List Value:=(KS r).toList
theorem RL_arr (r:Nat→Int):(RL r).toArray=KS r:=rfl
theorem info70:(Tryz.prog.info? 92).map (·.size)=some 16:=by kernel_rfl
theorem Qw (r:Nat→Int):(Tryz.prog.info? 92).map (·.size)=some (RL r).length:=info70
theorem Yb.range {w:World} {b:Nat} {r:Nat→Int} (h:Yb w b r):w.rangeAt b 0 (RL r):=λj v hv=>by
 have hj:j<16:=by have:=(List.getElem?_eq_some_iff.1 hv).1;simpa [RL] using this
 rw [Nat.zero_add,h j hj]
 have:=FK r hj
 unfold RL at hv
 rw [Array.getElem?_toList] at hv
 rw [←hv,this]
theorem Yb.madeV (w:World) (r:Nat→Int):Yb (w.alloc (.cells (RL r).toArray 92)) w.heap.size r:=Yb.made w r
theorem Va {ops:Array Oper} {rest:List Oper} {op:Oper} {a:Go.Act} {w:World} {Q:Exit→Go.Act→World→Prop} {x:Operand} {b:Nat} {r:Nat→Int} (h:Yb w b r) (hgd:op.guard=none) (ho:op.op=.load 92 x)
  (hx:a.eval x=.pointer (some ⟨b,0,none⟩)) (hk:wpList Tryz.prog ops Q rest (a.put op.dst (.agg (RL r).toArray)) w):wpList Tryz.prog ops Q (op :: rest) a w :=
 wpList_load_mid hgd 92 x ho b 0 hx (RL r) _ h.range Tryz.underlying92 rfl (Qw r) hk
theorem zaw {r:Nat→Int} {a:Option Addr} {c:Nat} {xs:List Pid} {w:World} {o:Option Pid} (h:Hid (YR (Zv r) xs=o)) (hwf:XC xs) (hn:xs.length≤549755813888) (hrow:Zb w a xs) :
  Calls Tryz.prog 283 #[.agg (RL r).toArray,.slice a xs.length c] w λe w'=>e=.returned (zcK o)∧Below w.heap.size w w':=by
 have:=zdH r a c xs w hwf hn hrow
 rw [h.out] at this;exact this
structure Gb (V:Zs):Prop where
 wf:zdr V
 ls:∀l∈V.ls,l.length≤549755813888
 ds:V.ds.length≤549755813888
 ms:V.ms.length≤549755813888
 nl:V.ls.length≤549755813888
abbrev ZK (V:Zs) (am al ad:Option Addr) (cm cl cd:Nat):Array Value:=#[.int .u64 V.id,.slice am V.ms.length cm,.slice al V.ls.length cl,.slice ad V.ds.length cd]
set_option maxRecDepth 100000 in
set_option maxHeartbeats 1600000 in
theorem zcc (r:Nat→Int) (V:Zs) (am al ad:Option Addr) (cm cl cd:Nat) (w:World) (hV:Zt w am al ad V) (hf:Gb V) :
  Calls Tryz.prog 189 #[YM V am al ad cm cl cd,.agg (RL r).toArray] w λe w'=>e=.returned (zcK (Ji V (Zv r)))∧Below w.heap.size w w':=by
 obtain ⟨o,ho⟩:∃o,Ji V (Zv r)=o:=⟨_,rfl⟩
 rw [ho]
 have HO:=hid ho
 clear ho
 have hB3:Below w.heap.size w (((w.alloc (.cells (ZK V am al ad cm cl cd) 35)).alloc (.cells (RL r).toArray 92)).alloc (.cells #[.int .u16 0,.int .u32 0] 25)):=((bra).alloc (by simp) _).alloc (by simp;omega) _
 have hR3:=(Yb.madeV (w.alloc (.cells (ZK V am al ad cm cl cd) 35)) r).ext (B:=w.heap.size+1+1) ((Below.refl _ _).alloc (by simp) (.cells #[.int .u16 0,.int .u32 0] 25)) (by simp)
 have hbx:=zaD.made ((w.alloc (.cells (ZK V am al ad cm cl cd) 35)).alloc (.cells (RL r).toArray 92)) (v0:=.int .u16 0) (v1:=.int .u32 0) 25
 have hV3:=hV.ext hB3
 simp only [World.size_alloc] at hR3
 go_enter Tryz.func189,Tryz.ntmps189
 go_wp2_with (first
  | (refine Va hR3 rfl rfl rfl ?_)
  | (go_at_call 283;refine (zaw HO hf.wf.ds hf.ds hV3.ds).mono ?_;rintro e w4 ⟨rfl,hb4⟩;obtain ⟨y0,y1,y2,y3⟩:=hbx.ext hb4;simp only [World.size_alloc] at y0 y1 y2 y3))
 obtain ⟨t0,t1⟩:=Qb (x:=.int .u16 (zdp o).1.1) (y:=.int .u32 (zdp o).1.2) y0 y1
 exact bodyPost_ret (v:=zcK o) (by simp [results,Tryz.results189,go_sem,t0,t1]) rfl ⟨rfl,Xy (hB3.trans (hb4.mono hB3.size)) (by omega) _ _⟩
theorem zam {V:Zs} {S:Pid→Bool} {k:Int} (h:k<0∨(V.ls.length:Int)≤k):KK V S k=none:=by
 unfold KK
 by_cases h0:k<0
 ·rw [if_pos h0]
 ·rw [if_neg h0,List.getElem?_eq_none (by omega)]
theorem ES {V:Zs} {S:Pid→Bool} {k:Nat} (h:k<V.ls.length) {l:List Pid} (hl:l=V.ls[k]):KK V S (k:Int)=YR S l:=by
 unfold KK
 rw [if_neg (by omega)]
 simp [h,hl]
set_option maxRecDepth 100000 in
set_option maxHeartbeats 3200000 in
theorem zbh (r:Nat→Int) (V:Zs) (am al ad:Option Addr) (cm cl cd:Nat) (k:Int) (w:World) (hV:Zt w am al ad V) (hf:Gb V) :
  Calls Tryz.prog 298 #[YM V am al ad cm cl cd,.agg (RL r).toArray,.int .i64 k] w λe w'=>e=.returned (zcK (KK V (Zv r) k))∧Below w.heap.size w w':=by
 have hB3:Below w.heap.size w (((w.alloc (.cells (ZK V am al ad cm cl cd) 35)).alloc (.cells (RL r).toArray 92)).alloc (.cells #[.int .u16 0,.int .u32 0] 25)):=((bra).alloc (by simp) _).alloc (by simp;omega) _
 have hR3:=(Yb.madeV (w.alloc (.cells (ZK V am al ad cm cl cd) 35)) r).ext (B:=w.heap.size+1+1) ((Below.refl _ _).alloc (by simp) (.cells #[.int .u16 0,.int .u32 0] 25)) (by simp)
 have hbx:=zaD.made ((w.alloc (.cells (ZK V am al ad cm cl cd) 35)).alloc (.cells (RL r).toArray 92)) (v0:=.int .u16 0) (v1:=.int .u32 0) 25
 have hV3:=hV.ext hB3
 simp only [World.size_alloc] at hR3 hbx
 have hnl:=hf.nl
 by_cases hneg:k<0
 ·have hneg':decide (k<0)=true:=by simpa using hneg
  have HO:=hid (zam (V:=V) (S:=Zv r) (.inl hneg))
  rw [HO.out]
  go_enter Tryz.func298,Tryz.ntmps298
  go_wp2
  have t0:=hbx.c0
  have t1:=hbx.c1
  exact bodyPost_ret (v:=zcK none) (by simp [results,Tryz.results298,go_sem,t0,t1,zdp]) rfl ⟨rfl,hB3⟩
 ·have hneg':decide (k<0)=false:=by simpa using hneg
  obtain ⟨kk,rfl⟩:=Int.eq_ofNat_of_zero_le (by omega:0≤k)
  by_cases hge:V.ls.length≤kk
  ·have HO:=hid (zam (V:=V) (S:=Zv r) (k:=(kk:Int)) (.inr (by omega)))
   rw [HO.out]
   go_enter Tryz.func298,Tryz.ntmps298
   go_wp2
   have t0:=hbx.c0
   have t1:=hbx.c1
   exact bodyPost_ret (v:=zcK none) (by simp [results,Tryz.results298,go_sem,t0,t1,zdp]) rfl ⟨rfl,hB3⟩
  ·have hlt:kk<V.ls.length:=by omega
   obtain ⟨b,off,ai,ci,l,rfl,hx,d1,d2⟩:=hV3.ls.at (Below.refl _ _) rfl hlt
   have hlm:l∈V.ls:=by rw [hx];exact List.getElem_mem _
   have hbw:b<w.heap.size:=by
    rcases hV.ls with h | ⟨b',off',e,hb',_⟩
    ·rw [h] at hlt;simp at hlt
    ·cases e;exact hb'
   obtain ⟨b2,off2,ai2,ci2,l2,e2,hx2,f1,f2⟩:=hV.ls.at (Below.refl _ _) rfl hlt
   cases e2
   obtain rfl:l2=l:=hx2.trans hx.symm
   have hai:ai2=ai∧ci2=ci:=by
    have:=(hB3.cell (p:=⟨b,off+kk,none⟩) hbw).symm.trans d1
    rw [f1] at this;simpa using this
   obtain ⟨rfl,rfl⟩:=hai
   obtain ⟨o,ho⟩:∃o,YR (Zv r) l2=o:=⟨_,rfl⟩
   have HO:=hid (ES (S:=Zv r) hlt hx)
   rw [ho] at HO
   rw [HO.out]
   have HF:=hid ho
   clear ho hx hx2 HO
   have hvc:(((w.alloc (.cells (ZK V am (some ⟨b,off,none⟩) ad cm cl cd) 35)).alloc (.cells (RL r).toArray 92)).alloc (.cells #[.int .u16 0,.int .u32 0] 25)).cell? ⟨w.heap.size,2,none⟩=some (.slice (some ⟨b,off,none⟩) V.ls.length cl):=(((ZB.made (V:=V) (am:=am) (al:=some ⟨b,off,none⟩) (ad:=ad) (cm:=cm) (cl:=cl) (cd:=cd) w).ext (B:=w.heap.size+1) ((Below.refl _ _).alloc (by simp) _) (by omega)).ext (B:=w.heap.size+1) ((Below.refl _ _).alloc (by simp) _) (by omega)).c2
   have hz3:(((w.alloc (.cells (ZK V am (some ⟨b,off,none⟩) ad cm cl cd) 35)).alloc (.cells (RL r).toArray 92)).alloc (.cells #[.int .u16 0,.int .u32 0] 25)).heap.size=w.heap.size+1+1+1:=by simp
   have hu70:=Tryz.underlying92
   have hi70:=Qw r
   have hwl:=hf.wf.ls l2 hlm
   have hll:=hf.ls l2 hlm
   have hd2:Zb w ai2 l2:=f2
   clear f1 f2 hV hV3 hf
   go_enter Tryz.func298,Tryz.ntmps298
   go_wp2
   generalize hw3:(((w.alloc (.cells (ZK V am (some ⟨b,off,none⟩) ad cm cl cd) 35)).alloc (.cells (RL r).toArray 92)).alloc (.cells #[.int .u16 0,.int .u32 0] 25))=w3 at hB3 hR3 hbx hvc d1 d2 hz3 ⊢
   clear hw3
   have hle3:w.heap.size+1+1≤w3.heap.size:=by omega
   have HZ:=hid hz3
   clear hz3
   have HS:Hid (∀W,Below (w.heap.size+1+1) w3 W→Below (w.heap.size+1+1) w3 W∧W.rangeAt (w.heap.size+1) 0 (RL r)∧W.cell? ⟨w.heap.size,2,none⟩=some (.slice (some ⟨b,off,none⟩) V.ls.length cl)∧W.cell? ⟨b,off+kk,none⟩=some (.slice ai2 l2.length ci2)) :=
    hid λW h=>⟨h,(hR3.ext h (by omega)).range,(h.cell (by simp;omega)).trans hvc,(h.cell (by simp;omega)).trans d1⟩
   have C1:Hid (∀W,Below (w.heap.size+1+1) w3 W→Calls Tryz.prog 283 #[.agg (RL r).toArray,.slice ai2 l2.length ci2] W λe w'=>e=.returned (zcK o)∧Below W.heap.size W w'):=hid λW h=>zaw HF hwl hll (hd2.ext (hB3.trans (h.mono (by omega))))
   have BX:Hid (∀W,Below w3.heap.size w3 W→zaD W (w.heap.size+1+1) (.int .u16 0) (.int .u32 0)):=hid λW h=>hbx.ext h
   have H0:Below (w.heap.size+1+1) w3 w3.drew:=(Below.refl _ _).drew
   have H1:Below w3.heap.size w3 w3.drew:=(Below.refl _ _).drew
   clear hR3 hbx d1 hvc d2
   go_region_held3 (λW=>Below (w.heap.size+1+1) w3 W∧W.rangeAt (w.heap.size+1) 0 (RL r)∧W.cell? ⟨w.heap.size,2,none⟩=some (.slice (some ⟨b,off,none⟩) V.ls.length cl)∧W.cell? ⟨b,off+kk,none⟩=some (.slice ai2 l2.length ci2)) (first | exact HS.out _ H0 | exact HS.out _ (Below.mono ‹Below w3.heap.size w3 _› hle3) | exact HS.out _ (Xy (Below.mono ‹Below w3.heap.size w3 _› hle3) (Nat.le_refl _) _ _)) ((go_at_call 283;refine (C1.out _ H0).mono ?_;rintro e w' ⟨rfl,hb'⟩;have hb3':Below w3.heap.size w3 w':=H1.trans hb';obtain ⟨y0,y1,y2,y3⟩:=BX.out _ hb3'))
   go_wp2
   obtain ⟨t0,t1⟩:=Qb (x:=.int .u16 (zdp o).1.1) (y:=.int .u32 (zdp o).1.2) y0 y1
   exact bodyPost_ret (v:=zcK o) (by simp [results,Tryz.results298,go_sem,t0,t1]) rfl ⟨rfl,Xy (hB3.trans (hb3'.mono hB3.size)) (by omega) _ _⟩
theorem ET {r:Nat→Int} {V:Zs} {am al ad:Option Addr} {cm cl cd:Nat} {w:World} {o:Option Pid} (h:Hid (Ji V (Zv r)=o)) (hV:Zt w am al ad V) (hf:Gb V) :
  Calls Tryz.prog 189 #[YM V am al ad cm cl cd,.agg (RL r).toArray] w λe w'=>e=.returned (zcK o)∧Below w.heap.size w w':=by
 have:=zcc r V am al ad cm cl cd w hV hf
 rw [h.out] at this;exact this
theorem GI {r:Nat→Int} {V:Zs} {am al ad:Option Addr} {cm cl cd:Nat} {k:Int} {w:World} {o:Option Pid} (h:Hid (KK V (Zv r) k=o)) (hV:Zt w am al ad V) (hf:Gb V) :
  Calls Tryz.prog 298 #[YM V am al ad cm cl cd,.agg (RL r).toArray,.int .i64 k] w λe w'=>e=.returned (zcK o)∧Below w.heap.size w w':=by
 have:=zbh r V am al ad cm cl cd k w hV hf
 rw [h.out] at this;exact this
theorem KU {r:Nat→Int} {V:Zs} {am al ad:Option Addr} {cm cl cd:Nat} {w:World} {u v:Int} (h:Hid (Ji V (Zv r)=some (u,v))) (hV:Zt w am al ad V) (hf:Gb V) :
  Calls Tryz.prog 189 #[YM V am al ad cm cl cd,.agg (RL r).toArray] w λe w'=>e=.returned (.tuple #[.agg #[.int .u16 u,.int .u32 v],.bool true])∧Below w.heap.size w w':=ET h hV hf
theorem zaL {r:Nat→Int} {V:Zs} {am al ad:Option Addr} {cm cl cd:Nat} {w:World} (h:Hid (Ji V (Zv r)=none)) (hV:Zt w am al ad V) (hf:Gb V) :
  Calls Tryz.prog 189 #[YM V am al ad cm cl cd,.agg (RL r).toArray] w λe w'=>e=.returned (.tuple #[.agg #[.int .u16 0,.int .u32 0],.bool false])∧Below w.heap.size w w':=ET h hV hf
theorem VZ {r:Nat→Int} {V:Zs} {am al ad:Option Addr} {cm cl cd:Nat} {k:Int} {w:World} {u v:Int} (h:Hid (KK V (Zv r) k=some (u,v))) (hV:Zt w am al ad V) (hf:Gb V) :
  Calls Tryz.prog 298 #[YM V am al ad cm cl cd,.agg (RL r).toArray,.int .i64 k] w λe w'=>e=.returned (.tuple #[.agg #[.int .u16 u,.int .u32 v],.bool true])∧Below w.heap.size w w':=GI h hV hf
theorem JT {r:Nat→Int} {V:Zs} {am al ad:Option Addr} {cm cl cd:Nat} {k:Int} {w:World} (h:Hid (KK V (Zv r) k=none)) (hV:Zt w am al ad V) (hf:Gb V) :
  Calls Tryz.prog 298 #[YM V am al ad cm cl cd,.agg (RL r).toArray,.int .i64 k] w λe w'=>e=.returned (.tuple #[.agg #[.int .u16 0,.int .u32 0],.bool false])∧Below w.heap.size w w':=GI h hV hf
set_option maxRecDepth 100000 in
set_option maxHeartbeats 1600000 in
theorem zbo (r:Nat→Int) (V:Zs) (am al ad:Option Addr) (cm cl cd:Nat) (x y:Int) (w:World) (hV:Zt w am al ad V) (hf:Gb V) :
  Calls Tryz.prog 209 #[YM V am al ad cm cl cd,.agg (RL r).toArray,.agg #[.int .u16 x,.int .u32 y]] w λe w'=>e=.returned (.bool (YW V (Zv r) (x,y)))∧Below w.heap.size w w':=by
 have hB3:Below w.heap.size w (((w.alloc (.cells (ZK V am al ad cm cl cd) 35)).alloc (.cells (RL r).toArray 92)).alloc (.cells #[.int .u16 x,.int .u32 y] 25)):=((bra).alloc (by simp) _).alloc (by simp;omega) _
 have hR3:=(Yb.madeV (w.alloc (.cells (ZK V am al ad cm cl cd) 35)) r).ext (B:=w.heap.size+1+1) ((Below.refl _ _).alloc (by simp) (.cells #[.int .u16 x,.int .u32 y] 25)) (by simp)
 have hV3:=hV.ext hB3
 have hp2:=zaD.made ((w.alloc (.cells (ZK V am al ad cm cl cd) 35)).alloc (.cells (RL r).toArray 92)) (v0:=.int .u16 x) (v1:=.int .u32 y) 25
 have hvb:=((ZB.made (V:=V) (am:=am) (al:=al) (ad:=ad) (cm:=cm) (cl:=cl) (cd:=cd) w).ext (B:=w.heap.size+1) ((Below.refl _ _).alloc (by simp) (.cells (RL r).toArray 92)) (by omega)).ext (B:=w.heap.size+1) ((Below.refl _ _).alloc (by simp) (.cells #[.int .u16 x,.int .u32 y] 25)) (by omega)
 have hz3:(((w.alloc (.cells (ZK V am al ad cm cl cd) 35)).alloc (.cells (RL r).toArray 92)).alloc (.cells #[.int .u16 x,.int .u32 y] 25)).heap.size=w.heap.size+1+1+1:=by simp
 simp only [World.size_alloc] at hR3 hp2
 have k0:=hp2.c0
 have k1:=hp2.c1
 clear hp2
 have HZ:=hid hz3
 clear hz3 hvb
 obtain ⟨o,ho⟩:∃o,Ji V (Zv r)=o:=⟨_,rfl⟩
 cases o with
 | none =>
  have HB:Hid (YW V (Zv r) (x,y)=false):=hid (by unfold YW;rw [ho];simp)
  rw [HB.out]
  have HO:=hid ho
  clear ho
  go_enter Tryz.func209,Tryz.ntmps209
  go_wp2_with (first
   | (refine Va hR3 rfl rfl rfl ?_)
   | (go_at_call 189;refine (zaL HO hV3 hf).mono ?_;rintro e w4 ⟨rfl,hb4⟩))
  go_ret
  exact ⟨rfl,(hB3.trans (hb4.mono hB3.size)).alloc (by have:=hb4.size;have:=HZ.out;omega) _⟩
 | some q =>
  obtain ⟨u,v⟩:=q
  have he:=λw=>VK x y u v w
  cases hq:decide ((x,y)=(u,v))
  ·have HB:Hid (YW V (Zv r) (x,y)=false):=hid (by unfold YW;rw [ho];simp at hq;simp;omega)
   rw [hq] at he
   rw [HB.out]
   have HO:=hid ho
   clear ho hq
   go_enter Tryz.func209,Tryz.ntmps209
   go_wp2_with (first
    | (refine Va hR3 rfl rfl rfl ?_)
    | (go_at_call 189;refine (KU HO hV3 hf).mono ?_;rintro e w4 ⟨rfl,hb4⟩;have z0:=ZG k0 hb4;have z1:=ZG k1 hb4;have hz4:w.heap.size+1+1<w4.heap.size:=by have:=hb4.size;have:=HZ.out;omega))
   go_ret
   exact ⟨rfl,(hB3.trans (hb4.mono hB3.size)).alloc (by have:=hb4.size;have:=HZ.out;omega) _⟩
  ·have HB:Hid (YW V (Zv r) (x,y)=true):=hid (by unfold YW;rw [ho];simp at hq;simp;omega)
   rw [hq] at he
   rw [HB.out]
   have HO:=hid ho
   clear ho hq
   go_enter Tryz.func209,Tryz.ntmps209
   go_wp2_with (first
    | (refine Va hR3 rfl rfl rfl ?_)
    | (go_at_call 189;refine (KU HO hV3 hf).mono ?_;rintro e w4 ⟨rfl,hb4⟩;have z0:=ZG k0 hb4;have z1:=ZG k1 hb4;have hz4:w.heap.size+1+1<w4.heap.size:=by have:=hb4.size;have:=HZ.out;omega))
   go_ret
   exact ⟨rfl,(hB3.trans (hb4.mono hB3.size)).alloc (by have:=hb4.size;have:=HZ.out;omega) _⟩
end Go.Proofs.YtcdpaflmofljaaaGreat
