import Derived.Test.YtcdpaflmofljaaaGreatGNodeNil15
import Derived.Shelf.SlicesE.Delete
/- Parts of the proof of NodeNil: E13 E14 NI X90 X91 X92 X93 ShelfD X94 X95. -/
namespace Go.Proofs.YtcdpaflmofljaaaGreat
open Go.RowKit
theorem Fn {S:Pid→Bool} {ls:List (List Pid)} {k:Nat} (h:k<ls.length) {l:List Pid} (hl:l=ls[k]):(ls.drop k).filterMap (YR S)=match YR S l with | none=>(ls.drop (k+1)).filterMap (YR S) | some q=>q :: (ls.drop (k+1)).filterMap (YR S):=by
 rw [List.drop_eq_getElem_cons h,← hl,List.filterMap_cons]
 cases YR S l <;> rfl
set_option maxRecDepth 100000 in
set_option maxHeartbeats 3200000 in
theorem XW (r:Nat→Int) (V:Zs) (am al ad:Option Addr) (cm cl cd:Nat) (w:World) (hV:Zt w am al ad V) (hf:Gb V) :
  Calls Tryz.prog 210 #[YM V am al ad cm cl cd,.agg (RL r).toArray] w λe w'=>∃v,e=.returned v∧Zy w' w.heap.size v (ZR V (Zv r))∧Below w.heap.size w w':=by
 have hB2:Below w.heap.size w ((w.alloc (.cells (ZK V am al ad cm cl cd) 35)).alloc (.cells (RL r).toArray 92)):=(bra).alloc (by simp) _
 have hvb:=(ZB.made (V:=V) (am:=am) (al:=al) (ad:=ad) (cm:=cm) (cl:=cl) (cd:=cd) w).ext (B:=w.heap.size+1) ((Below.refl _ _).alloc (by simp) (.cells (RL r).toArray 92)) (by omega)
 have hR2:=Yb.madeV (w.alloc (.cells (ZK V am al ad cm cl cd) 35)) r
 have hz2:((w.alloc (.cells (ZK V am al ad cm cl cd) 35)).alloc (.cells (RL r).toArray 92)).heap.size=w.heap.size+1+1:=by simp
 have hV2:=hV.ext hB2
 have hnl:=hf.nl
 have HF:=hid hf
 simp only [World.size_alloc] at hR2
 go_enter Tryz.func210,Tryz.ntmps210
 go_wp2
 generalize hw2:(w.alloc (.cells (ZK V am al ad cm cl cd) 35)).alloc (.cells (RL r).toArray 92)=w2 at hB2 hR2 hvb hV2 hz2 ⊢
 clear hw2
 have HZ:=hid hz2
 clear hz2
 go_loopw [5,12] (λv i wr=>∃(k:Nat) (got:List Pid),k≤V.ls.length∧i=.int .i64 k∧got.length≤k∧Hid (ZR V (Zv r)=got ++ (V.ls.drop k).filterMap (YR (Zv r)))∧Zy wr w2.heap.size v got∧Below w2.heap.size w2 wr) (λ_ i _=>V.ls.length - (intOf i).toNat)
 case atStart=>exact ⟨0,[],Nat.zero_le _,rfl,Nat.le_refl _,rfl,Zy.nil _ _,Below.refl _ _⟩
 case round =>
  obtain ⟨k,got,hk,rfl,hg,hM,hown,hb⟩:=hrel
  have hs0:=hb.size
  by_cases hlt:k<V.ls.length
  ·have hsd:=Fn (S:=Zv r) hlt rfl
   have hsp:=ES (S:=Zv r) hlt rfl
   obtain ⟨x0,x1,x2,x3⟩:=hvb.ext hb (by have:=HZ.out;omega)
   have hRr:=hR2.ext hb (by have:=HZ.out;omega)
   have hVr:=hV2.ext hb
   cases hfp:YR (Zv r) V.ls[k] with
   | none =>
    rw [hfp] at hsd hsp
    have HSD:=hid hsd
    have HSP:=hid hsp
    clear hsd hsp hfp
    go_wp2_with (first
     | (refine ZJ hRr (by rfl) rfl rfl ?_)
     | (go_at_call 298;refine (JT HSP hVr HF.out).mono ?_;rintro e w3 ⟨rfl,hb3⟩))
    have hz3:=hb3.size
    go_roundw
    case rel=>exact ⟨k+1,got,by omega,by go_num,by omega,hid (hM.out.trans (by rw [HSD.out])),(hown.ext hb3).alloc _,(hb.trans (hb3.mono hs0)).alloc (by omega) _⟩
    case measure=>simp [intOf];omega
   | some q =>
    obtain ⟨u,v⟩:=q
    rw [hfp] at hsd hsp
    have HSD:=hid hsd
    have HSP:=hid hsp
    clear hsd hsp hfp
    go_wp2_with (first
     | (refine ZJ hRr (by rfl) rfl rfl ?_)
     | (go_at_call 298;refine (VZ HSP hVr HF.out).mono ?_;rintro e w3 ⟨rfl,hb3⟩;have hone:Zb ((w3.alloc (.cells #[.int .u16 u,.int .u32 v] 25)).alloc (.cells #[.int .u16 u,.int .u32 v] 25)) (some ⟨w3.heap.size+1,0,none⟩) [(u,v)]:=Zb.one' _ (by simp) u v)
     | (at_builtin;refine ZQ (((hown.ext hb3).alloc _).alloc _) hone ?cb ?cz rfl rfl rfl rfl ?_;rotate_right;intro v4 w4 hown4 hg4 hnil4))
    case cb=>simp;omega
    case cz=>have:=hb3.size;simp;omega
    have hz3:=hb3.size
    have hB3:=hb.trans (hb3.mono hs0)
    have hB4:Below w2.heap.size w2 w4:=((hB3.alloc hB3.size _).alloc (by simp;omega) _).grown hg4 (by simp;omega) (λg hg=>(World.ownsRow.lt hown g hg).1)
    go_roundw
    case rel=>exact ⟨k+1,got ++ [(u,v)],by omega,by go_num,by simp;omega,hid (hM.out.trans (by rw [HSD.out];simp)),hown4,hB4⟩
    case measure=>simp [intOf];omega
  ·have hend:Hid (ZR V (Zv r)=got):=by
    have:=hM.out
    rw [List.drop_eq_nil_of_le (by omega)] at this
    rw [Hid,this];simp
   go_wp2
   go_ret
   exact ⟨_,rfl,by rw [hend.out];exact hown.mono (by have:=HZ.out;omega),hB2.trans (hb.mono (by have:=HZ.out;omega))⟩
theorem XB {r:Nat→Int} {V:Zs} {am al ad:Option Addr} {cm cl cd:Nat} {x y:Int} {w:World} {b:Bool} (h:Hid (Xg V (Zv r) (x,y)=b)) (hV:Zt w am al ad V) (hf:Gb V) :
  Calls Tryz.prog 211 #[YM V am al ad cm cl cd,.agg (RL r).toArray,.agg #[.int .u16 x,.int .u32 y]] w λe w'=>e=.returned (.bool b)∧Below w.heap.size w w':=by
 have:=zcI r V am al ad cm cl cd x y w hV hf
 rw [h.out] at this;exact this
theorem Vj:FewL []:=⟨by simp,λl h=>by cases h⟩
theorem Yt {l:List Pid} {Ls:List (List Pid)} (hw:XC l) (hl:l.length≤64) (h:FewL Ls) (h3:Ls.length≤2):FewL (Ls ++ [l]) :=
 ⟨by simp;omega,λm hm=>by rcases List.mem_append.1 hm with hm | hm;exact h.2 m hm;simp at hm;subst hm;exact ⟨hw,hl⟩⟩
set_option maxRecDepth 100000 in
set_option maxHeartbeats 6400000 in
theorem down_any (r:Nat→Int) (V:Zs) (am al ad:Option Addr) (cm cl cd:Nat) (x y:Int) (w:World) (hV:Zt w am al ad V) (hs:KA V) :
  Calls Tryz.prog 250 #[YM V am al ad cm cl cd,.agg (RL r).toArray,.agg #[.int .u16 x,.int .u32 y]] w λe w'=>∃v,e=.returned v∧Zy w' w.heap.size v (Gj V (Zv r) (x,y))∧Below w.heap.size w w':=by
 have hf:=hs.fine
 have hB3:Below w.heap.size w (((w.alloc (.cells (ZK V am al ad cm cl cd) 35)).alloc (.cells (RL r).toArray 92)).alloc (.cells #[.int .u16 x,.int .u32 y] 25)):=((bra).alloc (by simp) _).alloc (by simp;omega) _
 have F3:=Frm.made w V am al ad cm cl cd r x y
 have hV3:=hV.ext hB3
 obtain ⟨w3,hw3⟩:∃w3,(((w.alloc (.cells (ZK V am al ad cm cl cd) 35)).alloc (.cells (RL r).toArray 92)).alloc (.cells #[.int .u16 x,.int .u32 y] 25))=w3:=⟨_,rfl⟩
 rw [hw3] at hB3 F3 hV3
 have hb33:Below w3.heap.size w3 w3:=Below.refl _ _
 have hR3:=F3.rb;obtain ⟨a30,a31,a32,a33⟩:=F3.vb;have c30:=F3.c0;have c31:=F3.c1
 cases hic:YW V (Zv r) (x,y)
 ·cases hsp:Xg V (Zv r) (x,y)
  ·have HD:Hid (Gj V (Zv r) (x,y)=ZY V (x,y) []):=hid (by unfold Gj zdX;rw [hic,hsp];rfl)
   have HIC:=hid hic
   have HSPK:=hid hsp
   clear hic hsp
   go_enter Tryz.func250,Tryz.ntmps250
   go_wp2_with (first
    | (refine ZJ (by assumption) (by rfl) rfl rfl ?_)
    | ((go_at_call 209;refine (YZ HIC hV3 hf).mono ?_;rintro e w4 ⟨rfl,hb4⟩;have hb34:=hb33.trans (hb4.mono hb33.size);have F4:=F3.ext hb34;have hR4:=F4.rb;obtain ⟨a40,a41,a42,a43⟩:=F4.vb;have c40:=F4.c0;have c41:=F4.c1;have hV4:=hV3.ext hb34))
    | ((go_at_call 211;refine (XB HSPK hV4 hf).mono ?_;rintro e w5 ⟨rfl,hb5⟩;have hb35:=hb34.trans (hb5.mono hb34.size);have F5:=F3.ext hb35;have hR5:=F5.rb;obtain ⟨a50,a51,a52,a53⟩:=F5.vb;have c50:=F5.c0;have c51:=F5.c1;have hV5:=hV3.ext hb35))
    | ((go_at_call 212;refine (YT (Ls:=[]) (n:=0) (hid rfl) hV5 hf (.inl rfl) Vj).mono ?_;rintro e w6 ⟨vo,rfl,hown,hb6⟩)))
   go_ret
   exact ⟨_,rfl,by rw [HD.out];exact hown.mono (by have:=hb35.size;have:=hB3.size;omega),(hB3.trans (hb35.mono hB3.size)).trans (hb6.mono (by have:=hb35.size;have:=hB3.size;omega))⟩
  ·have HD:Hid (Gj V (Zv r) (x,y)=ZY V (x,y) ([] ++ [XG V (x,y)])):=hid (by unfold Gj zdX;rw [hic,hsp];rfl)
   have HIC:=hid hic
   have HSPK:=hid hsp
   clear hic hsp
   go_enter Tryz.func250,Tryz.ntmps250
   go_wp2_with (first
    | (refine ZJ (by assumption) (by rfl) rfl rfl ?_)
    | ((go_at_call 209;refine (YZ HIC hV3 hf).mono ?_;rintro e w4 ⟨rfl,hb4⟩;have hb34:=hb33.trans (hb4.mono hb33.size);have F4:=F3.ext hb34;have hR4:=F4.rb;obtain ⟨a40,a41,a42,a43⟩:=F4.vb;have c40:=F4.c0;have c41:=F4.c1;have hV4:=hV3.ext hb34))
    | ((go_at_call 211;refine (XB HSPK hV4 hf).mono ?_;rintro e w5 ⟨rfl,hb5⟩;have hb35:=hb34.trans (hb5.mono hb34.size);have F5:=F3.ext hb35;have hR5:=F5.rb;obtain ⟨a50,a51,a52,a53⟩:=F5.vb;have c50:=F5.c0;have c51:=F5.c1;have hV5:=hV3.ext hb35))
    | ((go_at_call 264;refine (Jl _ _ _ _ _ _ _ _ _ w _ hV (hB3.trans (hb35.mono hB3.size)) hf).mono ?_;rintro e w6 ⟨al2,cl2,rfl,hrowl,hb6⟩;have hb36:=hb35.trans (hb6.mono hb35.size);have F6:=F3.ext hb36;have hR6:=F6.rb;obtain ⟨a60,a61,a62,a63⟩:=F6.vb;have c60:=F6.c0;have c61:=F6.c1;have hV6:=hV3.ext hb36;have hrowl2:=hrowl.ext (hB3.trans (hb36.mono hB3.size))))
    | ((at_builtin;refine ZO (KY.nil _ w3.heap.size) (by simp;try rfl) rfl (hrowl2.alloc _) (λ_ _ _ _ h=>by simp [Value.ownBlock] at h) (by simp) (by have:=hb36.size;simp;omega) rfl rfl rfl rfl ?_;intro v7 w7 own7 hg7;have hb37:=(hb36.alloc hb36.size _).grown hg7 (by have:=hb36.size;simp;omega) (λg hg=>by simp [Value.ownBlock] at hg);have F7:=F3.ext hb37;have hR7:=F7.rb;obtain ⟨a70,a71,a72,a73⟩:=F7.vb;have c70:=F7.c0;have c71:=F7.c1;have hV7:=hV3.ext hb37;obtain ⟨aL,cL,rfl,hLr⟩:=own7.rowN (n:=1) rfl))
    | ((go_at_call 212;refine (YT (Ls:=([] ++ [XG V (x,y)])) (n:=1) (hid rfl) hV7 hf hLr (Yt (Ql hs) (Jm hs) Vj (by simp))).mono ?_;rintro e w8 ⟨vo,rfl,hown,hb8⟩)))
   go_ret
   exact ⟨_,rfl,by rw [HD.out];exact hown.mono (by have:=hb37.size;have:=hB3.size;omega),(hB3.trans (hb37.mono hB3.size)).trans (hb8.mono (by have:=hb37.size;have:=hB3.size;omega))⟩
 ·cases hsp:Xg V (Zv r) (x,y)
  ·have HD:Hid (Gj V (Zv r) (x,y)=ZY V (x,y) ([] ++ [ZR V (Zv r)])):=hid (by unfold Gj zdX;rw [hic,hsp];rfl)
   have HIC:=hid hic
   have HSPK:=hid hsp
   clear hic hsp
   go_enter Tryz.func250,Tryz.ntmps250
   go_wp2_with (first
    | (refine ZJ (by assumption) (by rfl) rfl rfl ?_)
    | ((go_at_call 209;refine (YZ HIC hV3 hf).mono ?_;rintro e w4 ⟨rfl,hb4⟩;have hb34:=hb33.trans (hb4.mono hb33.size);have F4:=F3.ext hb34;have hR4:=F4.rb;obtain ⟨a40,a41,a42,a43⟩:=F4.vb;have c40:=F4.c0;have c41:=F4.c1;have hV4:=hV3.ext hb34))
    | ((go_at_call 210;refine (XW _ _ _ _ _ _ _ _ _ hV4 hf).mono ?_;rintro e w5 ⟨vs,rfl,howns,hb5⟩;obtain ⟨a9,c9,rfl,hrows,hps⟩:=howns.row;have hb35:=hb34.trans (hb5.mono hb34.size);have F5:=F3.ext hb35;have hR5:=F5.rb;obtain ⟨a50,a51,a52,a53⟩:=F5.vb;have c50:=F5.c0;have c51:=F5.c1;have hV5:=hV3.ext hb35))
    | ((at_builtin;refine ZO (KY.nil _ w3.heap.size) (by simp;try rfl) rfl (hrows.alloc _) (λ_ _ _ _ h=>by simp [Value.ownBlock] at h) (by simp) (by have:=hb35.size;simp;omega) rfl rfl rfl rfl ?_;intro v6 w6 own6 hg6;have hb36:=(hb35.alloc hb35.size _).grown hg6 (by have:=hb35.size;simp;omega) (λg hg=>by simp [Value.ownBlock] at hg);have F6:=F3.ext hb36;have hR6:=F6.rb;obtain ⟨a60,a61,a62,a63⟩:=F6.vb;have c60:=F6.c0;have c61:=F6.c1;have hV6:=hV3.ext hb36))
    | ((go_at_call 211;refine (XB HSPK hV6 hf).mono ?_;rintro e w7 ⟨rfl,hb7⟩;have hb37:=hb36.trans (hb7.mono hb36.size);have F7:=F3.ext hb37;have hR7:=F7.rb;obtain ⟨a70,a71,a72,a73⟩:=F7.vb;have c70:=F7.c0;have c71:=F7.c1;have hV7:=hV3.ext hb37;have own7:=own6.ext hb7;obtain ⟨aL,cL,rfl,hLr⟩:=own7.rowN (n:=1) rfl))
    | ((go_at_call 212;refine (YT (Ls:=([] ++ [ZR V (Zv r)])) (n:=1) (hid rfl) hV7 hf hLr (Yt (VA hs) (by have:=XY (V:=V) (S:=Zv r);have:=hs.nl;omega) Vj (by simp))).mono ?_;rintro e w8 ⟨vo,rfl,hown,hb8⟩)))
   go_ret
   exact ⟨_,rfl,by rw [HD.out];exact hown.mono (by have:=hb37.size;have:=hB3.size;omega),(hB3.trans (hb37.mono hB3.size)).trans (hb8.mono (by have:=hb37.size;have:=hB3.size;omega))⟩
  ·have HD:Hid (Gj V (Zv r) (x,y)=ZY V (x,y) (([] ++ [ZR V (Zv r)]) ++ [XG V (x,y)])):=hid (by unfold Gj zdX;rw [hic,hsp];rfl)
   have HIC:=hid hic
   have HSPK:=hid hsp
   clear hic hsp
   go_enter Tryz.func250,Tryz.ntmps250
   go_wp2_with (first
    | (refine ZJ (by assumption) (by rfl) rfl rfl ?_)
    | ((go_at_call 209;refine (YZ HIC hV3 hf).mono ?_;rintro e w4 ⟨rfl,hb4⟩;have hb34:=hb33.trans (hb4.mono hb33.size);have F4:=F3.ext hb34;have hR4:=F4.rb;obtain ⟨a40,a41,a42,a43⟩:=F4.vb;have c40:=F4.c0;have c41:=F4.c1;have hV4:=hV3.ext hb34))
    | ((go_at_call 210;refine (XW _ _ _ _ _ _ _ _ _ hV4 hf).mono ?_;rintro e w5 ⟨vs,rfl,howns,hb5⟩;obtain ⟨a9,c9,rfl,hrows,hps⟩:=howns.row;have hb35:=hb34.trans (hb5.mono hb34.size);have F5:=F3.ext hb35;have hR5:=F5.rb;obtain ⟨a50,a51,a52,a53⟩:=F5.vb;have c50:=F5.c0;have c51:=F5.c1;have hV5:=hV3.ext hb35))
    | ((at_builtin;refine ZO (KY.nil _ w3.heap.size) (by simp;try rfl) rfl (hrows.alloc _) (λ_ _ _ _ h=>by simp [Value.ownBlock] at h) (by simp) (by have:=hb35.size;simp;omega) rfl rfl rfl rfl ?_;intro v6 w6 own6 hg6;have hb36:=(hb35.alloc hb35.size _).grown hg6 (by have:=hb35.size;simp;omega) (λg hg=>by simp [Value.ownBlock] at hg);have F6:=F3.ext hb36;have hR6:=F6.rb;obtain ⟨a60,a61,a62,a63⟩:=F6.vb;have c60:=F6.c0;have c61:=F6.c1;have hV6:=hV3.ext hb36))
    | ((go_at_call 211;refine (XB HSPK hV6 hf).mono ?_;rintro e w7 ⟨rfl,hb7⟩;have hb37:=hb36.trans (hb7.mono hb36.size);have F7:=F3.ext hb37;have hR7:=F7.rb;obtain ⟨a70,a71,a72,a73⟩:=F7.vb;have c70:=F7.c0;have c71:=F7.c1;have hV7:=hV3.ext hb37;have own7:=own6.ext hb7))
    | ((go_at_call 264;refine (Jl _ _ _ _ _ _ _ _ _ w _ hV (hB3.trans (hb37.mono hB3.size)) hf).mono ?_;rintro e w8 ⟨al2,cl2,rfl,hrowl,hb8⟩;have hb38:=hb37.trans (hb8.mono hb37.size);have F8:=F3.ext hb38;have hR8:=F8.rb;obtain ⟨a80,a81,a82,a83⟩:=F8.vb;have c80:=F8.c0;have c81:=F8.c1;have hV8:=hV3.ext hb38;have own8:=own7.ext hb8;have hrowl2:=hrowl.ext (hB3.trans (hb38.mono hB3.size))))
    | ((at_builtin;refine ZO (own8.alloc _) (by simp;try rfl) rfl (hrowl2.alloc _) (own7.far hrowl hB3.size) (by simp) (by have:=hb38.size;simp;omega) rfl rfl rfl rfl ?_;intro v9 w9 own9 hg9;have hb39:=(hb38.alloc hb38.size _).grown hg9 (by have:=hb38.size;simp;omega) (λg hg=>(own8.lt hg).1);have F9:=F3.ext hb39;have hR9:=F9.rb;obtain ⟨a90,a91,a92,a93⟩:=F9.vb;have c90:=F9.c0;have c91:=F9.c1;have hV9:=hV3.ext hb39;obtain ⟨aL,cL,rfl,hLr⟩:=own9.rowN (n:=2) rfl))
    | ((go_at_call 212;refine (YT (Ls:=(([] ++ [ZR V (Zv r)]) ++ [XG V (x,y)])) (n:=2) (hid rfl) hV9 hf hLr (Yt (Ql hs) (Jm hs) (Yt (VA hs) (by have:=XY (V:=V) (S:=Zv r);have:=hs.nl;omega) Vj (by simp)) (by simp))).mono ?_;rintro e w10 ⟨vo,rfl,hown,hb10⟩)))
   go_ret
   exact ⟨_,rfl,by rw [HD.out];exact hown.mono (by have:=hb39.size;have:=hB3.size;omega),(hB3.trans (hb39.mono hB3.size)).trans (hb10.mono (by have:=hb39.size;have:=hB3.size;omega))⟩
theorem zav {V:Zs} {am al ad:Option Addr} {cm cl cd:Nat} {x y:Int} {w:World} {b:Bool} (h:Hid (decide ((x,y)∈V.ds)=b)) (hV:Zt w am al ad V) :
  Calls Tryz.prog 180 #[YM V am al ad cm cl cd,.agg #[.int .u16 x,.int .u32 y]] w λe w'=>e=.returned (.bool b)∧Below w.heap.size w w':=by
 have:=Ge V am al ad cm cl cd x y w hV
 rw [h.out] at this
 exact this
structure Frv (w:World) (n:Nat) (V:Zs) (am al ad:Option Addr) (cm cl cd:Nat) (x y:Int):Prop where
 vb:ZB w n V am al ad cm cl cd
 c0:w.cell? ⟨n+1,0,none⟩=some (.int .u16 x)
 c1:w.cell? ⟨n+1,1,none⟩=some (.int .u32 y)
theorem Frv.ext {w w':World} {n:Nat} {V:Zs} {am al ad:Option Addr} {cm cl cd:Nat} {x y:Int} (h:Frv w n V am al ad cm cl cd x y) (hb:Below w.heap.size w w'):Frv w' n V am al ad cm cl cd x y :=
 ⟨h.vb.ext hb h.vb.lt,ZG h.c0 hb,ZG h.c1 hb⟩
theorem Frv.made (w:World) (V:Zs) (am al ad:Option Addr) (cm cl cd:Nat) (x y:Int):Frv ((w.alloc (.cells (ZK V am al ad cm cl cd) 35)).alloc (.cells #[.int .u16 x,.int .u32 y] 25)) w.heap.size V am al ad cm cl cd x y:=by
 have hp:=zaD.made (w.alloc (.cells (ZK V am al ad cm cl cd) 35)) (v0:=.int .u16 x) (v1:=.int .u32 y) 25
 simp only [World.size_alloc] at hp
 exact ⟨(ZB.made (V:=V) (am:=am) (al:=al) (ad:=ad) (cm:=cm) (cl:=cl) (cd:=cd) w).ext (B:=w.heap.size+1) ((Below.refl _ _).alloc (by simp) (.cells #[.int .u16 x,.int .u32 y] 25)) (by omega),hp.c0,hp.c1⟩
set_option maxRecDepth 100000 in
set_option maxHeartbeats 6400000 in
theorem Ki (V:Zs) (am al ad:Option Addr) (cm cl cd:Nat) (x y:Int) (w:World) (hV:Zt w am al ad V) (hs:KA V) :
  Calls Tryz.prog 175 #[YM V am al ad cm cl cd,.agg #[.int .u16 x,.int .u32 y]] w λe w'=>∃v,e=.returned v∧Zy w' w.heap.size v (ZI V (x,y))∧Below w.heap.size w w':=by
 have hf:=hs.fine
 have hB3:Below w.heap.size w ((w.alloc (.cells (ZK V am al ad cm cl cd) 35)).alloc (.cells #[.int .u16 x,.int .u32 y] 25)):=(bra).alloc (by simp) _
 have F3:=Frv.made w V am al ad cm cl cd x y
 have hV3:=hV.ext hB3
 obtain ⟨w3,hw3⟩:∃w3,((w.alloc (.cells (ZK V am al ad cm cl cd) 35)).alloc (.cells #[.int .u16 x,.int .u32 y] 25))=w3:=⟨_,rfl⟩
 rw [hw3] at hB3 F3 hV3
 have hb33:Below w3.heap.size w3 w3:=Below.refl _ _
 obtain ⟨a30,a31,a32,a33⟩:=F3.vb;have c30:=F3.c0;have c31:=F3.c1
 by_cases hmem:(x,y)∈V.ms
 ·by_cases hld:(x,y)∈V.ds
  ·have HD:Hid (ZI V (x,y)=ZY V (x,y) (([] ++ [XG V (x,y)]) ++ [V.ds])):=hid (by unfold ZI zdc;rw [if_pos hmem,if_pos hld];rfl)
   have HM:Hid (decide ((x,y)∈V.ms)=true):=hid (by simpa using hmem)
   have HL:Hid (decide ((x,y)∈V.ds)=true):=hid (by simpa using hld)
   clear hmem hld
   go_enter Tryz.func175,Tryz.ntmps175
   go_wp2_with (first
    | ((go_at_call 27;refine (zaR HM hV3).mono ?_;rintro e w4 ⟨rfl,hb4⟩;have hb34:=hb33.trans (hb4.mono hb33.size);have F4:=F3.ext hb34;obtain ⟨a40,a41,a42,a43⟩:=F4.vb;have c40:=F4.c0;have c41:=F4.c1;have hV4:=hV3.ext hb34))
    | ((go_at_call 264;refine (Jl _ _ _ _ _ _ _ _ _ w _ hV (hB3.trans (hb34.mono hB3.size)) hf).mono ?_;rintro e w5 ⟨ap,cp,rfl,hrowl,hb5⟩;have hrowp:=hrowl.ext ((hB3.trans (hb34.mono hB3.size)).trans (hb5.mono (by have:=hb34.size;have:=hB3.size;omega)));have hb35:=hb34.trans (hb5.mono hb34.size);have own6:=KY.made w5 (c:=cp) rfl hrowp hb35.size;have hb36:=hb35.alloc hb35.size (.cells #[.slice ap (XG V (x,y)).length cp] 26);obtain ⟨w6,hw6⟩:∃w6,w5.alloc (.cells #[.slice ap (XG V (x,y)).length cp] 26)=w6:=⟨_,rfl⟩;rw [hw6] at own6 hb36;have F6:=F3.ext hb36;obtain ⟨a60,a61,a62,a63⟩:=F6.vb;have c60:=F6.c0;have c61:=F6.c1;have hV6:=hV3.ext hb36))
    | ((go_at_call 180;refine (zav HL hV6).mono ?_;rintro e w7 ⟨rfl,hb7⟩;have hb37:=hb36.trans (hb7.mono hb36.size);have F7:=F3.ext hb37;obtain ⟨a70,a71,a72,a73⟩:=F7.vb;have c70:=F7.c0;have c71:=F7.c1;have hV7:=hV3.ext hb37;have own7:=own6.ext hb7))
    | ((at_builtin;refine ZO (own7.alloc _) (by simp;try rfl) rfl (hV7.ds.alloc _) (own7.far hV.ds hB3.size) (by simp) (by have:=hb37.size;simp;omega) rfl rfl rfl rfl ?_;intro v8 w8 own8 hg8;have hb38:=(hb37.alloc hb37.size _).grown hg8 (by have:=hb37.size;simp;omega) (λg hg=>(own7.lt hg).1);have F8:=F3.ext hb38;obtain ⟨a80,a81,a82,a83⟩:=F8.vb;have c80:=F8.c0;have c81:=F8.c1;have hV8:=hV3.ext hb38;obtain ⟨aL,cL,hvL,hLr⟩:=own8.rowN (n:=2) rfl;subst hvL))
    | ((go_at_call 212;refine (YT (Ls:=(([] ++ [XG V (x,y)]) ++ [V.ds])) (n:=2) (hid rfl) hV8 hf hLr (Yt hs.wf.ds hs.ds (Yt (Ql hs) (Jm hs) Vj (by simp)) (by simp))).mono ?_;rintro e w9 ⟨vo,rfl,hown,hb9⟩)))
   go_ret
   exact ⟨_,rfl,by rw [HD.out];exact hown.mono (by have:=hb38.size;have:=hB3.size;omega),(hB3.trans (hb38.mono hB3.size)).trans (hb9.mono (by have:=hb38.size;have:=hB3.size;omega))⟩
  ·have HD:Hid (ZI V (x,y)=ZY V (x,y) ([] ++ [XG V (x,y)])):=hid (by unfold ZI zdc;rw [if_pos hmem,if_neg hld];rfl)
   have HM:Hid (decide ((x,y)∈V.ms)=true):=hid (by simpa using hmem)
   have HL:Hid (decide ((x,y)∈V.ds)=false):=hid (by simpa using hld)
   clear hmem hld
   go_enter Tryz.func175,Tryz.ntmps175
   go_wp2_with (first
    | ((go_at_call 27;refine (zaR HM hV3).mono ?_;rintro e w4 ⟨rfl,hb4⟩;have hb34:=hb33.trans (hb4.mono hb33.size);have F4:=F3.ext hb34;obtain ⟨a40,a41,a42,a43⟩:=F4.vb;have c40:=F4.c0;have c41:=F4.c1;have hV4:=hV3.ext hb34))
    | ((go_at_call 264;refine (Jl _ _ _ _ _ _ _ _ _ w _ hV (hB3.trans (hb34.mono hB3.size)) hf).mono ?_;rintro e w5 ⟨ap,cp,rfl,hrowl,hb5⟩;have hrowp:=hrowl.ext ((hB3.trans (hb34.mono hB3.size)).trans (hb5.mono (by have:=hb34.size;have:=hB3.size;omega)));have hb35:=hb34.trans (hb5.mono hb34.size);have own6:=KY.made w5 (c:=cp) rfl hrowp hb35.size;have hb36:=hb35.alloc hb35.size (.cells #[.slice ap (XG V (x,y)).length cp] 26);obtain ⟨w6,hw6⟩:∃w6,w5.alloc (.cells #[.slice ap (XG V (x,y)).length cp] 26)=w6:=⟨_,rfl⟩;rw [hw6] at own6 hb36;have F6:=F3.ext hb36;obtain ⟨a60,a61,a62,a63⟩:=F6.vb;have c60:=F6.c0;have c61:=F6.c1;have hV6:=hV3.ext hb36))
    | ((go_at_call 180;refine (zav HL hV6).mono ?_;rintro e w7 ⟨rfl,hb7⟩;have hb37:=hb36.trans (hb7.mono hb36.size);have F7:=F3.ext hb37;obtain ⟨a70,a71,a72,a73⟩:=F7.vb;have c70:=F7.c0;have c71:=F7.c1;have hV7:=hV3.ext hb37;have own7:=own6.ext hb7;obtain ⟨aL,cL,hvL,hLr⟩:=own7.rowN (n:=1) rfl;cases hvL))
    | ((go_at_call 212;refine (YT (Ls:=([] ++ [XG V (x,y)])) (n:=1) (hid rfl) hV7 hf hLr (Yt (Ql hs) (Jm hs) Vj (by simp))).mono ?_;rintro e w8 ⟨vo,rfl,hown,hb8⟩)))
   go_ret
   exact ⟨_,rfl,by rw [HD.out];exact hown.mono (by have:=hb37.size;have:=hB3.size;omega),(hB3.trans (hb37.mono hB3.size)).trans (hb8.mono (by have:=hb37.size;have:=hB3.size;omega))⟩
 ·have HD:Hid (ZI V (x,y)=[]):=hid (by unfold ZI;rw [if_neg hmem])
  have HM:Hid (decide ((x,y)∈V.ms)=false):=hid (by simpa using hmem)
  clear hmem
  go_enter Tryz.func175,Tryz.ntmps175
  go_wp2_with (go_at_call 27;refine (zaR HM hV3).mono ?_;rintro e w4 ⟨rfl,hb4⟩)
  go_ret
  exact ⟨_,rfl,by rw [HD.out];exact Zy.nil _ _,hB3.trans (hb4.mono hB3.size)⟩
set_option maxRecDepth 100000 in
set_option maxHeartbeats 6400000 in
theorem zdA (r:Nat→Int) (V:Zs) (am al ad:Option Addr) (cm cl cd:Nat) (x y:Int) (w:World) (hV:Zt w am al ad V) (hs:KA V) :
  Calls Tryz.prog 109 #[YM V am al ad cm cl cd,.agg (RL r).toArray,.agg #[.int .u16 x,.int .u32 y]] w λe w'=>∃v,e=.returned v∧Zy w' w.heap.size v (Kj V (Zv r) (x,y))∧Below w.heap.size w w':=by
 have hf:=hs.fine
 have hB3:Below w.heap.size w (((w.alloc (.cells (ZK V am al ad cm cl cd) 35)).alloc (.cells (RL r).toArray 92)).alloc (.cells #[.int .u16 x,.int .u32 y] 25)):=((bra).alloc (by simp) _).alloc (by simp;omega) _
 have F3:=Frm.made w V am al ad cm cl cd r x y
 have hV3:=hV.ext hB3
 obtain ⟨w3,hw3⟩:∃w3,(((w.alloc (.cells (ZK V am al ad cm cl cd) 35)).alloc (.cells (RL r).toArray 92)).alloc (.cells #[.int .u16 x,.int .u32 y] 25))=w3:=⟨_,rfl⟩
 rw [hw3] at hB3 F3 hV3
 have hb33:Below w3.heap.size w3 w3:=Below.refl _ _
 have hR3:=F3.rb;obtain ⟨a30,a31,a32,a33⟩:=F3.vb;have c30:=F3.c0;have c31:=F3.c1
 cases hic:YW V (Zv r) (x,y)
 ·cases hsp:Xg V (Zv r) (x,y)
  ·have HD:Hid (Kj V (Zv r) (x,y)=ZY V (x,y) ([] ++ [ZI V (x,y)])):=hid (by unfold Kj zat;rw [hic,hsp];rfl)
   have HIC:=hid hic
   have HSPK:=hid hsp
   clear hic hsp
   go_enter Tryz.func109,Tryz.ntmps109
   go_wp2_with (first
    | (refine ZJ (by assumption) (by rfl) rfl rfl ?_)
    | ((go_at_call 175;refine (Ki V _ _ _ _ _ _ _ _ _ hV3 hs).mono ?_;rintro e w4 ⟨vp,rfl,hownp,hb4⟩;obtain ⟨ap,cp,rfl,hrowp,hpp⟩:=hownp.row;have hb34:=hb33.trans (hb4.mono hb33.size);have own5:=KY.made w4 (c:=cp) rfl hrowp hb34.size;have hb35:=hb34.alloc hb34.size (.cells #[.slice ap (ZI V (x,y)).length cp] 26);obtain ⟨w5,hw5⟩:∃w5,w4.alloc (.cells #[.slice ap (ZI V (x,y)).length cp] 26)=w5:=⟨_,rfl⟩;rw [hw5] at own5 hb35;have F5:=F3.ext hb35;have hR5:=F5.rb;obtain ⟨a50,a51,a52,a53⟩:=F5.vb;have c50:=F5.c0;have c51:=F5.c1;have hV5:=hV3.ext hb35))
    | ((go_at_call 209;refine (YZ HIC hV5 hf).mono ?_;rintro e w6 ⟨rfl,hb6⟩;have hb36:=hb35.trans (hb6.mono hb35.size);have F6:=F3.ext hb36;have hR6:=F6.rb;obtain ⟨a60,a61,a62,a63⟩:=F6.vb;have c60:=F6.c0;have c61:=F6.c1;have hV6:=hV3.ext hb36;have own6:=own5.ext hb6))
    | ((go_at_call 211;refine (XB HSPK hV6 hf).mono ?_;rintro e w7 ⟨rfl,hb7⟩;have hb37:=hb36.trans (hb7.mono hb36.size);have F7:=F3.ext hb37;have hR7:=F7.rb;obtain ⟨a70,a71,a72,a73⟩:=F7.vb;have c70:=F7.c0;have c71:=F7.c1;have hV7:=hV3.ext hb37;have own7:=own6.ext hb7;obtain ⟨aL,cL,hvL,hLr⟩:=own7.rowN (n:=1) rfl;cases hvL))
    | ((go_at_call 212;refine (YT (Ls:=([] ++ [ZI V (x,y)])) (n:=1) (hid rfl) hV7 hf hLr (Yt (Qg hs) (by have:=Ka (V:=V) (p:=(x,y));have:=hs.ms;omega) Vj (by simp))).mono ?_;rintro e w8 ⟨vo,rfl,hown,hb8⟩)))
   go_ret
   exact ⟨_,rfl,by rw [HD.out];exact hown.mono (by have:=hb37.size;have:=hB3.size;omega),(hB3.trans (hb37.mono hB3.size)).trans (hb8.mono (by have:=hb37.size;have:=hB3.size;omega))⟩
  ·have HD:Hid (Kj V (Zv r) (x,y)=ZY V (x,y) (([] ++ [ZI V (x,y)]) ++ [V.ds])):=hid (by unfold Kj zat;rw [hic,hsp];rfl)
   have HIC:=hid hic
   have HSPK:=hid hsp
   clear hic hsp
   go_enter Tryz.func109,Tryz.ntmps109
   go_wp2_with (first
    | (refine ZJ (by assumption) (by rfl) rfl rfl ?_)
    | ((go_at_call 175;refine (Ki V _ _ _ _ _ _ _ _ _ hV3 hs).mono ?_;rintro e w4 ⟨vp,rfl,hownp,hb4⟩;obtain ⟨ap,cp,rfl,hrowp,hpp⟩:=hownp.row;have hb34:=hb33.trans (hb4.mono hb33.size);have own5:=KY.made w4 (c:=cp) rfl hrowp hb34.size;have hb35:=hb34.alloc hb34.size (.cells #[.slice ap (ZI V (x,y)).length cp] 26);obtain ⟨w5,hw5⟩:∃w5,w4.alloc (.cells #[.slice ap (ZI V (x,y)).length cp] 26)=w5:=⟨_,rfl⟩;rw [hw5] at own5 hb35;have F5:=F3.ext hb35;have hR5:=F5.rb;obtain ⟨a50,a51,a52,a53⟩:=F5.vb;have c50:=F5.c0;have c51:=F5.c1;have hV5:=hV3.ext hb35))
    | ((go_at_call 209;refine (YZ HIC hV5 hf).mono ?_;rintro e w6 ⟨rfl,hb6⟩;have hb36:=hb35.trans (hb6.mono hb35.size);have F6:=F3.ext hb36;have hR6:=F6.rb;obtain ⟨a60,a61,a62,a63⟩:=F6.vb;have c60:=F6.c0;have c61:=F6.c1;have hV6:=hV3.ext hb36;have own6:=own5.ext hb6))
    | ((go_at_call 211;refine (XB HSPK hV6 hf).mono ?_;rintro e w7 ⟨rfl,hb7⟩;have hb37:=hb36.trans (hb7.mono hb36.size);have F7:=F3.ext hb37;have hR7:=F7.rb;obtain ⟨a70,a71,a72,a73⟩:=F7.vb;have c70:=F7.c0;have c71:=F7.c1;have hV7:=hV3.ext hb37;have own7:=own6.ext hb7))
    | ((at_builtin;refine ZO (own7.alloc _) (by simp;try rfl) rfl (hV7.ds.alloc _) (own7.far hV.ds hB3.size) (by simp) (by have:=hb37.size;simp;omega) rfl rfl rfl rfl ?_;intro v8 w8 own8 hg8;have hb38:=(hb37.alloc hb37.size _).grown hg8 (by have:=hb37.size;simp;omega) (λg hg=>(own7.lt hg).1);have F8:=F3.ext hb38;have hR8:=F8.rb;obtain ⟨a80,a81,a82,a83⟩:=F8.vb;have c80:=F8.c0;have c81:=F8.c1;have hV8:=hV3.ext hb38;obtain ⟨aL,cL,rfl,hLr⟩:=own8.rowN (n:=2) rfl))
    | ((go_at_call 212;refine (YT (Ls:=(([] ++ [ZI V (x,y)]) ++ [V.ds])) (n:=2) (hid rfl) hV8 hf hLr (Yt hs.wf.ds hs.ds (Yt (Qg hs) (by have:=Ka (V:=V) (p:=(x,y));have:=hs.ms;omega) Vj (by simp)) (by simp))).mono ?_;rintro e w9 ⟨vo,rfl,hown,hb9⟩)))
   go_ret
   exact ⟨_,rfl,by rw [HD.out];exact hown.mono (by have:=hb38.size;have:=hB3.size;omega),(hB3.trans (hb38.mono hB3.size)).trans (hb9.mono (by have:=hb38.size;have:=hB3.size;omega))⟩
 ·cases hsp:Xg V (Zv r) (x,y)
  ·have HD:Hid (Kj V (Zv r) (x,y)=ZY V (x,y) (([] ++ [ZI V (x,y)]) ++ [ZR V (Zv r)])):=hid (by unfold Kj zat;rw [hic,hsp];rfl)
   have HIC:=hid hic
   have HSPK:=hid hsp
   clear hic hsp
   go_enter Tryz.func109,Tryz.ntmps109
   go_wp2_with (first
    | (refine ZJ (by assumption) (by rfl) rfl rfl ?_)
    | ((go_at_call 175;refine (Ki V _ _ _ _ _ _ _ _ _ hV3 hs).mono ?_;rintro e w4 ⟨vp,rfl,hownp,hb4⟩;obtain ⟨ap,cp,rfl,hrowp,hpp⟩:=hownp.row;have hb34:=hb33.trans (hb4.mono hb33.size);have own5:=KY.made w4 (c:=cp) rfl hrowp hb34.size;have hb35:=hb34.alloc hb34.size (.cells #[.slice ap (ZI V (x,y)).length cp] 26);obtain ⟨w5,hw5⟩:∃w5,w4.alloc (.cells #[.slice ap (ZI V (x,y)).length cp] 26)=w5:=⟨_,rfl⟩;rw [hw5] at own5 hb35;have F5:=F3.ext hb35;have hR5:=F5.rb;obtain ⟨a50,a51,a52,a53⟩:=F5.vb;have c50:=F5.c0;have c51:=F5.c1;have hV5:=hV3.ext hb35))
    | ((go_at_call 209;refine (YZ HIC hV5 hf).mono ?_;rintro e w6 ⟨rfl,hb6⟩;have hb36:=hb35.trans (hb6.mono hb35.size);have F6:=F3.ext hb36;have hR6:=F6.rb;obtain ⟨a60,a61,a62,a63⟩:=F6.vb;have c60:=F6.c0;have c61:=F6.c1;have hV6:=hV3.ext hb36;have own6:=own5.ext hb6))
    | ((go_at_call 210;refine (XW _ _ _ _ _ _ _ _ _ hV6 hf).mono ?_;rintro e w7 ⟨vs,rfl,howns,hb7⟩;obtain ⟨a9,c9,rfl,hrows,hps⟩:=howns.row;have hb37:=hb36.trans (hb7.mono hb36.size);have F7:=F3.ext hb37;have hR7:=F7.rb;obtain ⟨a70,a71,a72,a73⟩:=F7.vb;have c70:=F7.c0;have c71:=F7.c1;have hV7:=hV3.ext hb37;have own7:=own6.ext hb7))
    | ((at_builtin;refine ZO (own7.alloc _) (by simp;try rfl) rfl (hrows.alloc _) (own6.far2 hps (Nat.le_refl _)) (by simp) (by have:=hb37.size;simp;omega) rfl rfl rfl rfl ?_;intro v8 w8 own8 hg8;have hb38:=(hb37.alloc hb37.size _).grown hg8 (by have:=hb37.size;simp;omega) (λg hg=>(own7.lt hg).1);have F8:=F3.ext hb38;have hR8:=F8.rb;obtain ⟨a80,a81,a82,a83⟩:=F8.vb;have c80:=F8.c0;have c81:=F8.c1;have hV8:=hV3.ext hb38))
    | ((go_at_call 211;refine (XB HSPK hV8 hf).mono ?_;rintro e w9 ⟨rfl,hb9⟩;have hb39:=hb38.trans (hb9.mono hb38.size);have F9:=F3.ext hb39;have hR9:=F9.rb;obtain ⟨a90,a91,a92,a93⟩:=F9.vb;have c90:=F9.c0;have c91:=F9.c1;have hV9:=hV3.ext hb39;have own9:=own8.ext hb9;obtain ⟨aL,cL,rfl,hLr⟩:=own9.rowN (n:=2) rfl))
    | ((go_at_call 212;refine (YT (Ls:=(([] ++ [ZI V (x,y)]) ++ [ZR V (Zv r)])) (n:=2) (hid rfl) hV9 hf hLr (Yt (VA hs) (by have:=XY (V:=V) (S:=Zv r);have:=hs.nl;omega) (Yt (Qg hs) (by have:=Ka (V:=V) (p:=(x,y));have:=hs.ms;omega) Vj (by simp)) (by simp))).mono ?_;rintro e w10 ⟨vo,rfl,hown,hb10⟩)))
   go_ret
   exact ⟨_,rfl,by rw [HD.out];exact hown.mono (by have:=hb39.size;have:=hB3.size;omega),(hB3.trans (hb39.mono hB3.size)).trans (hb10.mono (by have:=hb39.size;have:=hB3.size;omega))⟩
  ·have HD:Hid (Kj V (Zv r) (x,y)=ZY V (x,y) ((([] ++ [ZI V (x,y)]) ++ [ZR V (Zv r)]) ++ [V.ds])):=hid (by unfold Kj zat;rw [hic,hsp];rfl)
   have HIC:=hid hic
   have HSPK:=hid hsp
   clear hic hsp
   go_enter Tryz.func109,Tryz.ntmps109
   go_wp2_with (first
    | (refine ZJ (by assumption) (by rfl) rfl rfl ?_)
    | ((go_at_call 175;refine (Ki V _ _ _ _ _ _ _ _ _ hV3 hs).mono ?_;rintro e w4 ⟨vp,rfl,hownp,hb4⟩;obtain ⟨ap,cp,rfl,hrowp,hpp⟩:=hownp.row;have hb34:=hb33.trans (hb4.mono hb33.size);have own5:=KY.made w4 (c:=cp) rfl hrowp hb34.size;have hb35:=hb34.alloc hb34.size (.cells #[.slice ap (ZI V (x,y)).length cp] 26);obtain ⟨w5,hw5⟩:∃w5,w4.alloc (.cells #[.slice ap (ZI V (x,y)).length cp] 26)=w5:=⟨_,rfl⟩;rw [hw5] at own5 hb35;have F5:=F3.ext hb35;have hR5:=F5.rb;obtain ⟨a50,a51,a52,a53⟩:=F5.vb;have c50:=F5.c0;have c51:=F5.c1;have hV5:=hV3.ext hb35))
    | ((go_at_call 209;refine (YZ HIC hV5 hf).mono ?_;rintro e w6 ⟨rfl,hb6⟩;have hb36:=hb35.trans (hb6.mono hb35.size);have F6:=F3.ext hb36;have hR6:=F6.rb;obtain ⟨a60,a61,a62,a63⟩:=F6.vb;have c60:=F6.c0;have c61:=F6.c1;have hV6:=hV3.ext hb36;have own6:=own5.ext hb6))
    | ((go_at_call 210;refine (XW _ _ _ _ _ _ _ _ _ hV6 hf).mono ?_;rintro e w7 ⟨vs,rfl,howns,hb7⟩;obtain ⟨a9,c9,rfl,hrows,hps⟩:=howns.row;have hb37:=hb36.trans (hb7.mono hb36.size);have F7:=F3.ext hb37;have hR7:=F7.rb;obtain ⟨a70,a71,a72,a73⟩:=F7.vb;have c70:=F7.c0;have c71:=F7.c1;have hV7:=hV3.ext hb37;have own7:=own6.ext hb7))
    | ((at_builtin;refine ZO (own7.alloc _) (by simp;try rfl) rfl (hrows.alloc _) (own6.far2 hps (Nat.le_refl _)) (by simp) (by have:=hb37.size;simp;omega) rfl rfl rfl rfl ?_;intro v8 w8 own8 hg8;have hb38:=(hb37.alloc hb37.size _).grown hg8 (by have:=hb37.size;simp;omega) (λg hg=>(own7.lt hg).1);have F8:=F3.ext hb38;have hR8:=F8.rb;obtain ⟨a80,a81,a82,a83⟩:=F8.vb;have c80:=F8.c0;have c81:=F8.c1;have hV8:=hV3.ext hb38))
    | ((go_at_call 211;refine (XB HSPK hV8 hf).mono ?_;rintro e w9 ⟨rfl,hb9⟩;have hb39:=hb38.trans (hb9.mono hb38.size);have F9:=F3.ext hb39;have hR9:=F9.rb;obtain ⟨a90,a91,a92,a93⟩:=F9.vb;have c90:=F9.c0;have c91:=F9.c1;have hV9:=hV3.ext hb39;have own9:=own8.ext hb9))
    | ((at_builtin;refine ZO (own9.alloc _) (by simp;try rfl) rfl (hV9.ds.alloc _) (own9.far hV.ds hB3.size) (by simp) (by have:=hb39.size;simp;omega) rfl rfl rfl rfl ?_;intro v10 w10 own10 hg10;have hb310:=(hb39.alloc hb39.size _).grown hg10 (by have:=hb39.size;simp;omega) (λg hg=>(own9.lt hg).1);have F10:=F3.ext hb310;have hR10:=F10.rb;obtain ⟨a100,a101,a102,a103⟩:=F10.vb;have c100:=F10.c0;have c101:=F10.c1;have hV10:=hV3.ext hb310;obtain ⟨aL,cL,rfl,hLr⟩:=own10.rowN (n:=3) rfl))
    | ((go_at_call 212;refine (YT (Ls:=((([] ++ [ZI V (x,y)]) ++ [ZR V (Zv r)]) ++ [V.ds])) (n:=3) (hid rfl) hV10 hf hLr (Yt hs.wf.ds hs.ds (Yt (VA hs) (by have:=XY (V:=V) (S:=Zv r);have:=hs.nl;omega) (Yt (Qg hs) (by have:=Ka (V:=V) (p:=(x,y));have:=hs.ms;omega) Vj (by simp)) (by simp)) (by simp))).mono ?_;rintro e w11 ⟨vo,rfl,hown,hb11⟩)))
   go_ret
   exact ⟨_,rfl,by rw [HD.out];exact hown.mono (by have:=hb310.size;have:=hB3.size;omega),(hB3.trans (hb310.mono hB3.size)).trans (hb11.mono (by have:=hb310.size;have:=hB3.size;omega))⟩
def wasC:List Value:=[.int .u64 0,.slice none 0 0,.slice none 0 0,.slice none 0 0]
def stC (c0 c1 c2 c3 c4:Value):List Value:=[c0,c1,c2,c3,c4,.string ⟨#[]⟩,.string ⟨#[]⟩,.string ⟨#[]⟩,.string ⟨#[]⟩,.string ⟨#[]⟩,.string ⟨#[]⟩,.string ⟨#[]⟩,.string ⟨#[]⟩]
theorem bdOk0:BdOk [⟨#[]⟩,⟨#[]⟩,⟨#[]⟩,⟨#[]⟩,⟨#[]⟩,⟨#[]⟩,⟨#[]⟩,⟨#[]⟩]:=λk m h=>by
 have:m∈([⟨#[]⟩,⟨#[]⟩,⟨#[]⟩,⟨#[]⟩,⟨#[]⟩,⟨#[]⟩,⟨#[]⟩,⟨#[]⟩]:List ByteArray):=List.mem_of_getElem? h
 simp at this
 subst this
 exact Nat.zero_le _
abbrev st11 (w:World) (b:Nat) (v0 v1 v2 v3 v4 v5 v6 v7 v8 v9 v10:Value):World:=((((((((((w.setCell ⟨b,9,none⟩ v0).setCell ⟨b,10,none⟩ v1).setCell ⟨b,11,none⟩ v2).setCell ⟨b,12,none⟩ v3).setCell ⟨b,13,none⟩ v4).setCell ⟨b,14,none⟩ v5).setCell ⟨b,15,none⟩ v6).setCell ⟨b,16,none⟩ v7).setCell ⟨b,17,none⟩ v8).setCell ⟨b,18,none⟩ v9).setCell ⟨b,19,none⟩ v10
theorem zb3 {w:World} {b:Nat} {t:TypeId} {cs:List Value} (h:Zc w b t cs) (v0 v1 v2 v3 v4 v5 v6 v7 v8 v9 v10:Value):Zc (st11 w b v0 v1 v2 v3 v4 v5 v6 v7 v8 v9 v10) b t (((((((((((cs.set 9 v0).set 10 v1).set 11 v2).set 12 v3).set 13 v4).set 14 v5).set 15 v6).set 16 v7).set 17 v8).set 18 v9).set 19 v10) :=
 (((((((((((h.set (j:=9) (v:=v0)).set (j:=10) (v:=v1)).set (j:=11) (v:=v2)).set (j:=12) (v:=v3)).set (j:=13) (v:=v4)).set (j:=14) (v:=v5)).set (j:=15) (v:=v6)).set (j:=16) (v:=v7)).set (j:=17) (v:=v8)).set (j:=18) (v:=v9)).set (j:=19) (v:=v10))
theorem FI (w:World) (b:Nat) (v0 v1 v2 v3 v4 v5 v6 v7 v8 v9 v10:Value):Mut (λk=>k=b) w (st11 w b v0 v1 v2 v3 v4 v5 v6 v7 v8 v9 v10):=by
 unfold st11
 iterate 11 refine Zf ?_ b _ _ rfl
 exact Mut.refl _ _
structure Bnd where
 least:Int
 most:Int
 tmo:Int
def GS (b:Bnd):Bool:=decide (1≤b.least) && (decide (b.most≤8) && decide (2 * b.least≤b.most))
abbrev LL:=List (List Pid)
def gtL (b:Bnd) (l:List Pid):Bool:=decide (b.most<(l.length:Int))
def ltL (b:Bnd) (l:List Pid):Bool:=decide ((l.length:Int)<b.least)
def Yc (f:List Pid→Bool):LL→Nat→Int
 | [],_=>-1
 | l :: r,k=>if f l=true then (k:Int) else Yc f r (k+1)
theorem Kf {f:List Pid→Bool} {ls:LL} {k:Nat} (h:k<ls.length) {l:List Pid} (hl:l=ls[k]):Yc f (ls.drop k) k=if f l=true then (k:Int) else Yc f (ls.drop (k+1)) (k+1):=by
 rw [List.drop_eq_getElem_cons h,← hl];rfl
theorem KO {f:List Pid→Bool} {ls:LL} {k:Nat} (h:ls.length≤k):Yc f (ls.drop k) k=-1:=by
 rw [List.drop_eq_nil_of_le h];rfl
theorem Vz (f:List Pid→Bool):∀(ls:LL) (k:Nat),(Yc f ls k=-1∧∀l∈ls,f l=false)∨∃j,∃h:j<ls.length,Yc f ls k=((k+j:Nat):Int)∧f ls[j]=true
 | [],k=>.inl ⟨rfl,by simp⟩
 | l :: r,k=>by
  unfold Yc
  cases hf:f l
  ·rw [if_neg (by simp)]
   rcases Vz f r (k+1) with ⟨h1,h2⟩ | ⟨j,hj,h1,h2⟩
   ·exact .inl ⟨h1,λx hx=>(List.mem_cons.1 hx).elim (λe=>e ▸ hf) (h2 x)⟩
   ·exact .inr ⟨j+1,by simpa using hj,by rw [h1];congr 1;omega,by simpa using h2⟩
  ·rw [if_pos rfl]
   exact .inr ⟨0,by simp,by simp,by simpa using hf⟩
def Yr (b:Bnd) (ls:LL):Int:=Yc (gtL b) ls 0
def Yp (b:Bnd) (ls:LL):Int:=if ls.length<2 then -1 else Yc (ltL b) ls 0
def EI (b:Bnd) (ls:LL):Bool:=decide (Yr b ls<0) && decide (Yp b ls<0)
def Vp (ls:LL) (i:Nat):Nat:=(ls.getD i []).length
def Vf (ls:LL) (but z:Int) (i:Nat):Int:=if (i:Int)≠but∧(z<0∨Vp ls i<Vp ls z.toNat) then (i:Int) else z
def VV (ls:LL) (but:Int):Nat→Int
 | 0=>-1
 | k+1=>Vf ls but (VV ls but k) k
def zcR (ls:LL) (but:Int):Int:=VV ls but ls.length
def IsFew (ls:LL) (but:Int) (k:Nat) (z:Int):Prop :=
 (z=-1∧∀i,i<k→(i:Int)=but)∨∃j:Nat,j<k∧z=(j:Int)∧(j:Int)≠but∧∀i:Nat,i<k→(i:Int)≠but→Vp ls j≤Vp ls i∧(i<j→Vp ls j<Vp ls i)
theorem Qf (ls:LL) (but:Int):∀k,IsFew ls but k (VV ls but k)
 | 0=>.inl ⟨rfl,λi h=>by omega⟩
 | k+1=>by
  have ih:=Qf ls but k
  unfold VV Vf
  rcases ih with ⟨h1,h2⟩ | ⟨j,h1,h2,h3,h4⟩
  ·rw [h1]
   by_cases hk:(k:Int)≠but
   ·rw [if_pos ⟨hk,.inl (by omega)⟩]
    refine .inr ⟨k,by omega,rfl,hk,λi hi hb=>?_⟩
    by_cases hik:i=k
    ·subst hik;exact ⟨Nat.le_refl _,λh=>by omega⟩
    ·exact absurd (h2 i (by omega)) hb
   ·rw [if_neg (λh=>hk h.1)]
    refine .inl ⟨rfl,λi hi=>?_⟩
    by_cases hik:i=k
    ·subst hik;omega
    ·exact h2 i (by omega)
  ·rw [h2]
   simp only [Int.toNat_natCast]
   by_cases hc:(k:Int)≠but∧(((j:Nat):Int)<0∨Vp ls k<Vp ls j)
   ·rw [if_pos hc]
    have hlt:Vp ls k<Vp ls j:=by rcases hc.2 with h | h <;> omega
    refine .inr ⟨k,by omega,rfl,hc.1,λi hi hb=>?_⟩
    by_cases hik:i=k
    ·subst hik;exact ⟨Nat.le_refl _,λh=>by omega⟩
    ·have:=(h4 i (by omega) hb).1
     exact ⟨by omega,λ_=>by omega⟩
   ·rw [if_neg hc]
    refine .inr ⟨j,by omega,rfl,h3,λi hi hb=>?_⟩
    by_cases hik:i=k
    ·subst hik
     have:¬ Vp ls i<Vp ls j:=λh=>hc ⟨hb,.inr h⟩
     exact ⟨by omega,λ_=>by omega⟩
    ·exact h4 i (by omega) hb
theorem QC {ls:LL} (h:0<ls.length):∃j:Nat,j<ls.length∧zcR ls (-1)=(j:Int):=by
 rcases Qf ls (-1) ls.length with ⟨h1,h2⟩ | ⟨j,h1,h2,-⟩
 ·have:=h2 0 h;omega
 ·exact ⟨j,h1,h2⟩
theorem Qd {α:Type} {d:α} {ls:List α} {i:Nat} (h:i<ls.length):∃A x B,ls=A ++ x :: B∧A.length=i∧ls.getD i d=x :=
 ⟨ls.take i,ls[i],ls.drop (i+1),by rw [List.getElem_cons_drop,List.take_append_drop],by simp;omega,by simp [List.getD,h]⟩
theorem QS {α:Type} (x y:α) (B:List α):∀A:List α,(A ++ x :: B).set A.length y=A ++ y :: B
 | []=>rfl
 | a :: A=>by simp [QS x y B A]
theorem EY {α:Type} (x:α) (B:List α):∀A:List α,(A ++ x :: B).eraseIdx A.length=A ++ B
 | []=>rfl
 | a :: A=>by simp [EY x B A]
def GG (l:List Pid):Nat:=(l.length+1) / 2
def Ft (ls:LL) (i:Nat):LL:=ls.set i ((ls.getD i []).take (GG (ls.getD i []))) ++ [(ls.getD i []).drop (GG (ls.getD i []))]
def Fs (ls:LL) (s:Nat):LL:=(ls.eraseIdx s).set (zcR (ls.eraseIdx s) (-1)).toNat ((ls.eraseIdx s).getD (zcR (ls.eraseIdx s) (-1)).toNat [] ++ ls.getD s [])
def EW (b:Bnd):Nat→LL→LL
 | 0,ls=>ls
 | n+1,ls=>if 0≤Yr b ls then EW b n (Ft ls (Yr b ls).toNat) else if 0≤Yp b ls then EW b n (Fs ls (Yp b ls).toNat) else ls
def Ym (ls:LL):Nat:=(ls.map List.length).sum
def phi (b:Bnd) (ls:LL):Nat:=2 * ls.countP (ltL b)+Ym ls - ls.length
def Qj (ls:LL):Prop:=∀l∈ls,l≠[]
theorem Kk (A B:LL):Ym (A ++ B)=Ym A+Ym B:=by simp [Ym]
theorem YA (x:List Pid) (B:LL):Ym (x :: B)=x.length+Ym B:=by simp [Ym]
theorem Xs {ls:LL} (h:Qj ls):ls.length≤Ym ls:=by
 induction ls with
 | nil=>simp [Ym]
 | cons l r ih =>
  have h1:0<l.length:=List.length_pos_iff.2 (h l (List.mem_cons_self ..))
  have h2:=ih (λx hx=>h x (List.mem_cons_of_mem _ hx))
  rw [YA,List.length_cons];omega
theorem Yn (ls:LL):ls.flatten.length=Ym ls:=by
 induction ls with
 | nil=>rfl
 | cons l r ih=>rw [List.flatten_cons,List.length_append,ih,YA]
theorem phi_le {b:Bnd} {ls:LL} (h:Qj ls):phi b ls≤3 * Ym ls:=by
 have h1:ls.countP (ltL b)≤ls.length:=List.countP_le_length
 have h2:=Xs h
 unfold phi;omega
theorem zdY {b:Bnd} (h:GS b=true):1≤b.least∧b.most≤8∧2 * b.least≤b.most:=by
 unfold GS at h
 simp only [Bool.and_eq_true,decide_eq_true_eq] at h
 exact h
theorem zdF {b:Bnd} {ls:LL} (hb:GS b=true) (hf:Qj ls) (hg:0≤Yr b ls) :
  phi b (Ft ls (Yr b ls).toNat)<phi b ls∧Qj (Ft ls (Yr b ls).toNat)∧(Ft ls (Yr b ls).toNat).flatten.Perm ls.flatten∧(Yr b ls).toNat<ls.length∧2≤(ls.getD (Yr b ls).toNat []).length:=by
 obtain ⟨hb1,hb2,hb3⟩:=zdY hb
 rcases Vz (gtL b) ls 0 with ⟨h1,-⟩ | ⟨j,hj,h1,h2⟩
 ·unfold Yr at hg;omega
 have hz:(Yr b ls).toNat=j:=by unfold Yr;rw [h1];simp
 rw [hz]
 obtain ⟨A,x,B,rfl,rfl,hx⟩:=Qd (d:=([]:List Pid)) hj
 have hx2:(A ++ x :: B)[A.length]=x:=by simp
 rw [hx2] at h2
 unfold gtL at h2
 simp only [decide_eq_true_eq] at h2
 unfold Ft
 rw [hx,QS]
 have hl2:2≤x.length:=by omega
 have hh:GG x=(x.length+1) / 2:=rfl
 have ht:(x.take (GG x)).length=GG x:=by rw [List.length_take];omega
 have hd:(x.drop (GG x)).length=x.length - GG x:=List.length_drop
 have n1:ltL b (x.take (GG x))=false:=by unfold ltL;rw [ht];simp;omega
 have n2:ltL b (x.drop (GG x))=false:=by unfold ltL;rw [hd];simp;omega
 have hfl:=Xs hf
 have nx:ltL b x=false:=by unfold ltL;simp;omega
 have c0:(A ++ x :: B).countP (ltL b)=A.countP (ltL b)+B.countP (ltL b):=by simp only [List.countP_append,List.countP_cons,nx];simp
 have c1:(A ++ x.take (GG x) :: B ++ [x.drop (GG x)]).countP (ltL b)=A.countP (ltL b)+B.countP (ltL b):=by simp only [List.countP_append,List.countP_cons,List.countP_nil,n1,n2];simp
 have t0:Ym (A ++ x :: B)=Ym A+x.length+Ym B:=by simp only [Kk,YA];omega
 have t1:Ym (A ++ x.take (GG x) :: B ++ [x.drop (GG x)])=Ym A+x.length+Ym B:=by
  have e:Ym ([]:LL)=0:=rfl
  simp only [Kk,YA,ht,hd,e];omega
 have l0:(A ++ x :: B).length=A.length+B.length+1:=by simp;omega
 have l1:(A ++ x.take (GG x) :: B ++ [x.drop (GG x)]).length=A.length+B.length+2:=by simp;omega
 refine ⟨?_,?_,?_,by simp,hl2⟩
 ·unfold phi
  rw [c0,c1,t0,t1,l0,l1]
  have hfa:=Xs (ls:=A) (λl hl=>hf l (by simp [hl]))
  have hfb:=Xs (ls:=B) (λl hl=>hf l (by simp [hl]))
  omega
 ·intro l hl
  simp only [List.mem_append,List.mem_cons,List.not_mem_nil,or_false] at hl
  rcases hl with (hl | rfl | hl) | rfl
  ·exact hf l (by simp [hl])
  ·exact λe=>by rw [e] at ht;simp at ht;omega
  ·exact hf l (by simp [hl])
  ·exact λe=>by rw [e] at hd;simp at hd;omega
 ·simp only [List.flatten_append,List.flatten_cons,List.flatten_nil,List.append_nil]
  have h5:x.take (GG x) ++ x.drop (GG x)=x:=List.take_append_drop _ _
  refine List.Perm.trans ?_ (List.Perm.append_left A.flatten (by rw [h5]:((x.take (GG x) ++ x.drop (GG x)) ++ B.flatten).Perm (x ++ B.flatten)))
  rw [List.append_assoc,List.append_assoc,List.append_assoc]
  exact List.Perm.append_left _ (List.Perm.append_left _ List.perm_append_comm)
theorem EN {b:Bnd} {ls:LL} (h:0≤Yp b ls):2≤ls.length:=by
 unfold Yp at h
 by_cases h2:ls.length<2
 ·rw [if_pos h2] at h;omega
 ·omega
theorem zdO {b:Bnd} {ls:LL} (hb:GS b=true) (hf:Qj ls) (hs:0≤Yp b ls) :
  phi b (Fs ls (Yp b ls).toNat)<phi b ls∧Qj (Fs ls (Yp b ls).toNat)∧(Fs ls (Yp b ls).toNat).flatten.Perm ls.flatten∧(Yp b ls).toNat<ls.length:=by
 obtain ⟨hb1,hb2,hb3⟩:=zdY hb
 have h2:=EN hs
 have e:Yp b ls=Yc (ltL b) ls 0:=by unfold Yp;rw [if_neg (by omega)]
 rw [e] at hs ⊢
 rcases Vz (ltL b) ls 0 with ⟨h1,-⟩ | ⟨j,hj,h1,h3⟩
 ·omega
 have hz:(Yc (ltL b) ls 0).toNat=j:=by rw [h1];simp
 rw [hz]
 have hfl:=Xs hf
 obtain ⟨A,x,B,rfl,rfl,hx⟩:=Qd (d:=([]:List Pid)) hj
 have hx2:(A ++ x :: B)[A.length]=x:=by simp
 rw [hx2] at h3
 unfold Fs
 rw [hx,EY]
 have hAB:0<(A ++ B).length:=by simp at h2 ⊢;omega
 obtain ⟨t,ht,hte⟩:=QC hAB
 rw [hte,Int.toNat_natCast]
 have hfAB:Qj (A ++ B):=λl hl=>hf l (by simp at hl ⊢;rcases hl with h | h <;> simp [h])
 have htot:Ym (A ++ x :: B)=x.length+Ym (A ++ B):=by simp only [Kk,YA];omega
 have hcnt:(A ++ x :: B).countP (ltL b)=1+(A ++ B).countP (ltL b):=by simp only [List.countP_append,List.countP_cons,h3,if_true];omega
 have hlen:(A ++ x :: B).length=1+(A ++ B).length:=by simp;omega
 have hperm:(A ++ x :: B).flatten.Perm (x ++ (A ++ B).flatten):=by
  simp only [List.flatten_append,List.flatten_cons]
  rw [←List.append_assoc,← List.append_assoc]
  exact List.Perm.append_right _ List.perm_append_comm
 have hfx:x≠[]:=hf x (by simp)
 generalize hM:A ++ B=M at *
 obtain ⟨C,y,D,rfl,rfl,hy⟩:=Qd (d:=([]:List Pid)) ht
 rw [hy,QS]
 have hfM:=Xs hfAB
 have hx1:0<x.length:=List.length_pos_iff.2 hfx
 have hy1:ltL b (y ++ x)=true→ltL b y=true:=by unfold ltL;simp;omega
 have c0:(C ++ y :: D).countP (ltL b)=C.countP (ltL b)+D.countP (ltL b)+(if ltL b y=true then 1 else 0):=by simp only [List.countP_append,List.countP_cons];omega
 have c1:(C ++ (y ++ x) :: D).countP (ltL b)=C.countP (ltL b)+D.countP (ltL b)+(if ltL b (y ++ x)=true then 1 else 0):=by simp only [List.countP_append,List.countP_cons];omega
 have c2:(if ltL b (y ++ x)=true then 1 else 0)≤(if ltL b y=true then 1 else 0):=by
  by_cases h:ltL b (y ++ x)=true
  ·rw [if_pos h,if_pos (hy1 h)];omega
  ·rw [if_neg h];exact Nat.zero_le _
 have t0:Ym (C ++ y :: D)=Ym C+y.length+Ym D:=by simp only [Kk,YA];omega
 have t1:Ym (C ++ (y ++ x) :: D)=Ym C+y.length+x.length+Ym D:=by simp only [Kk,YA,List.length_append];omega
 have l0:(C ++ y :: D).length=C.length+D.length+1:=by simp;omega
 have l1:(C ++ (y ++ x) :: D).length=C.length+D.length+1:=by simp;omega
 refine ⟨?_,?_,?_,by simp⟩
 ·unfold phi
  rw [htot,hcnt,hlen,c0,c1,t0,t1,l0,l1]
  rw [t0,l0] at hfM
  omega
 ·intro l hl
  simp only [List.mem_append,List.mem_cons] at hl
  rcases hl with hl | rfl | hl
  ·exact hfAB l (by simp [hl])
  ·exact λe=>hfx (List.append_eq_nil_iff.1 e).2
  ·exact hfAB l (by simp [hl])
 ·refine List.Perm.trans ?_ hperm.symm
  simp only [List.flatten_append,List.flatten_cons]
  have e1:C.flatten ++ (y ++ x ++ D.flatten)=(C.flatten ++ y) ++ (x ++ D.flatten):=by simp
  have e2:x ++ (C.flatten ++ (y ++ D.flatten))=(x ++ (C.flatten ++ y)) ++ D.flatten:=by simp
  rw [e1,e2,← List.append_assoc]
  exact List.Perm.append_right _ List.perm_append_comm
theorem zdZ {b:Bnd} (hb:GS b=true):∀(n:Nat) (ls:LL),Qj ls→phi b ls≤n→Qj (EW b n ls)∧(EW b n ls).flatten.Perm ls.flatten∧EI b (EW b n ls)=true
 | n,ls,hf,hp=>by
  by_cases hg:0≤Yr b ls
  ·obtain ⟨h1,h2,h3,-,-⟩:=zdF hb hf hg
   match n,hp with
   | 0,hp=>omega
   | n+1,hp =>
    have ih:=zdZ hb n (Ft ls (Yr b ls).toNat) h2 (by omega)
    unfold EW
    rw [if_pos hg]
    exact ⟨ih.1,ih.2.1.trans h3,ih.2.2⟩
  ·by_cases hs:0≤Yp b ls
   ·obtain ⟨h1,h2,h3,-⟩:=zdO hb hf hs
    match n,hp with
    | 0,hp=>omega
    | n+1,hp =>
     have ih:=zdZ hb n (Fs ls (Yp b ls).toNat) h2 (by omega)
     unfold EW
     rw [if_neg hg,if_pos hs]
     exact ⟨ih.1,ih.2.1.trans h3,ih.2.2⟩
   ·have e:EW b n ls=ls:=by
     cases n with
     | zero=>rfl
     | succ n=>unfold EW;rw [if_neg hg,if_neg hs]
    rw [e]
    exact ⟨hf,List.Perm.refl _,by unfold EI;simp;omega⟩
def FV (ms:List Pid) (l:List Pid):Nat:=ms.findIdx λp=>decide (p∈l)
def FW (ms:List Pid) (ls:LL):LL:=(List.range ms.length).flatMap λi=>(ls.filter λl=>decide (FV ms l=i)).map (ZA ms)
def hdIx (ms:List Pid) (l:List Pid):Int:=Ks ms (l.headD (0,0))
structure ZU (ms:List Pid) (ls:LL):Prop where
 nd:ms.Nodup
 full:Qj ls
 perm:ls.flatten.Perm ms
theorem ZU.hit {ms:List Pid} {ls:LL} (h:ZU ms ls) {l:List Pid} (hl:l∈ls):∃p∈ms,p∈l:=by
 obtain ⟨p,hp⟩:=List.exists_mem_of_ne_nil l (h.full l hl)
 exact ⟨p,h.perm.mem_iff.1 (List.mem_flatten.2 ⟨l,hl,hp⟩),hp⟩
theorem ZU.key_lt {ms:List Pid} {ls:LL} (h:ZU ms ls) {l:List Pid} (hl:l∈ls):FV ms l<ms.length:=by
 obtain ⟨p,h1,h2⟩:=h.hit hl
 exact List.findIdx_lt_length_of_exists ⟨p,h1,by simpa using h2⟩
theorem ZU.key_mem {ms:List Pid} {ls:LL} (h:ZU ms ls) {l:List Pid} (hl:l∈ls):ms[FV ms l]'(h.key_lt hl)∈l:=by
 have:=List.findIdx_getElem (w:=h.key_lt hl)
 exact of_decide_eq_true this
theorem key_min {ms l:List Pid} {j:Nat} (h:j<FV ms l) (hj:j<ms.length):ms[j] ∉ l:=by
 have:=List.not_of_lt_findIdx h
 simpa using this
theorem ZU.keys {ms:List Pid} {ls:LL} (h:ZU ms ls):ls.Pairwise λa b=>FV ms a≠FV ms b:=by
 have h1:ls.flatten.Nodup:=h.perm.nodup_iff.2 h.nd
 have h2:=(List.pairwise_flatten.1 h1).2
 refine List.Pairwise.imp_of_mem ?_ h2
 intro a b ha hb hab hk
 have ka:=h.key_mem ha
 have kb:=h.key_mem hb
 have e:ms[FV ms a]'(h.key_lt ha)=ms[FV ms b]'(h.key_lt hb):=by simp only [hk]
 rw [e] at ka
 exact hab _ ka _ kb rfl
theorem JP {α β:Type} {f:α→β}:∀{l:List α},l.Pairwise (λa b=>f a≠f b)→∀a∈l,∀b∈l,f a=f b→a=b
 | [],_,a,ha,_,_,_=>by cases ha
 | x :: r,h,a,ha,b,hb,e=>by
  obtain ⟨h1,h2⟩:=List.pairwise_cons.1 h
  rcases List.mem_cons.1 ha with e1 | ha2 <;> rcases List.mem_cons.1 hb with e2 | hb2
  ·rw [e1,e2]
  ·rw [e1] at e;exact absurd e (h1 b hb2)
  ·rw [e2] at e;exact absurd e.symm (h1 a ha2)
  ·exact JP h2 a ha2 b hb2 e
theorem atIx_nd {ms:List Pid} (h:ms.Nodup) {k:Nat} (hk:k<ms.length):Ks ms ms[k]=(k:Int):=by
 have e:ms=ms.take k ++ ms[k] :: ms.drop (k+1):=by rw [List.getElem_cons_drop,List.take_append_drop]
 have hn:ms[k] ∉ ms.take k:=by
  intro hm
  rw [e] at h
  have:=(List.nodup_append.1 h).2.2 _ hm _ (List.mem_cons_self ..)
  exact this rfl
 unfold Ks
 have:=QK (p:=ms[k]) (pre:=ms.take k) (suf:=ms.drop (k+1)) (k:=0) hn
 rw [←e] at this
 rw [this]
 simp;omega
theorem ZU.head {ms:List Pid} {ls:LL} (h:ZU ms ls) {l:List Pid} (hl:l∈ls):(ZA ms l).head?=some (ms[FV ms l]'(h.key_lt hl)):=by
 unfold ZA
 rw [List.head?_filter,List.find?_eq_some_iff_getElem]
 refine ⟨by simpa using h.key_mem hl,FV ms l,h.key_lt hl,rfl,λj hj=>?_⟩
 have:=key_min (l:=l) hj (by have:=h.key_lt hl;omega)
 simpa using this
theorem ZU.hdIx {ms:List Pid} {ls:LL} (h:ZU ms ls) {l:List Pid} (hl:l∈ls):hdIx ms (ZA ms l)=(FV ms l:Int):=by
 unfold Go.Proofs.YtcdpaflmofljaaaGreat.hdIx
 rw [List.headD_eq_head?_getD,h.head hl,Option.getD_some]
 exact atIx_nd h.nd _
theorem zd9 (k c:Nat):∀n:Nat,((List.range n).map λi=>if k=i then c else 0).sum=if k<n then c else 0
 | 0=>by simp
 | n+1=>by
  rw [List.range_succ,List.map_append,List.sum_append,zd9 k c n]
  simp only [List.map_cons,List.map_nil,List.sum_cons,List.sum_nil]
  by_cases h1:k<n
  ·rw [if_pos h1,if_neg (by omega),if_pos (by omega)];omega
  ·rw [if_neg h1]
   by_cases h2:k=n
   ·rw [if_pos h2,if_pos (by omega)];omega
   ·rw [if_neg h2,if_neg (by omega)];rfl
theorem Qa {α:Type} [DecidableEq α] (f:α→Nat) (n:Nat) (l:List α) (h:∀a∈l,f a<n):((List.range n).flatMap λi=>l.filter λa=>decide (f a=i)).Perm l:=by
 rw [List.perm_iff_count]
 intro a
 by_cases ha:a∈l
 ·rw [List.count_flatMap]
  have e:(List.range n).map (List.count a ∘ λi=>l.filter λa=>decide (f a=i))=(List.range n).map λi=>if f a=i then l.count a else 0:=by
   refine List.map_congr_left λi _=>?_
   simp only [Function.comp]
   by_cases hi:f a=i
   ·rw [if_pos hi,List.count_filter (by simpa using hi)]
   ·rw [if_neg hi,List.count_eq_zero]
    simp [hi]
  rw [e,zd9,if_pos (h a ha)]
 ·rw [List.count_eq_zero.2 ha,List.count_eq_zero]
  intro hm
  obtain ⟨i,-,hi⟩:=List.mem_flatMap.1 hm
  exact ha (List.mem_filter.1 hi).1
theorem ZU.ord_perm {ms:List Pid} {ls:LL} (h:ZU ms ls):(FW ms ls).Perm (ls.map (ZA ms)):=by
 have:=(Qa (FV ms) ms.length ls λa ha=>h.key_lt ha).map (ZA ms)
 unfold FW
 rwa [List.map_flatMap] at this
theorem ZU.ord_sorted {ms:List Pid} {ls:LL} (h:ZU ms ls):(FW ms ls).Pairwise λa b=>Go.Proofs.YtcdpaflmofljaaaGreat.hdIx ms a≤Go.Proofs.YtcdpaflmofljaaaGreat.hdIx ms b:=by
 have hk:∀i,∀a∈(ls.filter λl=>decide (FV ms l=i)).map (ZA ms),Go.Proofs.YtcdpaflmofljaaaGreat.hdIx ms a=(i:Int):=by
  intro i a ha
  obtain ⟨l,hl,rfl⟩:=List.mem_map.1 ha
  obtain ⟨h1,h2⟩:=List.mem_filter.1 hl
  rw [h.hdIx h1]
  have:FV ms l=i:=by simpa using h2
  rw [this]
 unfold FW
 rw [List.pairwise_flatMap]
 refine ⟨λi _=>?_,?_⟩
 ·refine List.Pairwise.imp_of_mem (R:=λ_ _=>True) ?_ (List.pairwise_of_forall λ_ _=>trivial)
  intro a b ha hb _
  rw [hk i a ha,hk i b hb];exact Int.le_refl _
 ·refine List.Pairwise.imp ?_ List.pairwise_lt_range
  intro i j hij a ha b hb
  rw [hk i a ha,hk j b hb];omega
theorem ZU.ord_eq {ms:List Pid} {ls:LL} (h:ZU ms ls) {cs:LL} (hp:cs.Perm (ls.map (ZA ms))) (hs:cs.Pairwise λa b=>Go.Proofs.YtcdpaflmofljaaaGreat.hdIx ms a≤Go.Proofs.YtcdpaflmofljaaaGreat.hdIx ms b):cs=FW ms ls:=by
 refine List.Perm.eq_of_pairwise (le:=λa b=>Go.Proofs.YtcdpaflmofljaaaGreat.hdIx ms a≤Go.Proofs.YtcdpaflmofljaaaGreat.hdIx ms b) ?_ hs h.ord_sorted (hp.trans h.ord_perm.symm)
 intro a b ha hb h1 h2
 have ha:=hp.mem_iff.1 ha
 have hb:=h.ord_perm.mem_iff.1 hb
 obtain ⟨l,hl,rfl⟩:=List.mem_map.1 ha
 obtain ⟨m,hm,rfl⟩:=List.mem_map.1 hb
 rw [h.hdIx hl,h.hdIx hm] at h1 h2
 have:=JP h.keys l hl m hm (by omega)
 rw [this]
def Xf (S:List Pid) (p:Pid):List Pid:=if 3≤S.length then S else if p∈S then S else S ++ [p]
def Xl (ms:List Pid) (S:List Pid):List Pid:=ms.foldl Xf S
theorem Jy:∀(ms:List Pid) {S:List Pid},3≤S.length→Xl ms S=S
 | [],_,_=>rfl
 | p :: r,S,h=>by
  show Xl r (Xf S p)=S
  have e:Xf S p=S:=by unfold Xf;rw [if_pos h]
  rw [e];exact Jy r h
def Kt (ms:List Pid) (Yj:List Pid):List Pid:=ms.filter λp=>decide (p∈Xl ms Yj)
def chkL (b:Bool):Int:=if b then 0 else 1
structure zem (b:Bnd):Prop where
 l:-9223372036854775808≤b.least∧b.least≤9223372036854775807
 m:-9223372036854775808≤b.most∧b.most≤9223372036854775807
structure Yx (w:World) (g:Nat) (b:Bnd):Prop where
 c0:w.cell? ⟨g,0,none⟩=some (.int .i64 b.least)
 c1:w.cell? ⟨g,1,none⟩=some (.int .i64 b.most)
 c2:w.cell? ⟨g,2,none⟩=some (.int .i64 b.tmo)
theorem Yx.lt {w:World} {g:Nat} {b:Bnd} (h:Yx w g b):g<w.heap.size:=World.block_lt_of_cell? w _ h.c0
theorem Yx.ext {w w':World} {g B:Nat} {b:Bnd} (h:Yx w g b) (hb:Below B w w') (hB:g<B):Yx w' g b :=
 ⟨(hb.cell (by exact hB)).trans h.c0,(hb.cell (by exact hB)).trans h.c1,(hb.cell (by exact hB)).trans h.c2⟩
theorem Yx.made {b:Bnd} (w:World):Yx (w.alloc (.cells #[.int .i64 b.least,.int .i64 b.most,.int .i64 b.tmo] 28)) w.heap.size b:=⟨by simp,by simp,by simp⟩
set_option maxHeartbeats 800000 in
theorem zcl {b:Bnd} {w:World} (hb:zem b) :
  Calls Tryz.prog 63 #[.agg #[.int .i64 b.least,.int .i64 b.most,.int .i64 b.tmo]] w λe w'=>e=.returned (.int .i64 (chkL (GS b)))∧Below w.heap.size w w':=by
 have hB:Below w.heap.size w (w.alloc (.cells #[.int .i64 b.least,.int .i64 b.most,.int .i64 b.tmo] 28)):=bra
 by_cases h1:b.least<1
 ·have t1:decide (b.least<1)=true:=decide_eq_true h1
  have HN:Hid (chkL (GS b)=1):=hid (by unfold GS;rw [decide_eq_false (show ¬ 1≤b.least by omega)];rfl)
  clear h1
  go_enter Tryz.func63,Tryz.ntmps63
  go_wp2
  go_ret
  exact ⟨by rw [HN.out];rfl,hB⟩
 have t1:decide (b.least<1)=false:=decide_eq_false h1
 by_cases h2:8<b.most
 ·have t2:decide (8<b.most)=true:=decide_eq_true h2
  have t3:decide (b.most > 8)=true:=decide_eq_true h2
  have HN:Hid (chkL (GS b)=1):=hid (by unfold GS;rw [decide_eq_false (show ¬ b.most≤8 by omega)];simp [chkL])
  clear h1 h2
  go_enter Tryz.func63,Tryz.ntmps63
  go_wp2
  go_ret
  exact ⟨by rw [HN.out];rfl,hB⟩
 have t2:decide (8<b.most)=false:=decide_eq_false h2
 have t3:decide (b.most > 8)=false:=decide_eq_false h2
 have hm:=hb.m
 have h0:((2:Int) == 0)=false:=rfl
 obtain ⟨q,hq⟩:∃q,b.most.tdiv 2=q:=⟨_,rfl⟩
 have hq2:(0≤b.most→b.most=2 * q∨b.most=2 * q+1)∧(b.most<0→q≤0)∧-9223372036854775808≤q∧q≤4:=by
  have e1:=Int.mul_tdiv_add_tmod b.most 2
  rw [hq] at e1
  have e2:=Int.tmod_lt_of_pos b.most (show (0:Int)<2 by decide)
  have e3:-2<b.most.tmod 2:=by
   have:=Int.tmod_lt_of_pos (-b.most) (show (0:Int)<2 by decide)
   rw [Int.neg_tmod] at this;omega
  refine ⟨λhp=>?_,λhp=>by omega,by omega,by omega⟩
  have:=Int.tmod_nonneg 2 hp
  omega
 have hwr:IntKind.i64.wrap (b.most.tdiv 2)=q:=by rw [hq,IntKind.wrap_i64] <;> omega
 by_cases h3:q<b.least
 ·have u1:decide (q<b.least)=true:=decide_eq_true h3
  have u2:decide (b.least > q)=true:=decide_eq_true h3
  have HN:Hid (chkL (GS b)=1):=hid (by unfold GS;rw [decide_eq_false (show ¬ 2 * b.least≤b.most by omega)];simp [chkL])
  clear h1 h2 h3 hq hq2 hm
  go_enter Tryz.func63,Tryz.ntmps63
  go_wp2
  go_ret
  exact ⟨by rw [HN.out];rfl,hB⟩
 ·have u1:decide (q<b.least)=false:=decide_eq_false h3
  have u2:decide (b.least > q)=false:=decide_eq_false h3
  have HN:Hid (chkL (GS b)=0):=hid (by
   unfold GS
   have a1:decide (1≤b.least)=true:=decide_eq_true (by omega)
   have a2:decide (b.most≤8)=true:=decide_eq_true (by omega)
   have a3:decide (2 * b.least≤b.most)=true:=decide_eq_true (by omega)
   rw [a1,a2,a3];rfl)
  clear h1 h2 h3 hq hq2 hm
  go_enter Tryz.func63,Tryz.ntmps63
  go_wp2
  go_ret
  exact ⟨by rw [HN.out];rfl,hB⟩
theorem zcC {b:Bnd} {a:Option Addr} {c g:Nat} {l:List Pid} {w:World} {r:Bool} (hr:Hid (gtL b l=r)) (hbx:Yx w g b) :
  Calls Tryz.prog 324 #[.slice a l.length c,.pointer (some ⟨g,0,none⟩)] w λe w'=>e=.returned (.bool r)∧w=w':=by
 have hc1:=hbx.c1
 have t1:decide (b.most<(l.length:Int))=r:=hr.out
 have t2:decide ((l.length:Int) > b.most)=r:=hr.out
 clear hr
 go_enter Tryz.func324,Tryz.ntmps324
 go_wp2
 go_ret
 exact ⟨rfl,rfl⟩
set_option maxHeartbeats 800000 in
theorem zdN {b:Bnd} {a:Option Addr} {c g:Nat} {ls:LL} {w:World} (hn:ls.length≤70368744177664) (hrow:Zp w a ls) (hbx:Yx w g b) :
  Calls Tryz.prog 204 #[.slice a ls.length c,.func (.func 324) #[] #[.pointer (some ⟨g,0,none⟩)]] w λe w'=>e=.returned (.int .i64 (Yc (gtL b) ls 0))∧Below w.heap.size w w':=by
 have HBX:=hid hbx
 go_enter Tryz.func204,Tryz.ntmps204
 go_wp2
 go_loopw [4,8] (λr i wr=>r=.int .i64 0∧∃k:Nat,k≤ls.length∧i=.int .i64 k∧Hid (Yc (gtL b) ls 0=Yc (gtL b) (ls.drop k) k)∧Below w.heap.size w wr) (λ_ i _=>ls.length - (intOf i).toNat)
 case atStart=>exact ⟨rfl,0,Nat.zero_le _,rfl,rfl,Below.refl _ _⟩
 case round =>
  obtain ⟨rfl,k,hk,rfl,ha,hb⟩:=hrel
  by_cases hlt:k<ls.length
  ·obtain ⟨bb,off,ai,ci,l,rfl,hx,d1,d2⟩:=hrow.at hb rfl hlt
   have hbw:=HBX.out.ext hb HBX.out.lt
   obtain ⟨r,hr⟩:∃r,gtL b l=r:=⟨_,rfl⟩
   have C1:=hid (zcC (a:=ai) (c:=ci) (hid hr) hbw)
   have hd:=Kf (f:=gtL b) hlt hx
   rw [hr] at hd
   have HD:=hid hd
   clear hx hrow hr hd hbw d2 hbx
   cases r
   case true =>
    go_wp2_with (go_at_call 324;(with_reducible refine C1.out.mono ?_);rintro e w1 ⟨rfl,rfl⟩)
    go_ret
    exact ⟨ZE (by rw [ha.out,HD.out];simp),hb⟩
   case false =>
    go_wp2_with (go_at_call 324;(with_reducible refine C1.out.mono ?_);rintro e w1 ⟨rfl,rfl⟩)
    go_roundw
    case rel=>exact ⟨rfl,k+1,by omega,by go_num,(ha.out.trans (by rw [HD.out];simp):_),hb⟩
    case measure=>simp [intOf];omega
  ·go_wp2
   go_ret
   exact ⟨ZE (by rw [ha.out,KO (by omega)]),hb⟩
theorem zco {b:Bnd} {a:Option Addr} {c g:Nat} {l:List Pid} {w:World} {r:Bool} (hr:Hid (ltL b l=r)) (hbx:Yx w g b) :
  Calls Tryz.prog 325 #[.slice a l.length c,.pointer (some ⟨g,0,none⟩)] w λe w'=>e=.returned (.bool r)∧w=w':=by
 have hc0:=hbx.c0
 have t1:decide ((l.length:Int)<b.least)=r:=hr.out
 have t2:decide ((l.length:Int)<b.least)=r:=hr.out
 clear hr
 go_enter Tryz.func325,Tryz.ntmps325
 go_wp2
 go_ret
 exact ⟨rfl,rfl⟩
set_option maxHeartbeats 800000 in
theorem zdl {b:Bnd} {a:Option Addr} {c g:Nat} {ls:LL} {w:World} (hn:ls.length≤70368744177664) (hrow:Zp w a ls) (hbx:Yx w g b) :
  Calls Tryz.prog 204 #[.slice a ls.length c,.func (.func 325) #[] #[.pointer (some ⟨g,0,none⟩)]] w λe w'=>e=.returned (.int .i64 (Yc (ltL b) ls 0))∧Below w.heap.size w w':=by
 have HBX:=hid hbx
 go_enter Tryz.func204,Tryz.ntmps204
 go_wp2
 go_loopw [4,8] (λr i wr=>r=.int .i64 0∧∃k:Nat,k≤ls.length∧i=.int .i64 k∧Hid (Yc (ltL b) ls 0=Yc (ltL b) (ls.drop k) k)∧Below w.heap.size w wr) (λ_ i _=>ls.length - (intOf i).toNat)
 case atStart=>exact ⟨rfl,0,Nat.zero_le _,rfl,rfl,Below.refl _ _⟩
 case round =>
  obtain ⟨rfl,k,hk,rfl,ha,hb⟩:=hrel
  by_cases hlt:k<ls.length
  ·obtain ⟨bb,off,ai,ci,l,rfl,hx,d1,d2⟩:=hrow.at hb rfl hlt
   have hbw:=HBX.out.ext hb HBX.out.lt
   obtain ⟨r,hr⟩:∃r,ltL b l=r:=⟨_,rfl⟩
   have C1:=hid (zco (a:=ai) (c:=ci) (hid hr) hbw)
   have hd:=Kf (f:=ltL b) hlt hx
   rw [hr] at hd
   have HD:=hid hd
   clear hx hrow hr hd hbw d2 hbx
   cases r
   case true =>
    go_wp2_with (go_at_call 325;(with_reducible refine C1.out.mono ?_);rintro e w1 ⟨rfl,rfl⟩)
    go_ret
    exact ⟨ZE (by rw [ha.out,HD.out];simp),hb⟩
   case false =>
    go_wp2_with (go_at_call 325;(with_reducible refine C1.out.mono ?_);rintro e w1 ⟨rfl,rfl⟩)
    go_roundw
    case rel=>exact ⟨rfl,k+1,by omega,by go_num,(ha.out.trans (by rw [HD.out];simp):_),hb⟩
    case measure=>simp [intOf];omega
  ·go_wp2
   go_ret
   exact ⟨ZE (by rw [ha.out,KO (by omega)]),hb⟩
set_option maxHeartbeats 800000 in
theorem GQ {b:Bnd} {a:Option Addr} {c:Nat} {ls:LL} {w:World} (hn:ls.length≤70368744177664) (hrow:Zp w a ls) :
  Calls Tryz.prog 257 #[.slice a ls.length c,.agg #[.int .i64 b.least,.int .i64 b.most,.int .i64 b.tmo]] w λe w'=>e=.returned (.int .i64 (Yr b ls))∧Below w.heap.size w w':=by
 obtain ⟨W1,hW1⟩:∃W1,w.alloc (.cells #[.int .i64 b.least,.int .i64 b.most,.int .i64 b.tmo] 28)=W1:=⟨_,rfl⟩
 have hB1:Below w.heap.size w W1:=by rw [←hW1];exact bra
 have hbx:Yx W1 w.heap.size b:=by rw [←hW1];exact Yx.made w
 have C1:=hid (zdN (c:=c) hn (hrow.ext hB1) hbx)
 have HB1:=hid hB1
 clear hB1 hbx hrow
 go_enter Tryz.func257,Tryz.ntmps257
 go_wp2_with (go_at_call 204;(with_reducible refine C1.out.mono ?_);rintro e w1 ⟨rfl,hb1⟩)
 go_ret
 exact ⟨rfl,HB1.out.trans (hb1.mono HB1.out.size)⟩
set_option maxHeartbeats 800000 in
theorem Gx {b:Bnd} {a:Option Addr} {c:Nat} {ls:LL} {w:World} (hn:ls.length≤70368744177664) (hrow:Zp w a ls) :
  Calls Tryz.prog 258 #[.slice a ls.length c,.agg #[.int .i64 b.least,.int .i64 b.most,.int .i64 b.tmo]] w λe w'=>e=.returned (.int .i64 (Yp b ls))∧Below w.heap.size w w':=by
 obtain ⟨W1,hW1⟩:∃W1,w.alloc (.cells #[.int .i64 b.least,.int .i64 b.most,.int .i64 b.tmo] 28)=W1:=⟨_,rfl⟩
 have hB1:Below w.heap.size w W1:=by rw [←hW1];exact bra
 have hbx:Yx W1 w.heap.size b:=by rw [←hW1];exact Yx.made w
 have C1:=hid (zdl (c:=c) hn (hrow.ext hB1) hbx)
 have HB1:=hid hB1
 clear hB1 hbx hrow
 by_cases h2:ls.length<2
 ·have t1:decide (ls.length<2)=true:=decide_eq_true h2
  have t2:decide ((ls.length:Int)<2)=true:=decide_eq_true (by omega)
  have HE:Hid (Yp b ls=-1):=hid (by unfold Yp;rw [if_pos h2])
  clear h2
  go_enter Tryz.func258,Tryz.ntmps258
  go_wp2
  go_ret
  exact ⟨by rw [HE.out];rfl,HB1.out⟩
 ·have t1:decide (ls.length<2)=false:=decide_eq_false h2
  have t2:decide ((ls.length:Int)<2)=false:=decide_eq_false (by omega)
  have HE:Hid (Yp b ls=Yc (ltL b) ls 0):=hid (by unfold Yp;rw [if_neg h2])
  clear h2
  go_enter Tryz.func258,Tryz.ntmps258
  go_wp2_with (go_at_call 204;(with_reducible refine C1.out.mono ?_);rintro e w1 ⟨rfl,hb1⟩)
  go_ret
  exact ⟨by rw [HE.out];rfl,HB1.out.trans (hb1.mono HB1.out.size)⟩
theorem Zp.at2 {w:World} {b off:Nat} {ls:LL} (h:Zp w (some ⟨b,off,none⟩) ls) {k:Nat} (hk:k<ls.length) :
  ∃ai ci l,l=ls[k]∧w.cell? ⟨b,off+k,none⟩=some (.slice ai l.length ci)∧Zb w ai l:=by
 obtain ⟨b',off',ai,ci,l,e,h1,h2,h3⟩:=h.at (Below.refl _ _) rfl hk
 cases e
 exact ⟨ai,ci,l,h1,h2,h3⟩
set_option maxRecDepth 100000 in
set_option maxHeartbeats 3200000 in
theorem greatR_any {b:Bnd} {a:Option Addr} {c:Nat} {ls:LL} {w:World} (hn:ls.length≤70368744177664) (hrow:Zp w a ls) :
  Calls Tryz.prog 78 #[.slice a ls.length c,.agg #[.int .i64 b.least,.int .i64 b.most,.int .i64 b.tmo]] w λe w'=>e=.returned (.int .i64 (Yr b ls))∧Below w.heap.size w w':=by
 obtain ⟨W1,hW1⟩:∃W1,w.alloc (.cells #[.int .i64 b.least,.int .i64 b.most,.int .i64 b.tmo] 28)=W1:=⟨_,rfl⟩
 have hB1:Below w.heap.size w W1:=by rw [←hW1];exact bra
 have hbx:Yx W1 w.heap.size b:=by rw [←hW1];exact Yx.made w
 have hrow1:=hrow.ext hB1
 have HBX:=hid hbx
 have HB1:=hid hB1
 clear hB1 hbx hrow
 go_enter Tryz.func78,Tryz.ntmps78
 go_wp2
 go_loopw [4,5] (λr i wr=>r=.int .i64 0∧∃k:Nat,k≤ls.length∧i=.int .i64 k∧Hid (Yc (gtL b) ls 0=Yc (gtL b) (ls.drop k) k)∧Below W1.heap.size W1 wr) (λ_ i _=>ls.length - (intOf i).toNat)
 case atStart=>exact ⟨rfl,0,Nat.zero_le _,rfl,rfl,Below.refl _ _⟩
 case round =>
  obtain ⟨rfl,k,hk,rfl,ha,hb⟩:=hrel
  by_cases hlt:k<ls.length
  ·obtain ⟨bb,off,ai,ci,l,rfl,hx,d1,-⟩:=hrow1.at hb rfl hlt
   have c1:=(HBX.out.ext hb HBX.out.lt).c1
   obtain ⟨r,hr⟩:∃r,gtL b l=r:=⟨_,rfl⟩
   have f1:decide (b.most<(l.length:Int))=r:=hr
   have f2:decide ((l.length:Int) > b.most)=r:=hr
   have hd:=Kf (f:=gtL b) hlt hx
   rw [hr] at hd
   have HD:=hid hd
   have q1:=Za d1
   have q2:=Za c1
   clear hx hr hd d1 c1
   cases r
   case true =>
    go_wp2
    refine Ze (Below.refl _ _) (by kernel_rfl) (by kernel_rfl) ?_
    repeat (go_big_quiet_step (fail))
    refine wpQuiet_nil ?_
    rintro _ ⟨⟨w9,hb9⟩,rfl⟩
    go_wp2
    go_ret
    exact ⟨ZE (by show _=Yc (gtL b) ls 0;rw [ha.out,HD.out];simp),HB1.out.trans ((hb.trans (hb9.mono hb.size)).mono HB1.out.size)⟩
   case false =>
    go_wp2
    refine Ze (Below.refl _ _) (by kernel_rfl) (by kernel_rfl) ?_
    repeat (go_big_quiet_step (fail))
    refine wpQuiet_nil ?_
    rintro _ ⟨⟨w9,hb9⟩,rfl⟩
    go_wp2
    go_roundw
    case rel=>exact ⟨rfl,k+1,by omega,by go_num,(ha.out.trans (by rw [HD.out];simp):_),hb.trans (hb9.mono hb.size)⟩
    case measure=>simp [intOf];omega
  ·go_wp2
   go_ret
   exact ⟨ZE (by show _=Yc (gtL b) ls 0;rw [ha.out,KO (by omega)]),HB1.out.trans (hb.mono HB1.out.size)⟩
set_option maxRecDepth 100000 in
set_option maxHeartbeats 6400000 in
theorem fewestR_any {a:Option Addr} {c:Nat} {ls:LL} {but:Int} {w:World} (hn:ls.length≤70368744177664) (hrow:Zp w a ls) :
  Calls Tryz.prog 77 #[.slice a ls.length c,.int .i64 but] w λe w'=>e=.returned (.int .i64 (zcR ls but))∧Below w.heap.size w w':=by
 go_enter Tryz.func77,Tryz.ntmps77
 go_wp2
 go_loopw [5,6] (λz i wr=>∃k:Nat,k≤ls.length∧z=.int .i64 (VV ls but k)∧i=.int .i64 k∧Below w.heap.size w wr) (λ_ i _=>ls.length - (intOf i).toNat)
 case atStart=>exact ⟨0,Nat.zero_le _,rfl,rfl,Below.refl _ _⟩
 case round =>
  obtain ⟨k,hk,rfl,rfl,hb⟩:=hrel
  by_cases hlt:k<ls.length
  ·obtain ⟨bb,off,ai,ci,l,rfl,hx,d1,-⟩:=hrow.at hb rfl hlt
   have hlk:Vp ls k=l.length:=by unfold Vp;rw [hx];simp [List.getD,hlt]
   have hrw:=hrow.ext hb
   have hstep:VV ls but (k+1)=Vf ls but (VV ls but k) k:=rfl
   have hcase:=Qf ls but k
   obtain ⟨z,hz⟩:∃z,VV ls but k=z:=⟨_,rfl⟩
   rw [hz] at hstep hcase
   rw [hz]
   have q1:=Za d1
   by_cases hkb:(k:Int)=but
   ·have e1:((k:Int) != but)=false:=by rw [hkb];exact bne_self_eq_false _
    have HV:Hid (VV ls but (k+1)=z):=hid (by rw [hstep];unfold Vf;rw [if_neg (λh=>h.1 hkb)])
    clear hkb hstep hcase hz hx d1 hlk hrw
    go_wp2
    refine Ze (Below.refl _ _) (by kernel_rfl) (by kernel_rfl) ?_
    repeat (go_big_quiet_step (fail))
    refine wpQuiet_nil ?_
    rintro _ ⟨⟨w9,hb9⟩,rfl⟩
    go_wp2
    go_roundw
    case rel=>exact ⟨k+1,by omega,by rw [HV.out],by go_num,hb.trans (hb9.mono hb.size)⟩
    case measure=>simp [intOf];omega
   have e1:((k:Int) != but)=true:=by simpa using hkb
   by_cases hz0:z<0
   ·have z1:decide (z<0)=true:=decide_eq_true hz0
    have HV:Hid (VV ls but (k+1)=(k:Int)):=hid (by rw [hstep];unfold Vf;rw [if_pos ⟨hkb,.inl hz0⟩])
    clear hkb hstep hcase hz hx d1 hlk hrw hz0
    go_wp2
    refine Ze (Below.refl _ _) (by kernel_rfl) (by kernel_rfl) ?_
    repeat (go_big_quiet_step (fail))
    refine wpQuiet_nil ?_
    rintro _ ⟨⟨w9,hb9⟩,rfl⟩
    go_wp2
    go_roundw
    case rel=>exact ⟨k+1,by omega,by rw [HV.out],by go_num,hb.trans (hb9.mono hb.size)⟩
    case measure=>simp [intOf];omega
   have z1:decide (z<0)=false:=decide_eq_false hz0
   obtain ⟨j,hj1,hj2⟩:∃j:Nat,j<k∧z=(j:Int):=by
    rcases hcase with ⟨h1,-⟩ | ⟨j,h1,h2,-⟩
    ·omega
    ·exact ⟨j,h1,h2⟩
   subst hj2
   obtain ⟨aj,cj,lj,hxj,dj,-⟩:=hrw.at2 (k:=j) (by omega)
   have hlj:Vp ls j=lj.length:=by unfold Vp;rw [hxj];simp [List.getD,show j<ls.length by omega]
   have q2:=Za dj
   have hjl:j<ls.length:=by omega
   by_cases hc:l.length<lj.length
   ·have s1:decide (l.length<lj.length)=true:=decide_eq_true hc
    have s2:decide ((l.length:Int)<(lj.length:Int))=true:=decide_eq_true (by omega)
    have HV:Hid (VV ls but (k+1)=(k:Int)):=hid (by rw [hstep];unfold Vf;rw [if_pos ⟨hkb,.inr (by rw [Int.toNat_natCast,hlk,hlj];exact hc)⟩])
    clear hkb hstep hcase hz hx d1 hlk hrw hz0 hc hxj dj hlj
    go_wp2
    refine Ze (Below.refl _ _) (by kernel_rfl) (by kernel_rfl) ?_
    repeat (go_big_quiet_step (fail))
    refine wpQuiet_nil ?_
    rintro _ ⟨⟨w9,hb9⟩,rfl⟩
    go_wp2
    go_roundw
    case rel=>exact ⟨k+1,by omega,by rw [HV.out],by go_num,hb.trans (hb9.mono hb.size)⟩
    case measure=>simp [intOf];omega
   ·have s1:decide (l.length<lj.length)=false:=decide_eq_false hc
    have s2:decide ((l.length:Int)<(lj.length:Int))=false:=decide_eq_false (by omega)
    have HV:Hid (VV ls but (k+1)=(j:Int)):=hid (by
     rw [hstep];unfold Vf
     rw [if_neg]
     rintro ⟨-,h⟩
     rw [Int.toNat_natCast,hlk,hlj] at h
     rcases h with h | h <;> omega)
    clear hkb hstep hcase hz hx d1 hlk hrw hz0 hc hxj dj hlj
    go_wp2
    refine Ze (Below.refl _ _) (by kernel_rfl) (by kernel_rfl) ?_
    repeat (go_big_quiet_step (fail))
    refine wpQuiet_nil ?_
    rintro _ ⟨⟨w9,hb9⟩,rfl⟩
    go_wp2
    go_roundw
    case rel=>exact ⟨k+1,by omega,by rw [HV.out],by go_num,hb.trans (hb9.mono hb.size)⟩
    case measure=>simp [intOf];omega
  ·go_wp2
   go_ret
   have:k=ls.length:=by omega
   exact ⟨ZE (by rw [this];rfl),hb⟩
theorem zaH {a b:Option Addr} {c d n m:Nat} {w:World} {r:Bool} (hr:Hid (decide (n<m)=r)) :
  Calls Tryz.prog 254 #[.slice a n c,.slice b m d] w λe w'=>e=.returned (.bool r)∧w=w':=by
 have t1:decide ((n:Int)<(m:Int))=r:=by rw [←hr.out];congr 1;simp
 have t2:decide (n<m)=r:=hr.out
 clear hr
 go_enter Tryz.func254,Tryz.ntmps254
 go_wp2
 go_ret
 exact ⟨rfl,rfl⟩
set_option maxRecDepth 100000 in
set_option maxHeartbeats 6400000 in
theorem best_any {a:Option Addr} {c:Nat} {ls:LL} {w:World} (hn:ls.length≤70368744177664) (hrow:Zp w a ls) :
  Calls Tryz.prog 253 #[.slice a ls.length c,.func (.func 254) #[] #[]] w λe w'=>e=.returned (.int .i64 (zcR ls (-1)))∧w=w':=by
 go_enter Tryz.func253,Tryz.ntmps253
 go_wp2
 go_loopw [5,10] (λz i wr=>∃k:Nat,k≤ls.length∧z=.int .i64 (VV ls (-1) k)∧i=.int .i64 k∧wr=w) (λ_ i _=>ls.length - (intOf i).toNat)
 case atStart=>exact ⟨0,Nat.zero_le _,rfl,rfl,rfl⟩
 case round =>
  obtain ⟨k,hk,rfl,rfl,rfl⟩:=hrel
  by_cases hlt:k<ls.length
  ·obtain ⟨bb,off,ai,ci,l,rfl,hx,d1,-⟩:=hrow.at (Below.refl _ _) rfl hlt
   have hlk:Vp ls k=l.length:=by unfold Vp;rw [hx];simp [List.getD,hlt]
   have hstep:VV ls (-1) (k+1)=Vf ls (-1) (VV ls (-1) k) k:=rfl
   have hcase:=Qf ls (-1) k
   obtain ⟨z,hz⟩:∃z,VV ls (-1) k=z:=⟨_,rfl⟩
   rw [hz] at hstep hcase
   rw [hz]
   have hkb:¬ (k:Int)=-1:=by omega
   by_cases hz0:z<0
   ·have z1:decide (z<0)=true:=decide_eq_true hz0
    have HV:Hid (VV ls (-1) (k+1)=(k:Int)):=hid (by rw [hstep];unfold Vf;rw [if_pos ⟨hkb,.inl hz0⟩])
    clear hkb hstep hcase hz hx hlk hz0
    go_wp2
    go_roundw
    case rel=>exact ⟨k+1,by omega,by rw [HV.out],by go_num,trivial⟩
    case measure=>simp [intOf];omega
   have z1:decide (z<0)=false:=decide_eq_false hz0
   obtain ⟨j,hj1,hj2⟩:∃j:Nat,j<k∧z=(j:Int):=by
    rcases hcase with ⟨h1,-⟩ | ⟨j,h1,h2,-⟩
    ·omega
    ·exact ⟨j,h1,h2⟩
   subst hj2
   obtain ⟨aj,cj,lj,hxj,dj,-⟩:=hrow.at2 (k:=j) (by omega)
   have hlj:Vp ls j=lj.length:=by unfold Vp;rw [hxj];simp [List.getD,show j<ls.length by omega]
   have hjl:j<ls.length:=by omega
   obtain ⟨r,hr⟩:∃r,decide (l.length<lj.length)=r:=⟨_,rfl⟩
   have HV:Hid (VV ls (-1) (k+1)=if r=true then (k:Int) else (j:Int)):=hid (by
    rw [hstep];unfold Vf
    rw [Int.toNat_natCast,hlk,hlj,← hr]
    by_cases hc:l.length<lj.length
    ·rw [if_pos ⟨hkb,.inr hc⟩,if_pos (decide_eq_true hc)]
    ·rw [if_neg (by rintro ⟨-,h | h⟩ <;> omega),if_neg (by simpa using hc)])
   have C1:=λ(W:World)=>zaH (a:=ai) (b:=aj) (c:=ci) (d:=cj) (w:=W) (hid hr)
   have HC:=hid C1
   clear C1 hkb hstep hcase hz hx hlk hz0 hr hxj hlj
   cases r
   case true =>
    go_wp2_with (go_at_call 254;(with_reducible refine (HC.out _).mono ?_);rintro e wz ⟨rfl,rfl⟩)
    go_roundw
    case rel=>exact ⟨k+1,by omega,by rw [HV.out];rfl,by go_num,trivial⟩
    case measure=>simp [intOf];omega
   case false =>
    go_wp2_with (go_at_call 254;(with_reducible refine (HC.out _).mono ?_);rintro e wz ⟨rfl,rfl⟩)
    go_roundw
    case rel=>exact ⟨k+1,by omega,by rw [HV.out];rfl,by go_num,trivial⟩
    case measure=>simp [intOf];omega
  ·go_wp2
   go_ret
   have:k=ls.length:=by omega
   exact ⟨ZE (by rw [this];rfl),rfl⟩
theorem GH {a:Option Addr} {c:Nat} {ls:LL} {w:World} (hn:ls.length≤70368744177664) (hrow:Zp w a ls) :
  Calls Tryz.prog 162 #[.slice a ls.length c] w λe w'=>e=.returned (.int .i64 (zcR ls (-1)))∧w=w':=by
 have C1:=hid (best_any (c:=c) hn hrow)
 clear hrow
 go_enter Tryz.func162,Tryz.ntmps162
 go_wp2_with (go_at_call 253;(with_reducible refine C1.out.mono ?_);rintro e w1 ⟨rfl,rfl⟩)
 go_ret
 exact ⟨rfl,rfl⟩
end Go.Proofs.YtcdpaflmofljaaaGreat
namespace Go.Proofs
open Go.Shelf
def Tryz.delLeaf_ren : Go.Shelf.Ren := ⟨fun | 45 => 326 | n => n, fun | 22 => 33 | 23 => 26 | 3 => 3 | 4 => 4 | 0 => 0 | n => n, fun | n => n⟩
theorem Tryz.delLeaf : Go.Proofs.SlLaysE.n45 Tryz.prog Tryz.delLeaf_ren := {
  mixed := by kernel_rfl
  f45 := ⟨Tryz.f326.name, by decide, Tryz.func326.trans (congrArg some (by kernel_rfl))⟩
  t0 := Tryz.underlying0
  a0 := Tryz.isAgg0
  z0 := Tryz.sizeOf0
  v0 := Tryz.zeroValue0
  t3 := Tryz.underlying3
  a3 := Tryz.isAgg3
  z3 := Tryz.sizeOf3
  v3 := Tryz.zeroValue3
  t4 := Tryz.underlying4
  a4 := Tryz.isAgg4
  z4 := Tryz.sizeOf4
  v4 := Tryz.zeroValue4
  t22 := Tryz.underlying33
  a22 := Tryz.isAgg33
  z22 := Tryz.sizeOf33
  v22 := Tryz.zeroValue33
  a23 := Tryz.isAgg26
  z23 := Tryz.sizeOf26 }
end Go.Proofs
namespace Go.Proofs.YtcdpaflmofljaaaGreat
open Go.RowKit
abbrev Sl:=Option Addr × Nat × Nat
def Vq (s:Sl):Value:=.slice s.1 s.2.1 s.2.2
def Vd (s:Sl):Option Nat:=s.1.map (·.block)
theorem ZH (s:Sl):(Vq s).ownBlock=Vd s:=by
 obtain ⟨a,n,c⟩:=s
 cases a <;> rfl
structure LLs (w:World) (base:Nat) (v:Value) (cs:List Sl) (ls:LL):Prop where
 own:w.ownsRow base 26 1 v ls.length (cs.map Vq)
 el:∀i (h:i<ls.length),∃s,cs[i]?=some s∧Zy w base (Vq s) ls[i]
 out:∀s∈cs,∀g,Vd s=some g→v.ownBlock≠some g
 apart:cs.Pairwise λa b=>∀g,Vd a=some g→Vd b≠some g
theorem LLs.len {w:World} {base:Nat} {v:Value} {cs:List Sl} {ls:LL} (h:LLs w base v cs ls):cs.length=ls.length:=by
 have:=h.own.1
 simpa using this
theorem LLs.nil (w:World) (base:Nat):LLs w base (.slice none 0 0) [] []:=⟨World.ownsRow_nil _ _ _ _,λi h=>by simp at h,by simp,List.Pairwise.nil⟩
theorem LLs.toOwnLL {w:World} {base:Nat} {v:Value} {cs:List Sl} {ls:LL} (h:LLs w base v cs ls):Xz w base v ls:=by
 refine ⟨cs.map Vq,h.own,λi hi=>?_⟩
 obtain ⟨s,h1,h2⟩:=h.el i hi
 refine ⟨Vq s,by rw [List.getElem?_map,h1];rfl,h2,λg hg=>?_⟩
 rw [ZH] at hg
 exact h.out s (List.mem_of_getElem? h1) g hg
theorem LLs.row {w:World} {base:Nat} {v:Value} {cs:List Sl} {ls:LL} (h:LLs w base v cs ls):∃a c,v=.slice a ls.length c∧Zp w a ls:=h.toOwnLL.row
theorem LLs.blk {w:World} {base:Nat} {v:Value} {cs:List Sl} {ls:LL} (h:LLs w base v cs ls) {g:Nat} (hg:v.ownBlock=some g):base≤g∧g<w.heap.size:=h.toOwnLL.blk hg
theorem Gg {G:Nat→Prop} {w w':World} {base n k:Nat} {e:TypeId} {v:Value} {xs:List Value} (h:w.ownsRow base e k v n xs) (hm:Mut G w w') (hG:∀g,v.ownBlock=some g→¬ G g):w'.ownsRow base e k v n xs:=by
 refine ⟨h.1,?_⟩
 rcases h.2 with hn | ⟨g,cap,cur,rfl,hbb,hgg,rest⟩
 ·exact .inl hn
 ·exact .inr ⟨g,cap,cur,rfl,hbb,(hm.block g (Array.getElem?_eq_some_iff.1 hgg).1 (hG g rfl)).trans hgg,rest⟩
theorem LLs.mutN {G:Nat→Prop} {w w':World} {base:Nat} {v:Value} {cs:List Sl} {ls:LL} (h:LLs w base v cs ls) (hm:Mut G w w') (hv:∀g,v.ownBlock=some g→¬ G g) (hc:∀s∈cs,∀g,Vd s=some g→¬ G g):LLs w' base v cs ls :=
 ⟨Gg h.own hm hv,λi hi=>by
  obtain ⟨s,h1,h2⟩:=h.el i hi
  exact ⟨s,h1,h2.mutN hm (λg hg=>hc s (List.mem_of_getElem? h1) g (by rw [←ZH];exact hg))⟩,h.out,h.apart⟩
theorem LLs.elB {w:World} {base:Nat} {v:Value} {cs:List Sl} {ls:LL} (h:LLs w base v cs ls) {s:Sl} (hs:s∈cs) {g:Nat} (hg:Vd s=some g):base≤g∧g<w.heap.size:=by
 obtain ⟨i,hi,e⟩:=List.mem_iff_getElem.1 hs
 obtain ⟨s',h1,h2⟩:=h.el i (by rw [←h.len];exact hi)
 have:s'=s:=by rw [List.getElem?_eq_getElem hi] at h1;cases h1;exact e
 subst this
 exact h2.blk (by rw [ZH];exact hg)
theorem LLs.mutT {G:Nat→Prop} {w w':World} {base:Nat} {v:Value} {cs:List Sl} {ls:LL} (h:LLs w base v cs ls) (hm:Mut G w w') (hG:∀k,G k→k<base):LLs w' base v cs ls :=
 h.mutN hm (λg hg hk=>by have:=(h.blk hg).1;have:=hG g hk;omega) (λs hs g hg hk=>by have:=(h.elB hs hg).1;have:=hG g hk;omega)
theorem LLs.ext {w w':World} {base:Nat} {v:Value} {cs:List Sl} {ls:LL} (h:LLs w base v cs ls) (hb:Below w.heap.size w w'):LLs w' base v cs ls :=
 h.mutN (G:=λ_=>False) (Mut.of_below hb) (λ_ _ e=>e) (λ_ _ _ _ e=>e)
theorem LLs.get {w:World} {base:Nat} {v:Value} {cs:List Sl} {ls:LL} (h:LLs w base v cs ls) {k:Nat} (hk:k<ls.length) :
  ∃g cap s,v=.slice (some ⟨g,0,none⟩) ls.length cap∧ls.length≤cap∧base≤g∧g<w.heap.size∧cs[k]?=some s∧w.cell? ⟨g,k,none⟩=some (Vq s)∧w.frozen? ⟨g,k,none⟩=false∧Zy w base (Vq s) ls[k]∧Vd s≠some g:=by
 obtain ⟨s,h1,h2⟩:=h.el k hk
 have hcells:=λg=>World.ownsRow.cells (g:=g) h.own
 rcases h.own.2 with ⟨rfl,hn⟩ | ⟨g,cap,cur,rfl,hb,hg,hnc,hcm,hcs,htake⟩
 ·omega
 ·have hlt:g<w.heap.size:=(Array.getElem?_eq_some_iff.1 hg).1
  refine ⟨g,cap,s,rfl,hnc,hb,hlt,h1,?_,by simp [World.frozen?,hg],h2,λe=>h.out s (List.mem_of_getElem? h1) g e rfl⟩
  have:=hcells g rfl k (Vq s) (by rw [List.getElem?_map,h1];rfl)
  rw [YN] at this
  simpa using this
theorem LLs.put {w w1:World} {base g k cap:Nat} {cs:List Sl} {ls:LL} {s s':Sl} {l':List Pid} (h:LLs w base (.slice (some ⟨g,0,none⟩) ls.length cap) cs ls) (hk:k<ls.length) (hs:cs[k]?=some s) (hm:Mut (λb=>Vd s=some b) w w1) (hnew:Zy w1 base (Vq s') l') (hb:∀q,Vd s'=some q→Vd s=some q∨w.heap.size≤q) :
  LLs (w1.setCell ⟨g,k,none⟩ (Vq s')) base (.slice (some ⟨g,0,none⟩) ls.length cap) (cs.set k s') (ls.set k l'):=by
 have hkc:k<cs.length:=by rw [h.len];exact hk
 have hsk:cs[k]=s:=by rw [List.getElem?_eq_getElem hkc] at hs;cases hs;rfl
 have hsm:s∈cs:=List.mem_of_getElem? hs
 have hgs:Vd s≠some g:=λe=>h.out s hsm g e rfl
 have hglt:=(h.blk (g:=g) rfl).2
 have hset:Mut (λb=>b=g) w1 (w1.setCell ⟨g,k,none⟩ (Vq s')):=Xk
 have hapart:∀i (hi:i<cs.length),i≠k→∀q,Vd cs[i]=some q→Vd s≠some q:=by
  intro i hi hik q hq e
  rcases Nat.lt_or_gt_of_ne hik with hlt | hlt
  ·have:=List.pairwise_iff_getElem.1 h.apart i k hi hkc hlt q hq
   rw [hsk] at this;exact this e
  ·have:=List.pairwise_iff_getElem.1 h.apart k i hkc hi hlt q (by rw [hsk];exact e)
   exact this hq
 have hapart':∀i (hi:i<cs.length),i≠k→∀q,Vd cs[i]=some q→Vd s'≠some q:=by
  intro i hi hik q hq e
  rcases hb q e with h1 | h1
  ·exact hapart i hi hik q hq h1
  ·have:=(h.elB (List.getElem_mem hi) hq).2;omega
 have hown:=Gg h.own hm (λq hq e=>hgs (by simp [Value.ownBlock] at hq;rw [hq];exact e))
 refine ⟨⟨by simp;exact h.len,?_⟩,λi hi=>?_,λu hu q hq=>?_,?_⟩
 ·rcases hown.2 with ⟨e,-⟩ | ⟨g',cap',cur,e,hbb,hgg,hnc,hcm,hcs,htake⟩
  ·cases e
  ·cases e
   refine .inr ⟨g,cap,cur.setIfInBounds k (Vq s'),by rw [List.length_set],hbb,?_,by rw [List.length_set];exact hnc,hcm,by simpa using hcs,?_⟩
   ·simp only [World.setCell,Array.getElem?_modify,if_pos,hgg,Option.map_some]
    rfl
   ·rw [List.length_set,List.map_set,← htake,Array.toList_setIfInBounds]
    rw [List.take_set]
 ·have hi':i<ls.length:=by simpa using hi
  by_cases hik:i=k
  ·subst hik
   refine ⟨s',by simp [hkc],?_⟩
   rw [List.getElem_set_self]
   exact hnew.mutN hset (λq hq e=>by
    rw [ZH] at hq
    rcases hb q hq with h1 | h1
    ·have e:q=g:=e
     exact hgs (by rw [h1,e])
    ·have e:q=g:=e
     omega)
  ·obtain ⟨u,h1,h2⟩:=h.el i hi'
   refine ⟨u,by rw [List.getElem?_set_ne (Ne.symm hik)];exact h1,?_⟩
   rw [List.getElem_set_ne (Ne.symm hik)]
   have hic:i<cs.length:=by rw [h.len];exact hi'
   have hui:cs[i]=u:=by rw [List.getElem?_eq_getElem hic] at h1;cases h1;rfl
   refine (h2.mutN hm (λq hq e=>?_)).mutN hset (λq hq e=>?_)
   ·rw [ZH,← hui] at hq
    exact hapart i hic hik q hq e
   ·rw [ZH] at hq
    have e:q=g:=e
    exact h.out u (List.mem_of_getElem? h1) q hq (by rw [e];rfl)
 ·rcases List.mem_or_eq_of_mem_set hu with hu | rfl
  ·have:=h.out u hu q hq
   simpa [Value.ownBlock] using this
  ·intro e
   simp [Value.ownBlock] at e
   rcases hb q hq with h1 | h1
   ·exact hgs (by rw [h1,e])
   ·omega
 ·rw [List.pairwise_iff_getElem]
  intro i j hi hj hij q hq e
  have hi':i<cs.length:=by simpa using hi
  have hj':j<cs.length:=by simpa using hj
  rw [List.getElem_set] at hq e
  by_cases h1:k=i
  ·subst h1
   rw [if_pos rfl] at hq
   rw [if_neg (by omega)] at e
   exact hapart' j hj' (by omega) q e hq
  ·rw [if_neg h1] at hq
   by_cases h2:k=j
   ·subst h2
    rw [if_pos rfl] at e
    exact hapart' i hi' (by omega) q hq e
   ·rw [if_neg h2] at e
    exact List.pairwise_iff_getElem.1 h.apart i j hi' hj' hij q hq e
theorem EK {w:World} {base:Nat} {v:Value} {cs:List Sl} {ls:LL} {s:Sl} {l:List Pid} {b c:Nat} (h:LLs w base v cs ls) (h0:w.cell? ⟨b,0,none⟩=some (Vq s)) (hs:Zy w base (Vq s) l) (hv:∀g,Vd s=some g→v.ownBlock≠some g) (hc:∀u∈cs,∀g,Vd u=some g→Vd s≠some g)
  (hlen:ls.length+1≤1099511627776) (hbase:base≤w.heap.size) (ty:TypeId) :
  ∃v' w',(Builtin.append_ #[33,33] ty #[v,.slice (some ⟨b,0,none⟩) 1 c]).run Tryz.prog w=.ok v' w'∧LLs w' base v' (cs ++ [s]) (ls ++ [l])∧w.grownBy w' v.ownBlock∧(v'.ownBlock=v.ownBlock∨v'.ownBlock=some w.heap.size):=by
 obtain ⟨i0,hi,hz0,hz1,hz2⟩:=info_parts zdb
 obtain ⟨v',w',hrun,h2,h3,h4,h5⟩:=run_append_own_at (P:=Tryz.prog) w base 33 ty 26 i0 _ 1 24 Tryz.underlying33 hi hz0 hz1 hz2 rfl (by decide) v ls.length (cs.map Vq) h.own ⟨b,0,none⟩ 1 c [Vq s] rfl (λj u hu=>by
  have hj:j=0:=by have:=(List.getElem?_eq_some_iff.1 hu).1;simpa using this
  subst hj
  rw [YN]
  simp at hu;subst hu
  exact h0) (λu hu=>by simp at hu;subst hu;rfl) (by unfold maxLen;omega) (by omega) hbase
 have hcl:=h.len
 have far:∀(u:Sl),(∀g,Vd u=some g→g<w.heap.size)→(∀g,Vd u=some g→v.ownBlock≠some g)→∀g,Vd u=some g→v'.ownBlock≠some g:=by
  intro u hm hno g hg
  rcases h5 with h5 | h5
  ·rw [h5];exact hno g hg
  ·rw [h5]
   have:=hm g hg
   intro e2;simp at e2;omega
 have hsb:∀g,Vd s=some g→g<w.heap.size:=λg hg=>(hs.blk (by rw [ZH];exact hg)).2
 refine ⟨v',w',hrun,⟨?_,λi hi=>?_,λu hu=>?_,?_⟩,h3,h5⟩
 ·rw [List.length_append,List.map_append];exact h2
 ·by_cases hlt:i<ls.length
  ·obtain ⟨u,g1,g2⟩:=h.el i hlt
   rw [List.getElem?_append_left (by omega),List.getElem_append_left hlt]
   exact ⟨u,g1,g2.grownN h3 (λg hg=>by rw [ZH] at hg;exact h.out u (List.mem_of_getElem? g1) g hg)⟩
  ·have hi':i=ls.length:=by simp at hi;omega
   subst hi'
   rw [List.getElem?_append_right (by omega),List.getElem_append_right (by omega)]
   simp only [hcl,Nat.sub_self,List.getElem?_cons_zero,List.getElem_cons_zero]
   exact ⟨s,rfl,hs.grownN h3 (λg hg=>by rw [ZH] at hg;exact hv g hg)⟩
 ·rcases List.mem_append.1 hu with hu | hu
  ·exact far u (λg hg=>(h.elB hu hg).2) (h.out u hu)
  ·rw [List.mem_singleton.1 hu];exact far s hsb hv
 ·rw [List.pairwise_append]
  refine ⟨h.apart,List.pairwise_singleton _ _,λa ha b' hb'=>?_⟩
  rw [List.mem_singleton.1 hb']
  exact hc a ha
theorem Kh {w:World} {ops:Array Oper} {rest:List Oper} {o:Oper} {a:Act} {Q:Exit→Act→World→Prop} {sx x:Operand} {base:Nat} {v:Value} {cs:List Sl} {ls:LL} {s:Sl} {l:List Pid} {b c:Nat} (h:LLs w base v cs ls) (h0:w.cell? ⟨b,0,none⟩=some (Vq s)) (hs:Zy w base (Vq s) l) (hv:∀g,Vd s=some g→v.ownBlock≠some g) (hc:∀u∈cs,∀g,Vd u=some g→Vd s≠some g)
  (hlen:ls.length+1≤1099511627776) (hbase:base≤w.heap.size)
  (hg:o.guard=none) (ho:o.op=.call { callee:=.builtin .append,args:=#[sx,x],argTypes:=#[33,33] }) (hsx:a.eval sx=v) (hx:a.eval x=.slice (some ⟨b,0,none⟩) 1 c)
  (hk:∀v' w',LLs w' base v' (cs ++ [s]) (ls ++ [l])→w.grownBy w' v.ownBlock→(v'.ownBlock=v.ownBlock∨v'.ownBlock=some w.heap.size)→wpList Tryz.prog ops Q rest (a.put o.dst v') w'):wpList Tryz.prog ops Q (o :: rest) a w:=by
 obtain ⟨v',w',hr,h2,h3,h4⟩:=EK h h0 hs hv hc hlen hbase (c:=c) o.type
 exact Lib.wpList_append_run w hg sx x 33 33 ho _ _ hsx hx v' w' hr (hk v' w' h2 h3 h4)
instance:Inhabited Sl:=⟨(none,0,0)⟩
theorem oneS:OneCell Vq:=λ_=>rfl
theorem zeroS (w:World):(zeroValue 26).run Tryz.prog w=.ok (Vq (none,0,0)) w:=Tryz.zeroValue26 w
theorem put_list {g:Nat} {w:World} {q:Nat} {cur:Array Value} {e:TypeId} {D:Array Sl} (hg:w.heap[g]?=some (.cells cur e (0,0))):(Go.Sort.putRow Vq (Go.Sort.ahead w q) g 0 D).heap[g]?=some (.cells (Go.Sort.putCells Vq 0 D cur) e (0,0)):=by
 simp [Go.Sort.putRow,Go.Sort.mapBlock,Go.Sort.ahead,Array.getElem?_modify,hg,Go.Sort.onCells]
theorem put_mut {g:Nat} {w:World} {q:Nat} {D:Array Sl}:Mut (λb=>b=g) w (Go.Sort.putRow Vq (Go.Sort.ahead w q) g 0 D):=by
 refine ⟨rfl,rfl,rfl,by simp,λk hk hne=>?_⟩
 have:g≠k:=λe=>hne e.symm
 simp [Go.Sort.putRow,Go.Sort.mapBlock,Go.Sort.ahead,Array.getElem?_modify,this]
theorem zef (cur:Array Value) (D:Array Sl) (n:Nat) (h:D.size≤cur.size) (hn:n≤D.size):(Go.Sort.putCells Vq 0 D cur).toList.take n=(D.toList.take n).map Vq:=by
 apply List.ext_getElem?
 intro j
 by_cases hj:j<n
 ·rw [List.getElem?_take_of_lt hj,Array.getElem?_toList,List.getElem?_map,List.getElem?_take_of_lt hj,Array.getElem?_toList]
  simp [Go.Sort.putCells,show j<D.size by omega,show j<cur.size by omega]
 ·rw [List.getElem?_take_eq_none (by omega),List.getElem?_eq_none (by simp;omega)]
theorem holdsS {w:World} {base g cap:Nat} {cs:List Sl} {ls:LL} (h:LLs w base (.slice (some ⟨g,0,none⟩) ls.length cap) cs ls):Go.Sort.Holds Vq w g 0 cs.toArray:=by
 intro j hj
 have hj':j<ls.length:=by rw [←h.len];simpa using hj
 obtain ⟨g',cap',s,e,-,-,-,h1,h2,h3,-,-⟩:=h.get hj'
 cases e
 have hjc:j<cs.length:=by rw [h.len];exact hj'
 have hs:cs.toArray[j]! = s:=by
  rw [getElem!_pos cs.toArray j (by simpa using hjc)]
  rw [List.getElem?_eq_getElem hjc] at h1;cases h1;simp
 rw [Nat.zero_add,hs]
 exact ⟨h2,h3⟩
theorem zcG {w:World} {base g cap k:Nat} {cs:List Sl} {ls:LL} {z:Int} (hz:z=(k:Int)+1) (h:LLs w base (.slice (some ⟨g,0,none⟩) ls.length cap) cs ls) (hk:k<ls.length) (hcap:ls.length≤cap) (hm:cap≤9223372036854775807) :
  Calls Tryz.prog 326 #[.slice (some ⟨g,0,none⟩) ls.length cap,.int .i64 k,.int .i64 z] w λe w'=>e=.returned (.slice (some ⟨g,0,none⟩) (ls.eraseIdx k).length cap)∧LLs w' base (.slice (some ⟨g,0,none⟩) (ls.eraseIdx k).length cap) (cs.eraseIdx k) (ls.eraseIdx k)∧Mut (λb=>b=g) w w':=by
 have hcl:=h.len
 obtain ⟨i0,hi,hz0,hz1,hz2⟩:=info_parts zdb
 have hcon:=AnyE.slices_Delete Tryz.delLeaf Vq oneS (none,0,0) zeroS i0 hi hz1 g 0 cap k (k+1) cs.toArray w (holdsS h) (by simpa [hcl] using hcap) hm (by omega) (by simp;omega)
 change Calls Tryz.prog 326 _ _ _ at hcon
 have e1:cs.toArray.size=ls.length:=by simpa using hcl
 have e2:((k+1:Nat):Int)=z:=by omega
 have e3:ls.length - (k+1 - k)=(ls.eraseIdx k).length:=by rw [List.length_eraseIdx];simp [hk]
 rw [e1,e2,e3] at hcon
 refine hcon.mono ?_
 rintro e w' ⟨rfl,q,rfl⟩
 obtain ⟨D,hD⟩:∃D,(cs.toArray.toList.take k ++ cs.toArray.toList.drop (k+1) ++ List.replicate (k+1 - k) ((none,0,0):Sl)).toArray=D:=⟨_,rfl⟩
 rw [hD]
 have hDl:D.toList=cs.eraseIdx k ++ [(none,0,0)]:=by
  rw [←hD,List.eraseIdx_eq_take_drop_succ]
  have:k+1 - k=1:=by omega
  rw [this];simp
 have hDs:D.size=ls.length:=by
  have:D.size=D.toList.length:=by simp
  rw [this,hDl,List.length_append,List.length_eraseIdx]
  simp [hcl,hk];omega
 have hel:(ls.eraseIdx k).length=ls.length - 1:=by rw [List.length_eraseIdx];simp [hk]
 have hec:(cs.eraseIdx k).length=ls.length - 1:=by rw [List.length_eraseIdx];simp [hk,hcl]
 have hmut:Mut (λb=>b=g) w (Go.Sort.putRow Vq (Go.Sort.ahead w q) g 0 D):=put_mut
 refine ⟨rfl,⟨⟨by simp [hel,hec],?_⟩,λi hi=>?_,λu hu=>h.out u (List.mem_of_mem_eraseIdx hu),?_⟩,hmut⟩
 ·rcases h.own.2 with ⟨e,-⟩ | ⟨g',cap',cur,e,hbb,hgg,hnc,hcm,hcs,htake⟩
  ·cases e
  ·cases e
   refine .inr ⟨g,cap,_,rfl,hbb,put_list hgg,by omega,hcm,by simp [Go.Sort.putCells,hcs],?_⟩
   rw [zef cur D _ (by rw [hDs,hcs];omega) (by rw [hDs];omega),hDl,List.take_append_of_le_length (by omega),List.take_of_length_le (by omega)]
 ·have hil:i<ls.length - 1:=by omega
  by_cases hik:i<k
  ·obtain ⟨u,h1,h2⟩:=h.el i (by omega)
   refine ⟨u,by rw [List.getElem?_eraseIdx_of_lt hik];exact h1,?_⟩
   rw [List.getElem_eraseIdx_of_lt _ hik]
   exact h2.mutN hmut (λp hp e=>by
    rw [ZH] at hp
    have e:p=g:=e
    exact h.out u (List.mem_of_getElem? h1) p hp (by rw [e];rfl))
  ·obtain ⟨u,h1,h2⟩:=h.el (i+1) (by omega)
   refine ⟨u,by rw [List.getElem?_eraseIdx_of_ge (by omega)];exact h1,?_⟩
   rw [List.getElem_eraseIdx_of_ge _ (by omega)]
   exact h2.mutN hmut (λp hp e=>by
    rw [ZH] at hp
    have e:p=g:=e
    exact h.out u (List.mem_of_getElem? h1) p hp (by rw [e];rfl))
 ·exact h.apart.sublist (List.eraseIdx_sublist cs k)
end Go.Proofs.YtcdpaflmofljaaaGreat
