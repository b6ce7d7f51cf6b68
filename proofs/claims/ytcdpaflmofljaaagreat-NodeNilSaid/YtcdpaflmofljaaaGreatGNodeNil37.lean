import Derived.Test.YtcdpaflmofljaaaGreatGNodeNil36
/- Parts of the proof of NodeNil: NJ2 NK2 NK3 MR AW1 AW FG XQ. -/
namespace Go.Proofs.YtcdpaflmofljaaaGreat
open Go.RowKit
structure Began2 (w w':World) (V:Zs) (i:Nat) (x y l m t T:Int) (A:VAd) (nb h wb sb sr m1 m2:Nat):Prop where
 all:∃(lb stb sm ab pb:Nat) (As:VAd) (slo shi z:Nat),(w.heap.size≤lb∧lb<slo∧slo≤shi∧shi≤sm∧sm<stb∧stb<ab∧ab<pb∧pb<z)∧Zc w' lb 149 [.int .u64 0,.slice none 0 0]∧Zc w' stb 247 (stC (.int .u64 i) (.slice As.am V.ms.length As.cm) (.slice As.al V.ls.length As.cl) (.slice As.ad V.ds.length As.cd) (.map (some sm)))∧Zj w' sm Yg n64 []∧KR slo shi w' As V∧Zc w' ab 250 [.int .u64 1,.int .u32 0,.int .u16 0,.int .u32 0,.pointer none] ∧
  ∃(ba:Option Addr) (bn bc qb ib tb il iw ta tl:Nat) (mi:Option Addr) (mc:Nat) (At:VAd) (lo hi wr':Nat) (ev:Value) (A':VAd),Zc w' nb 98 ((FF x y l m t 1 (.slice none 0 0) 0 h [.int .u64 i,.slice A.am V.ms.length A.cm,.slice A.al V.ls.length A.cl,.slice A.ad V.ds.length A.cd,.int .u64 0,.slice ba bn bc,.pointer (some ⟨qb,0,none⟩),.pointer (some ⟨ib,0,none⟩),.pointer none,.pointer (some ⟨tb,0,none⟩),.bool false] (.pointer (some ⟨lb,0,none⟩)) (.pointer (some ⟨stb,0,none⟩)) (.pointer (some ⟨ab,0,none⟩)) (.pointer (some ⟨pb,0,none⟩)) wb rum0 0 m1 m2 (.slice none 0 0) sb false (.slice none 0 0) (.slice none 0 0)).set 48 ev)∧Vk w' w.heap.size 48 9 ev [[.int .i64 1,.int .u64 i,.slice A'.am V.ms.length A'.cm,.slice A'.al V.ls.length A'.cl,.slice A'.ad V.ds.length A'.cd,.int .u16 0,.int .u32 0,.int .u64 0,.slice none 0 0]]∧(∀g,ev.ownBlock=some g→tb<g)∧Gn w.heap.size w' A'.am A'.al A'.ad V∧Made z w' V i qb ib tb il iw ta tl mi mc At lo hi∧Zc w' pb 255 [.int .u16 x,.int .u32 y,.int .u32 0,.int .u16 0,.int .u32 0,.int .i64 0,.slice none 0 0,.int .u64 0,.int .u32 0,.int .u16 0,.int .u32 0,.pointer none,.int .u64 0,.int .u64 0]∧tb<wr'∧Zq w' wb wr' T (Xp [] [] (ZI V (x,y)))∧ZP w' sb sr []
 mt:Mut (λk=>k=nb∨k=wb∨k=sr) w w'
set_option maxRecDepth 100000 in
set_option maxHeartbeats 12800000 in
theorem zcW {V:Zs} {i:Nat} {A:VAd} {w0 w:World} {x y l m t T:Int} {nb h r wb wr sb sr m1 m2:Nat}
  (hf:FitV V i) (hs:KA V) (hV0:Zt w0 A.am A.al A.ad V) (hb0:Below w0.heap.size w0 w) (hge:∀k∈[nb,h,r,wb,wr,sb,sr,m1,m2],w0.heap.size≤k) (hp:(x,y)∈V.ms)
  (hN:Zc w nb 98 (FF x y l m t 0 (.slice none 0 0) 0 h grp0 (.pointer none) (.pointer none) (.pointer none) (.pointer none) wb rum0 0 m1 m2 (.slice none 0 0) sb false (.slice none 0 0) (.slice none 0 0)))
  (hW:Zq w wb wr T []) (hL:ZP w sb sr []) (hd:[nb,h,r,wb,wr,sb,sr,m1,m2].Nodup) :
  Calls Tryz.prog 29 #[.pointer (some ⟨nb,0,none⟩),.agg (vcl V i A).toArray,.int .u64 0,bdA ⟨#[]⟩ ⟨#[]⟩ ⟨#[]⟩ ⟨#[]⟩ ⟨#[]⟩ ⟨#[]⟩ ⟨#[]⟩ ⟨#[]⟩] w λe w'=>e=.returned (.tuple #[])∧Began2 w w' V i x y l m t T A nb h wb sb sr m1 m2:=by
 obtain ⟨am,al,ad,cm,cl,cd⟩:=A
 obtain ⟨n1,e1⟩:∃q,V.ms.length=q:=⟨_,rfl⟩
 obtain ⟨n2,e2⟩:∃q,V.ls.length=q:=⟨_,rfl⟩
 obtain ⟨n3,e3⟩:∃q,V.ds.length=q:=⟨_,rfl⟩
 have hx:∀am al ad cm cl cd,(vcl V i ⟨am,al,ad,cm,cl,cd⟩).toArray=#[.int .u64 i,.slice am n1 cm,.slice al n2 cl,.slice ad n3 cd]:=by intros;unfold vcl;rw [e1,e2,e3]
 obtain ⟨W1,hW1⟩:∃W1,w.alloc (.cells #[.int .u64 i,.slice am n1 cm,.slice al n2 cl,.slice ad n3 cd] 35)=W1:=⟨_,rfl⟩
 have hb1:Below w.heap.size w W1:=by rw [←hW1];exact bra
 have hvb:Zc W1 w.heap.size 35 [.int .u64 i,.slice am n1 cm,.slice al n2 cl,.slice ad n3 cd]:=by rw [←hW1];exact Zc.made w _ _
 have hz1:W1.heap.size=w.heap.size+1:=by rw [←hW1];simp
 obtain ⟨W2,hW2⟩:∃W2,W1.alloc (.cells #[.string ⟨#[]⟩,.string ⟨#[]⟩,.string ⟨#[]⟩,.string ⟨#[]⟩,.string ⟨#[]⟩,.string ⟨#[]⟩,.string ⟨#[]⟩,.string ⟨#[]⟩] 75)=W2:=⟨_,rfl⟩
 have hb12:Below W1.heap.size W1 W2:=by rw [←hW2];exact bra
 have hb2:Below w.heap.size w W2:=hb1.trans (hb12.mono hb1.size)
 have hbb:Zc W2 W1.heap.size 75 Em:=by rw [←hW2];exact Zc.made W1 _ _
 have hN2:=hN.ext hb2
 have HB2:=hid hb2
 have HVB2:=hid (hvb.ext hb12)
 have HBB2:=hid hbb
 have HW2:=hid (hW.ext hb2)
 have HL2:=hid (hL.ext hb2)
 have HZ:Hid (nb<w.heap.size∧wb<w.heap.size∧wr<w.heap.size∧sb<w.heap.size∧sr<w.heap.size∧W1.heap.size=w.heap.size+1):=hid ⟨hN.lt,hW.lt,hW.map.lt,hL.lt,hL.map.lt,hz1⟩
 have HGE:Hid (w0.heap.size≤nb∧w0.heap.size≤wb∧w0.heap.size≤sr∧w0.heap.size≤w.heap.size):=hid ⟨hge nb (by simp),hge wb (by simp),hge sr (by simp),hb0.size⟩
 have HNE:Hid (nb≠wb∧nb≠wr∧nb≠sb∧nb≠sr∧wb≠wr∧wb≠sb∧wb≠sr∧wr≠sb∧wr≠sr∧sb≠sr):=hid (by
  clear hN hW hL hge hN2 hW1 hW2 hb0 hb1 hb12 hb2 hvb hbb HB2 HVB2 HBB2 HW2 HL2 HZ HGE hz1
  refine ⟨?_,?_,?_,?_,?_,?_,?_,?_,?_,?_⟩ <;> (intro e;rw [e] at hd;simp at hd))
 have HF:=hid hf
 have HSM:=hid hs
 have HX:=hid hx
 have HMEM:=hid hp
 have HE:=hid (And.intro e1 (And.intro e2 e3))
 have HV0:=hid hV0
 have HB0:=hid hb0
 have q5:=hN2.cell (j:=5) rfl
 have fz2:=hN2.frozen
 have HN2:=hid hN2
 rw [hx]
 clear hN hW hL hN2 hvb hbb hb1 hb12 hb2 hf hs hd hx hp e1 e2 e3 hz1 hge hV0 hb0
 go_enter Tryz.func29,Tryz.ntmps29
 go_upto_region 2 with fail
 clear hW1 hW2
 obtain ⟨w3,hw3⟩:∃w3,W2.setCell ⟨nb,5,none⟩ (.int .i64 1)=w3:=⟨_,rfl⟩
 rw [hw3]
 have HM3:Hid (Mut (λk=>k=nb) W2 w3):=hid (by rw [←hw3];exact Xk)
 have HN3:=hid (HN2.out.set (j:=5) (v:=.int .i64 1))
 rw [hw3] at HN3
 clear hw3 q5 fz2 HN2
 have C3:=hid (FG 0 w3)
 go_wp2_with fail
 refine C3.out.mono ?_
 rintro e w4 ⟨rfl,hw4⟩
 have hb4:Below w3.heap.size w3 w4:=by rw [hw4];exact bra
 have hlx:Zc w4 w3.heap.size 149 [.int .u64 0,.slice none 0 0]:=by rw [hw4];exact Zc.made _ _ _
 have hlz:W2.heap.size≤w3.heap.size:=HM3.out.size
 obtain ⟨lb,hlb⟩:∃b,w3.heap.size=b:=⟨_,rfl⟩
 rw [hlb] at hlx hlz ⊢
 have HLX4:=hid hlx
 have HZL:Hid (W2.heap.size≤lb∧lb<w4.heap.size):=hid ⟨hlz,hlx.lt⟩
 have HN4:=hid (HN3.out.ext hb4)
 have HM4:Hid (Mut (λk=>k=nb) W2 w4):=hid (HM3.out.trans (Mut.of_below hb4))
 clear hw4 HM3 HN3 hlb hb4 C3 hlx hlz
 have q20:=HN4.out.cell (j:=20) rfl
 have fz4:=HN4.out.frozen
 go_upto_region 3 with fail
 obtain ⟨w5,hw5⟩:∃w5,w4.setCell ⟨nb,20,none⟩ (.pointer (some ⟨lb,0,none⟩))=w5:=⟨_,rfl⟩
 rw [hw5]
 have HM5:Hid (Mut (λk=>k=nb) W2 w5):=hid (by rw [←hw5];exact Zf HM4.out nb 20 _ rfl)
 have HN5:=hid (HN4.out.set (j:=20) (v:=.pointer (some ⟨lb,0,none⟩)))
 rw [hw5] at HN5
 have HLX5:=hid (HLX4.out.mut (by rw [←hw5];exact Xk:Mut (λk=>k=nb) w4 w5) (λe=>by have h0:=HZ.out;have h1:=HZL.out;have h2:=HB2.out.size;omega))
 have HZ45:Hid (w4.heap.size≤w5.heap.size):=hid (by rw [←hw5];exact (Xk (w:=w4) (s:=nb) (i:=20) (v:=.pointer (some ⟨lb,0,none⟩))).size)
 clear hw5 q20 fz4 HN4 HM4 HLX4
 have HVB5:=hid (HVB2.out.mut HM5.out (λe=>by have h0:=HZ.out;omega))
 have v0:=HVB5.out.cell (j:=0) rfl
 have v1:=HVB5.out.cell (j:=1) rfl
 have v2:=HVB5.out.cell (j:=2) rfl
 have v3:=HVB5.out.cell (j:=3) rfl
 have C5:Hid (Calls Tryz.prog 71 #[.agg #[.int .u64 i,.slice am n1 cm,.slice al n2 cl,.slice ad n3 cd]] w5 λe w'=>∃b,e=.returned (.pointer (some ⟨b,0,none⟩))∧Below w5.heap.size w5 w'∧Hid (w5.heap.size≤b∧∃mr A' hi,Zc w' b 247 (stC (.int .u64 i) (.slice A'.am V.ms.length A'.cm) (.slice A'.al V.ls.length A'.cl) (.slice A'.ad V.ds.length A'.cd) (.map (some mr)))∧Zj w' mr Yg n64 []∧mr<b∧w5.heap.size≤hi∧hi≤mr∧KR w5.heap.size hi w' A' V)):=hid (by
  have h:=Fe (A:=⟨am,al,ad,cm,cl,cd⟩) HF.out (w:=w5) (HV0.out.ext (Zz (HB0.out.trans (HB2.out.mono HB0.out.size)) HM5.out (λk e=>by have h0:=HGE.out;rw [e];exact h0.1)))
  rw [HX.out] at h
  exact h.mono λe w' ⟨b,mr,A',h1,h2,h3,hi,h4,h5,h6⟩=>⟨b,h1,h2.below,hid ⟨h2.lt,mr,A',hi,h2.box,h2.map,h3,h4,h5,h6⟩⟩)
 go_wp2_with fail
 refine C5.out.mono ?_
 rintro e w6 ⟨stb,rfl,hb6,HS6⟩
 have HN6:=hid (HN5.out.ext hb6)
 have HM6:Hid (Mut (λk=>k=nb) W2 w6):=hid (HM5.out.trans (Mut.of_below hb6))
 have HZ6:Hid (W2.heap.size≤stb):=hid (Nat.le_trans HM5.out.size HS6.out.1)
 obtain ⟨sm,As,shi,hS6,hsm6,hsl,hs1,hs2,hkr6⟩:=HS6.out.2
 have HSM6:=hid hsm6
 have HKR6:=hid hkr6
 have HZS:Hid (w5.heap.size≤shi∧shi≤sm∧sm<stb):=hid ⟨hs1,hs2,hsl⟩
 have HQ6:Hid (Mut (λk=>k=nb∨k=stb) w6 w6):=hid (Mut.refl _ _)
 have HLX6:=hid (HLX5.out.ext hb6)
 have HZ56:Hid (w5.heap.size≤w6.heap.size∧stb<w6.heap.size):=hid ⟨hb6.size,hS6.lt⟩
 have HSB6:=hid hS6
 clear v0 v1 v2 v3 C5 HVB5 HN5 HM5 hb6 HS6 hS6 hsm6 hsl hs1 hs2 hkr6 HLX5
 have q21:=HN6.out.cell (j:=21) rfl
 have fz6:=HN6.out.frozen
 go_upto_region 4 with fail
 obtain ⟨w7,hw7⟩:∃w7,w6.setCell ⟨nb,21,none⟩ (.pointer (some ⟨stb,0,none⟩))=w7:=⟨_,rfl⟩
 rw [hw7]
 have HM7:Hid (Mut (λk=>k=nb) W2 w7):=hid (by rw [←hw7];exact Zf HM6.out nb 21 _ rfl)
 have HW7:=hid hw7
 have HN7:=hid (HN6.out.set (j:=21) (v:=.pointer (some ⟨stb,0,none⟩)))
 rw [hw7] at HN7
 have HQ7:Hid (Mut (λk=>k=nb∨k=stb) w6 w7):=hid (by rw [←hw7];exact (Xk (w:=w6) (s:=nb) (i:=21) (v:=.pointer (some ⟨stb,0,none⟩))).mono λk _ e=>.inl e)
 clear hw7 q21 fz6 HN6 HM6 HQ6
 have HBB7:=hid (HBB2.out.mut HM7.out (λe=>by have h0:=HZ.out;omega))
 have HSB7:=hid (HSB6.out.mut (Xk (w:=w6) (s:=nb) (i:=21) (v:=.pointer (some ⟨stb,0,none⟩))) (λe=>by have h0:=HZ.out;have h1:=HB2.out.size;have h2:=HZ6.out;omega))
 rw [HW7.out] at HSB7
 have hsn:¬ (nb=stb):=λe=>by have h0:=HZ.out;have h1:=HB2.out.size;have h2:=HZ6.out;omega
 have hsw:¬ (W1.heap.size=stb):=λe=>by have h0:=HZ.out;have h1:=HBB2.out.lt;have h2:=HZ6.out;omega
 have S4:Hid (∀W,Mut (λk=>k=stb) w7 W→Mut (λk=>k=stb) w7 W∧W.cell? ⟨nb,21,none⟩=some (.pointer (some ⟨stb,0,none⟩))∧W.cell? ⟨W1.heap.size,0,none⟩=some (.string ⟨#[]⟩)∧W.cell? ⟨W1.heap.size,1,none⟩=some (.string ⟨#[]⟩)∧W.cell? ⟨W1.heap.size,2,none⟩=some (.string ⟨#[]⟩)∧W.cell? ⟨W1.heap.size,3,none⟩=some (.string ⟨#[]⟩)∧W.cell? ⟨W1.heap.size,4,none⟩=some (.string ⟨#[]⟩)∧W.cell? ⟨W1.heap.size,5,none⟩=some (.string ⟨#[]⟩)∧W.cell? ⟨W1.heap.size,6,none⟩=some (.string ⟨#[]⟩)∧W.cell? ⟨W1.heap.size,7,none⟩=some (.string ⟨#[]⟩)):=hid λW hm=>by
  have h1:=HN7.out.mut hm hsn
  have h2:=HBB7.out.mut hm hsw
  exact ⟨hm,h1.cell (j:=21) rfl,h2.cell (j:=0) rfl,h2.cell (j:=1) rfl,h2.cell (j:=2) rfl,h2.cell (j:=3) rfl,h2.cell (j:=4) rfl,h2.cell (j:=5) rfl,h2.cell (j:=6) rfl,h2.cell (j:=7) rfl⟩
 have C4:Hid (∀W,Below w7.heap.size w7 W→Calls Tryz.prog 72 #[.pointer (some ⟨stb,0,none⟩),.agg #[.string ⟨#[]⟩,.string ⟨#[]⟩,.string ⟨#[]⟩,.string ⟨#[]⟩,.string ⟨#[]⟩,.string ⟨#[]⟩,.string ⟨#[]⟩,.string ⟨#[]⟩]] W λe w'=>e=.returned (.bool true)∧Mut (λk=>k=stb) w7 w'∧Hid (Zc w' stb 247 (stC (.int .u64 i) (.slice As.am V.ms.length As.cm) (.slice As.al V.ls.length As.cl) (.slice As.ad V.ds.length As.cd) (.map (some sm))))):=hid λW hb =>
  (load_any ⟨#[]⟩ ⟨#[]⟩ ⟨#[]⟩ ⟨#[]⟩ ⟨#[]⟩ ⟨#[]⟩ ⟨#[]⟩ ⟨#[]⟩ bdOk0 (HSB7.out.ext hb)).mono λe w' ⟨g1,g2,g3⟩=>⟨g1,(Mut.of_below hb).trans g2,hid g3⟩
 have H7:Below w7.heap.size w7 w7.drew:=(Below.refl _ _).drew
 refine rhd S4.out (Mut.of_below H7) λhHeld=>?_
 refine tkv 0 (.pointer (some ⟨nb,0,none⟩)) rfl ?_
 refine tkv 1 (.pointer (some ⟨nb,0,none⟩)) rfl ?_
 refine tkv 2 (.pointer (some ⟨nb,21,none⟩)) rfl ?_
 refine tkv 3 (.pointer (some ⟨stb,0,none⟩)) rfl ?_
 refine tkv 4 (.agg #[.string ⟨#[]⟩,.string ⟨#[]⟩,.string ⟨#[]⟩,.string ⟨#[]⟩,.string ⟨#[]⟩,.string ⟨#[]⟩,.string ⟨#[]⟩,.string ⟨#[]⟩]) rfl ?_
 refine rd1 5 rfl λK hK=>?_
 go_simp
 (refine (C4.out _ H7).mono ?_)
 rintro e w8 ⟨rfl,hm8,HSB8⟩
 refine hK.out _ _ (S4.out _ hm8) (λhHeld=>?_)
 clear hK K
 try simp only [lay]
 refine dn ?_
 have HN8:=hid (HN7.out.mut hm8 hsn)
 have HM8:Hid (Mut (λk=>k=nb) W2 w8):=hid (HM7.out.transG hm8 (λk hk e=>by have h2:=HZ6.out;omega))
 have HQ8:Hid (Mut (λk=>k=nb∨k=stb) w6 w8):=hid (HQ7.out.trans (hm8.mono λk _ e=>.inr e))
 clear HBB7 HSB7 hsw S4 C4 H7 HN7 HM7 hm8 HSB6 HQ7
 have C8:=hid (FM 1 w8)
 go_wp2_with fail
 refine C8.out.mono ?_
 rintro e w9 ⟨rfl,hw9⟩
 have hb9:Below w8.heap.size w8 w9:=by rw [hw9];exact bra
 have hax:Zc w9 w8.heap.size 250 [.int .u64 1,.int .u32 0,.int .u16 0,.int .u32 0,.pointer none]:=by rw [hw9];exact Zc.made _ _ _
 have haz:w6.heap.size≤w8.heap.size:=HQ8.out.size
 obtain ⟨ab,hab⟩:∃b,w8.heap.size=b:=⟨_,rfl⟩
 rw [hab] at hax haz ⊢
 have HAX9:=hid hax
 have HQ9:Hid (Mut (λk=>k=nb∨k=stb) w6 w9):=hid (HQ8.out.trans (Mut.of_below hb9))
 have HZA:Hid (w6.heap.size≤ab∧ab<w9.heap.size):=hid ⟨haz,hax.lt⟩
 have HN9:=hid (HN8.out.ext hb9)
 have HSB9:=hid (HSB8.out.ext hb9)
 have HM9:Hid (Mut (λk=>k=nb) W2 w9):=hid (HM8.out.trans (Mut.of_below hb9))
 clear hw9 HM8 HN8 HSB8 hab hb9 C8 hax haz HQ8
 have q22:=HN9.out.cell (j:=22) rfl
 have fz9:=HN9.out.frozen
 go_upto_region 6 with fail
 obtain ⟨w10,hw10⟩:∃w10,w9.setCell ⟨nb,22,none⟩ (.pointer (some ⟨ab,0,none⟩))=w10:=⟨_,rfl⟩
 rw [hw10]
 have hms10:Mut (λk=>k=nb) w9 w10:=by rw [←hw10];exact Xk
 have HM10:Hid (Mut (λk=>k=nb) W2 w10):=hid (HM9.out.trans hms10)
 have HN10:=hid (HN9.out.set (j:=22) (v:=.pointer (some ⟨ab,0,none⟩)))
 rw [hw10] at HN10
 have HSB10:=hid (HSB9.out.mut hms10 (λe=>by have h0:=HZ.out;have h1:=HB2.out.size;have h2:=HZ6.out;omega))
 have HQ10:Hid (Mut (λk=>k=nb∨k=stb) w6 w10):=hid (HQ9.out.trans (hms10.mono λk _ e=>.inl e))
 have HAX10:=hid (HAX9.out.mut hms10 (λe=>by have h0:=HZ.out;have h1:=HZA.out;have h2:=HZ56.out;have h3:=HZ6.out;have h4:=HB2.out.size;omega))
 have HZ910:Hid (w9.heap.size≤w10.heap.size):=hid hms10.size
 clear hw10 q22 fz9 HN9 HM9 HSB9 hms10 HQ9 HAX9
 have q0:=HN10.out.cell (j:=0) rfl
 have q1:=HN10.out.cell (j:=1) rfl
 have C10:=hid (zac x y w10)
 go_wp2_with fail
 refine C10.out.mono ?_
 rintro e w11 ⟨pb,rfl,hpb,hb11,hP11⟩
 have HN11:=hid (HN10.out.ext hb11)
 have HSB11:=hid (HSB10.out.ext hb11)
 have HPB11:=hid hP11
 have HZ11:Hid (W2.heap.size≤pb∧stb<pb):=hid ⟨Nat.le_trans HM10.out.size hpb,Nat.lt_of_lt_of_le HSB10.out.lt hpb⟩
 have HM11:Hid (Mut (λk=>k=nb) W2 w11):=hid (HM10.out.trans (Mut.of_below hb11))
 have HQ11:Hid (Mut (λk=>k=nb∨k=stb) w6 w11):=hid (HQ10.out.trans (Mut.of_below hb11))
 have HAX11:=hid (HAX10.out.ext hb11)
 have HZP:Hid (w10.heap.size≤pb):=hid hpb
 clear q0 q1 C10 HM10 HN10 HSB10 hb11 hpb hP11 HQ10 HAX10
 have q23:=HN11.out.cell (j:=23) rfl
 have fz11:=HN11.out.frozen
 go_upto_region 7 with fail
 obtain ⟨w12,hw12⟩:∃w12,w11.setCell ⟨nb,23,none⟩ (.pointer (some ⟨pb,0,none⟩))=w12:=⟨_,rfl⟩
 rw [hw12]
 have hms12:Mut (λk=>k=nb) w11 w12:=by rw [←hw12];exact Xk
 have HM12:Hid (Mut (λk=>k=nb) W2 w12):=hid (HM11.out.trans hms12)
 have HN12:=hid (HN11.out.set (j:=23) (v:=.pointer (some ⟨pb,0,none⟩)))
 rw [hw12] at HN12
 have HSB12:=hid (HSB11.out.mut hms12 (λe=>by have h0:=HZ.out;have h1:=HB2.out.size;have h2:=HZ6.out;omega))
 have HMS12:=hid hms12
 have HQ12:Hid (Mut (λk=>k=nb∨k=stb) w6 w12):=hid (HQ11.out.trans (hms12.mono λk _ e=>.inl e))
 have HAX12:=hid (HAX11.out.mut hms12 (λe=>by have h0:=HZ.out;have h1:=HZA.out;have h2:=HZ56.out;have h3:=HZ6.out;have h4:=HB2.out.size;omega))
 clear hw12 q23 fz11 HN11 HM11 HSB11 hms12
 have HPB12:=hid (HPB11.out.mut HMS12.out (λe=>by have h0:=HZ.out;have h1:=HZ11.out;have h2:=HB2.out.size;omega))
 clear HPB11 HMS12
 have q41:=HN12.out.cell (j:=41) rfl
 have fz12:=HN12.out.frozen
 go_upto_region 8 with fail
 obtain ⟨w13,hw13⟩:∃w13,w12.setCell ⟨nb,41,none⟩ (.int .u64 0)=w13:=⟨_,rfl⟩
 rw [hw13]
 have hms13:Mut (λk=>k=nb) w12 w13:=by rw [←hw13];exact Xk
 have HM13:Hid (Mut (λk=>k=nb) W2 w13):=hid (HM12.out.trans hms13)
 have HN13:=hid (HN12.out.set (j:=41) (v:=.int .u64 0))
 rw [hw13] at HN13
 have HSB13:=hid (HSB12.out.mut hms13 (λe=>by have h0:=HZ.out;have h1:=HB2.out.size;have h2:=HZ6.out;omega))
 have HMS13:=hid hms13
 have HQ13:Hid (Mut (λk=>k=nb∨k=stb) w6 w13):=hid (HQ12.out.trans (hms13.mono λk _ e=>.inl e))
 have HAX13:=hid (HAX12.out.mut hms13 (λe=>by have h0:=HZ.out;have h1:=HZA.out;have h2:=HZ56.out;have h3:=HZ6.out;have h4:=HB2.out.size;omega))
 clear hw13 q41 fz12 HN12 HM12 HSB12 hms13
 have HPB13:=hid (HPB12.out.mut HMS13.out (λe=>by have h0:=HZ.out;have h1:=HZ11.out;have h2:=HB2.out.size;omega))
 have HVB13:=hid (HVB2.out.mut HM13.out (λe=>by have h0:=HZ.out;omega))
 have v0:=HVB13.out.cell (j:=0) rfl
 have v1:=HVB13.out.cell (j:=1) rfl
 have v2:=HVB13.out.cell (j:=2) rfl
 have v3:=HVB13.out.cell (j:=3) rfl
 have HN14:Hid (Zc w13 nb 98 (FF x y l m t 1 (.slice none 0 0) 0 h grp0 (.pointer (some ⟨lb,0,none⟩)) (.pointer (some ⟨stb,0,none⟩)) (.pointer (some ⟨ab,0,none⟩)) (.pointer (some ⟨pb,0,none⟩)) wb rum0 0 m1 m2 (.slice none 0 0) sb false (.slice none 0 0) (.slice none 0 0))):=hid HN13.out
 have HND:Hid ([nb,stb,pb,wb,wr,sb,sr].Nodup):=hid (by
  obtain ⟨n1',n2',n3',n4',n5',n6',n7',n8',n9',n10'⟩:=HNE.out
  have h0:=HZ.out
  have h1:=HZ11.out
  have h2:=HB2.out.size
  have h3:=HZ6.out
  simp only [List.nodup_cons,List.mem_cons,List.not_mem_nil,or_false,not_or,List.nodup_nil,and_true,not_false_eq_true]
  repeat' apply And.intro
  all_goals (intro e;first | exact n1' e | exact n2' e | exact n3' e | exact n4' e | exact n5' e | exact n6' e | exact n7' e | exact n8' e | exact n9' e | exact n10' e | (clear n1' n2' n3' n4' n5' n6' n7' n8' n9' n10';omega)))
 have HSB13S:=HSB13
 have HPBL:Hid (pb<w13.heap.size):=hid HPB13.out.lt
 have C13:=EO (A:=⟨am,al,ad,cm,cl,cd⟩) (w0:=w0) HF.out HSM.out HV0.out (Zz (HB0.out.trans (HB2.out.mono HB0.out.size)) HM13.out (λk e=>by have h0:=HGE.out;rw [e];exact h0.1)) (by have h0:=HGE.out;have h1:=HZ11.out;have h2:=HB2.out.size;omega) HMEM.out HN14.out HSB13.out HPB13.out (HW2.out.mut HM13.out HNE.out.1.symm HNE.out.2.1.symm) (HL2.out.mut HM13.out HNE.out.2.2.1.symm HNE.out.2.2.2.1.symm) HND.out
 rw [HX.out] at C13
 have C13:=hid C13
 clear HN13 HSB13 HPB13 HVB13 HND
 go_wp2_with fail
 refine C13.out.mono ?_
 rintro e w14 ⟨rfl,hI⟩
 have HI:=hid hI
 clear C13 hI v0 v1 v2 v3
 go_wp2_with fail
 have hz0:=HZ.out
 have hz1:=HB2.out.size
 have hz2:=HZL.out
 have hz3:=HZ45.out
 have hz4:=HZ6.out
 have hz5:=HZS.out
 have hz6:=HZ56.out
 have hz7:=HZA.out
 have hz8:=HZ910.out
 have hz9:=HZP.out
 have hza:=HZ11.out
 have hzb:=HPBL.out
 have hge:=HGE.out
 have hmi:=HI.out.mt
 have hq:Mut (λk=>k=nb∨k=stb∨k=pb∨k=wb∨k=sr) w6 w14:=(HQ13.out.mono λk _ e=>e.imp id .inl).trans (hmi.mono λk _ e=>e.imp id .inr)
 refine bodyPost_end (results_none rfl _ _ _) rfl ⟨rfl,⟨lb,stb,sm,ab,pb,As,w5.heap.size,shi,w13.heap.size,?_,?_,?_,?_,?_,?_,?_⟩,((Mut.of_below HB2.out).trans (HM13.out.mono λk _ e=>.inl e)).transG hmi (λk hk e=>by rcases e with e | e | e | e;exact .inl e;omega;exact .inr (.inl e);exact .inr (.inr e))⟩
 ·omega
 ·exact HLX6.out.mut hq (λe=>by rcases e with e | e | e | e | e <;> omega)
 ·exact HSB13S.out.mut hmi (λe=>by rcases e with e | e | e | e <;> omega)
 ·exact HSM6.out.same (hq.block _ HSM6.out.lt (λe=>by rcases e with e | e | e | e | e <;> omega))
 ·exact HKR6.out.mut hq (λk e=>by rcases e with e | e | e | e | e <;> omega)
 ·exact HAX13.out.mut hmi (λe=>by rcases e with e | e | e | e <;> omega)
 ·obtain ⟨ba,bn,bc,qb,ib,tb,il,iw,ta,tl,mi,mc,At,lo,hi,wr',ev,A',h1,h2,h3,h4,h5,h6,h7,h8,h9⟩:=HI.out.all
  have hz:w.heap.size≤w13.heap.size:=Nat.le_trans HB2.out.size HM13.out.size
  exact ⟨ba,bn,bc,qb,ib,tb,il,iw,ta,tl,mi,mc,At,lo,hi,wr',ev,A',h1,h2.mono hz,h3,h4.mono hz,h5,h6,h7,h8,h9⟩
structure zdh (w w':World) (V:Zs) (i:Nat) (x y l m t:Int) (nb:Nat):Prop where
 all:∃(w5 w6:World) (A:VAd) (h r wb wr sb sr m1 m2:Nat),zdn w5 w6 x y l m t nb h r wb wr sb sr m1 m2∧w.heap.size≤w5.heap.size∧Below w.heap.size w w5∧Zt w5 A.am A.al A.ad V∧Began2 w6 w' V i x y l m t (max t 1) A nb h wb sb sr m1 m2
set_option maxRecDepth 100000 in
set_option maxHeartbeats 12800000 in
theorem zcY {w:World} {l:List Pid} {b:Bnd} {a:Option Addr} {c n i:Nat} {V:Zs} {x y:Int} (hV:Hid (GK l b=(V,0))) (hn:Hid (l.length=n)) (hnl:n≤1000) (hrow:Zb w a l) (hok:∀p∈l,ok p) (hbo:zem b) (hf:FitV V i) (hs:KA V) (hp:(x,y)∈V.ms) :
  Calls Tryz.prog 8 #[.agg #[.int .u16 x,.int .u32 y],.slice a n c,.agg #[.int .i64 b.least,.int .i64 b.most,.int .i64 b.tmo]] w λe w'=>∃nb,e=.returned (.pointer (some ⟨nb,0,none⟩))∧zdh w w' V i x y b.least b.most b.tmo nb:=by
 obtain ⟨n1,e1⟩:∃q,V.ms.length=q:=⟨_,rfl⟩
 obtain ⟨n2,e2⟩:∃q,V.ls.length=q:=⟨_,rfl⟩
 obtain ⟨n3,e3⟩:∃q,V.ds.length=q:=⟨_,rfl⟩
 have hx:∀am al ad cm cl cd,(vcl V i ⟨am,al,ad,cm,cl,cd⟩).toArray=#[.int .u64 i,.slice am n1 cm,.slice al n2 cl,.slice ad n3 cd]:=by intros;unfold vcl;rw [e1,e2,e3]
 obtain ⟨l0,hl0⟩:∃z,b.least=z:=⟨_,rfl⟩
 obtain ⟨m0,hm0⟩:∃z,b.most=z:=⟨_,rfl⟩
 obtain ⟨t0,ht0⟩:∃z,b.tmo=z:=⟨_,rfl⟩
 obtain ⟨W2,hW2⟩:∃W2,(w.alloc (.cells #[.int .u16 x,.int .u32 y] 25)).alloc (.cells #[.int .i64 l0,.int .i64 m0,.int .i64 t0] 28)=W2:=⟨_,rfl⟩
 have hb2:Below w.heap.size w W2:=by rw [←hW2];exact (bra).alloc (by simp) _
 have hpb:Zc W2 w.heap.size 25 [.int .u16 x,.int .u32 y]:=by rw [←hW2];exact (Zc.made w _ _).ext (bra)
 have hbb:Zc W2 (w.heap.size+1) 28 [.int .i64 l0,.int .i64 m0,.int .i64 t0]:=by rw [←hW2];exact Zc.madeN _ _ _ (by simp)
 have HB2:=hid hb2
 have HPB:=hid hpb
 have HBB:=hid hbb
 have C1:Hid (Calls Tryz.prog 26 #[.slice a n c,.agg #[.int .i64 l0,.int .i64 m0,.int .i64 t0]] W2 λe w'=>∃am al ad cm cl cd,e=.returned (.tuple #[.agg #[.int .u64 i,.slice am n1 cm,.slice al n2 cl,.slice ad n3 cd],.int .i64 0])∧Below W2.heap.size W2 w'∧Hid (Zt w' am al ad V)):=hid (by
  have h:=zak (c:=c) hV hn hnl (hrow.ext hb2) hok hbo
  rw [hl0,hm0,ht0] at h
  refine h.mono ?_
  rintro e w' ⟨qm,ql,qd,km,kl,kd,h1,h2,h3⟩
  rw [e1,e2,e3,hf.id] at h1
  exact ⟨_,_,_,_,_,_,h1,⟨h3.os,h3.tape,h3.output,h3.size,λk hk=>h3.block k hk λe=>e⟩,hid h2.r⟩)
 have HF:=hid hf
 have HSM:=hid hs
 have HX:=hid hx
 have HMEM:=hid hp
 have HE:=hid (And.intro e1 (And.intro e2 e3))
 have b0:=hbb.cell (j:=0) rfl
 have b1:=hbb.cell (j:=1) rfl
 have b2:=hbb.cell (j:=2) rfl
 rw [hl0,hm0,ht0]
 clear hV hn hrow hok hbo hf hs hx hp e1 e2 e3 hb2 hpb hbb hl0 hm0 ht0 hnl
 go_enter Tryz.func8,Tryz.ntmps8
 go_wp2_with fail
 refine C1.out.mono ?_
 rintro e w3 ⟨am,al,ad,cm,cl,cd,rfl,hb3,HV3⟩
 clear C1 b0 b1 b2 hW2
 obtain ⟨W4,hW4⟩:∃W4,w3.alloc (.cells #[.int .u64 i,.slice am n1 cm,.slice al n2 cl,.slice ad n3 cd] 35)=W4:=⟨_,rfl⟩
 have hb4:Below w3.heap.size w3 W4:=by rw [←hW4];exact bra
 have hvb:Zc W4 w3.heap.size 35 [.int .u64 i,.slice am n1 cm,.slice al n2 cl,.slice ad n3 cd]:=by rw [←hW4];exact Zc.made w3 _ _
 obtain ⟨vb,hvbe⟩:∃z,w3.heap.size=z:=⟨_,rfl⟩
 have hvz:vb<W4.heap.size:=by rw [←hvbe];exact hvb.lt
 have HB4:Hid (Below w.heap.size w W4):=hid (HB2.out.trans ((hb3.trans (hb4.mono hb3.size)).mono HB2.out.size))
 have HB24:Hid (Below W2.heap.size W2 W4):=hid (hb3.trans (hb4.mono hb3.size))
 have HV4:=hid (HV3.out.ext hb4)
 have HVB:=hid hvb
 go_upto_region 2 with fail
 try rw [hW4]
 try rw [hvbe]
 rw [hvbe] at HVB
 clear hW4 hvbe hb4 hvb hb3 HV3
 have CH:Hid (∀W,Below W4.heap.size W4 W→Calls Tryz.prog 27 #[.agg #[.int .u64 i,.slice am n1 cm,.slice al n2 cl,.slice ad n3 cd],.agg #[.int .u16 x,.int .u32 y]] W λe w'=>e=.returned (.bool true)∧Below W4.heap.size W4 w'):=hid λW hb=>by
  have h:=XO V am al ad cm cl cd x y W (HV4.out.ext hb)
  rw [decide_eq_true HMEM.out,HE.out.1,HE.out.2.1,HE.out.2.2,HF.out.id] at h
  exact h.mono λe w' ⟨h1,h2⟩=>⟨h1,hb.trans (h2.mono hb.size)⟩
 have v0:=HVB.out.cell (j:=0) rfl
 have v1:=HVB.out.cell (j:=1) rfl
 have v2:=HVB.out.cell (j:=2) rfl
 have v3:=HVB.out.cell (j:=3) rfl
 have p0:=(HPB.out.ext HB24.out).cell (j:=0) rfl
 have p1:=(HPB.out.ext HB24.out).cell (j:=1) rfl
 go_wp2_with (go_at_call 27;refine (CH.out _ (Below.refl _ _)).mono ?_;rintro e w5 ⟨rfl,hb5⟩;have HB5:=hid hb5;replace p0:=Zk p0 hb5;replace p1:=Zk p1 hb5;have b0:=((HBB.out.ext HB24.out).ext hb5).cell (j:=0) rfl;have b1:=((HBB.out.ext HB24.out).ext hb5).cell (j:=1) rfl;have b2:=((HBB.out.ext HB24.out).ext hb5).cell (j:=2) rfl;clear v0 v1 v2 v3 hb5)
 have HV5:=hid (HV4.out.ext HB5.out)
 clear p0 p1 b0 b1 b2 CH
 refine (zdW x y l0 m0 t0 w5).mono ?_
 rintro e w6 ⟨nb,h,r,wb,wr,sb,sr,m1,m2,rfl,hB⟩
 have HBL:=hid hB
 have C6:=zcW (A:=⟨am,al,ad,cm,cl,cd⟩) (w0:=w5) HF.out HSM.out HV5.out hB.below hB.fresh HMEM.out hB.box hB.watch hB.set hB.apart
 rw [HX.out] at C6
 have C6:=hid C6
 have HVB6:=hid ((HVB.out.ext HB5.out).ext hB.below)
 clear hB
 have v0:=HVB6.out.cell (j:=0) rfl
 have v1:=HVB6.out.cell (j:=1) rfl
 have v2:=HVB6.out.cell (j:=2) rfl
 have v3:=HVB6.out.cell (j:=3) rfl
 go_wp2_with fail
 refine C6.out.mono ?_
 rintro e w7 ⟨rfl,hG⟩
 have HG:=hid hG
 clear hG C6 v0 v1 v2 v3
 go_wp2_with fail
 go_ret
 have hz5:w.heap.size≤w5.heap.size:=Nat.le_trans HB4.out.size HB5.out.size
 exact ⟨nb,rfl,⟨w5,w6,⟨am,al,ad,cm,cl,cd⟩,h,r,wb,wr,sb,sr,m1,m2,HBL.out,hz5,HB4.out.trans (HB5.out.mono HB4.out.size),HV5.out,HG.out⟩⟩
def zbT (L:List (Nat × Nat)) (k:Nat):Nat:=(L.lookup k).getD 0
theorem zev:∀{L:List (Nat × Nat)} {k v:Nat},(L.map (·.1)).Nodup→(k,v)∈L→zbT L k=v
 | [],_,_,_,h=>by cases h
 | (a,c) :: L,k,v,hd,h=>by
  rw [List.map_cons,List.nodup_cons] at hd
  unfold zbT
  rw [List.lookup_cons]
  by_cases e:k=a
  ·subst e
   rcases List.mem_cons.1 h with h | h
   ·cases h;simp
   ·exact absurd (List.mem_map_of_mem (f:=λx:Nat × Nat=>x.1) h) hd.1
  ·rcases List.mem_cons.1 h with h | h
   ·cases h;exact absurd rfl e
   ·have:=zev hd.2 h
    unfold zbT at this
    have hb:(k == a)=false:=by simpa using e
    rw [hb]
    exact this
theorem zdu:∀{L:List (Nat × Nat)} {k:Nat},zbT L k≠0→k∈L.map (·.1)
 | [],_,h=>absurd rfl h
 | (a,c) :: L,k,h=>by
  rw [List.map_cons,List.mem_cons]
  by_cases e:k=a
  ·exact .inl e
  ·right
   refine zdu ?_
   unfold zbT at h ⊢
   rw [List.lookup_cons] at h
   have hb:(k == a)=false:=by simpa using e
   rw [hb] at h
   exact h
theorem Zc.back {w:World} {b j:Nat} {t:TypeId} {cs:List Value} {v:Value} (h:Zc w b t cs) (hc:w.cell? ⟨b,j,none⟩=some v):cs[j]?=some v:=by
 by_cases hj:j<cs.length
 ·have h1:=h.cell (List.getElem?_eq_getElem hj)
  rw [h1] at hc
  rw [←hc];exact List.getElem?_eq_getElem hj
 ·have h2:w.heap[b]?=some (.cells cs.toArray t):=h
  unfold World.cell? at hc
  rw [h2] at hc
  simp at hc
  exact hc
section
variable {own:Nat→Nat} {b:PB} {x y T v:Int} {i tl mc:Nat} {V:Zs} {A As At:VAd} {ma:Option Addr} {cs cs':List Value} {w w':World}
theorem Ini.o (I:Ini own b x y i tl mc V A As At ma T v cs w) (t:Gy own b) (hm:Zl own [1] w w') (hB:Zc w' b.nb 98 cs'):Ini own b x y i tl mc V A As At ma T v cs' w':=by
 obtain ⟨p1,p2,hA⟩:=I.a
 obtain ⟨s1,s2,ld,osl,b0,b1,b2,val,m0,m1,hP⟩:=I.p
 obtain ⟨c5,c6,c7,c8,c9,c10,c11,c12,hS⟩:=I.S
 exact ⟨I.F.o t hm (by simp),hB,I.Q.o hm t.qb (by simp),I.X.o hm t.xb (by simp),I.il.o hm t.il (by simp),I.iw.o hm t.iw (by simp),I.ta.o hm t.ta (by simp),I.L.o hm t.lb (by simp),⟨c5,c6,c7,c8,c9,c10,c11,c12,hS.o hm t.sb (by simp)⟩,I.sm.o hm t.sm (by simp),⟨p1,p2,hA.o hm t.ab (by simp)⟩,⟨s1,s2,ld,osl,b0,b1,b2,val,m0,m1,hP.o hm t.pb (by simp)⟩⟩
end
structure One (w w':World) (V:Zs) (i:Nat) (x y:Int) (bd:Bnd) (nb:Nat):Prop where
 all:∃(own:Nat→Nat) (b:PB) (tl mc:Nat) (A As At:VAd) (ma:Option Addr) (T:Int) (cs:List Value) (ev:Value) (A':VAd),b.nb=nb∧Gy own b∧NP cs x y i A bd b∧cs[7]?=some (.int .i64 0)∧cs[41]?=some (.int .u64 0)∧cs[48]?=some ev∧Ini own b x y i tl mc V A As At ma T (i:Int) cs w'∧YD own (Zj · tl kiI n64 ([]:List (Int × Nat))) w'∧(∀o off,A.ad=some ⟨o,off,none⟩→V.ds≠[]→o≠b.pb)∧Vk w' w.heap.size 48 9 ev [[.int .i64 1,.int .u64 i,.slice A'.am 1 A'.cm,.slice A'.al 1 A'.cl,.slice A'.ad 1 A'.cd,.int .u16 0,.int .u32 0,.int .u64 0,.slice none 0 0]]∧(∀g,ev.ownBlock=some g→own g=0)∧Zt w' A'.am A'.al A'.ad V∧(∀k,own k≠0→w.heap.size≤k)∧Below w.heap.size w w'
set_option maxHeartbeats 6400000 in
set_option maxRecDepth 100000 in
theorem one_of {w w':World} {V:Zs} {i:Nat} {x y:Int} {bd:Bnd} {nb:Nat} (h1:V1 V x y i) (hF:zdh w w' V i x y bd.least bd.most bd.tmo nb):One w w' V i x y bd nb:=by
 obtain ⟨w5,w6,A,h,r,wb,wr,sb,sr,m1,m2,HB,hz5,hb5,hV5,HG⟩:=hF.all
 obtain ⟨lb,stb,sm,ab,pb,As,slo,shi,z,⟨o1,o2,o3,o4,o5,o6,o7,o8⟩,hL,hS,hsm,hKs,hA,ba,bn,bc,qb,ib,tb,il,iw,ta,tl,mi,mc,At,lo,hi,wr',ev,A',hN,hE,hEg,hEs,hM,hP,hwr,hW,hSe⟩:=HG.all
 obtain ⟨q1,q2,q3,q4,q5,q6,q7,q8,q9,q10,q11,q12,q13⟩:=hM.o
 have hz6:w5.heap.size≤w6.heap.size:=HB.below.size
 have hib1:ib≠il:=hM.mil.ne_cell (hM.x.cell (j:=0) rfl)
 have hib2:ib≠iw:=(hM.miw n64 n64).ne_cell (hM.x.cell (j:=0) rfl)
 have hap:=HB.apart
 have hfr:=HB.fresh
 have hmt:=HG.mt
 let L0:List (Nat × Nat):=[(nb,1),(h,12),(r,12),(wb,11),(sb,13),(sr,13),(m1,9),(m2,10)]
 let L1:List (Nat × Nat):=[(lb,5),(stb,6),(sm,6),(ab,7),(pb,8),(qb,2),(ib,3),(il,3),(iw,3),(ta,4),(tb,14),(wr',11)]
 have hlt0:∀k∈L0.map (·.1),w5.heap.size≤k∧k<w6.heap.size:=by
  have l1:=HB.box.lt
  have l2:=HB.hub.lt
  have l3:=HB.hub.map.lt
  have l4:=HB.watch.lt
  have l5:=HB.set.lt
  have l6:=HB.set.map.lt
  have l7:=(HB.map1 n64 n64).lt
  have l8:=(HB.map2 n64 n64).lt
  have f:=λk hk=>hfr k hk
  intro k hk
  simp only [L0,List.map_cons,List.map_nil,List.mem_cons,List.not_mem_nil,or_false] at hk
  rcases hk with rfl | rfl | rfl | rfl | rfl | rfl | rfl | rfl
  ·exact ⟨hfr _ (by simp),l1⟩
  ·exact ⟨hfr _ (by simp),l2⟩
  ·exact ⟨hfr _ (by simp),l3⟩
  ·exact ⟨hfr _ (by simp),l4⟩
  ·exact ⟨hfr _ (by simp),l5⟩
  ·exact ⟨hfr _ (by simp),l6⟩
  ·exact ⟨hfr _ (by simp),l7⟩
  ·exact ⟨hfr _ (by simp),l8⟩
 have hn0:(L0.map (·.1)).Nodup:=by
  simp only [L0,List.map_cons,List.map_nil]
  simp only [List.nodup_cons,List.mem_cons,List.not_mem_nil,or_false,not_or,List.nodup_nil,and_true,not_false_eq_true] at hap ⊢
  obtain ⟨a1,a2,a3,a4,a5,a6,a7,a8⟩:=hap
  exact ⟨⟨a1.1,a1.2.1,a1.2.2.1,a1.2.2.2.2.1,a1.2.2.2.2.2.1,a1.2.2.2.2.2.2.1,a1.2.2.2.2.2.2.2⟩,⟨a2.1,a2.2.1,a2.2.2.2.1,a2.2.2.2.2.1,a2.2.2.2.2.2.1,a2.2.2.2.2.2.2⟩,⟨a3.1,a3.2.2.1,a3.2.2.2.1,a3.2.2.2.2.1,a3.2.2.2.2.2⟩,⟨a4.2.1,a4.2.2.1,a4.2.2.2.1,a4.2.2.2.2⟩,a6,a7,a8⟩
 have hl1:∀k∈L1.map (·.1),w6.heap.size≤k:=by
  intro k hk
  simp only [L1,List.map_cons,List.map_nil,List.mem_cons,List.not_mem_nil,or_false] at hk
  rcases hk with rfl | rfl | rfl | rfl | rfl | rfl | rfl | rfl | rfl | rfl | rfl | rfl <;> omega
 have hn1:(L1.map (·.1)).Nodup:=by
  simp only [L1,List.map_cons,List.map_nil,List.nodup_cons,List.mem_cons,List.not_mem_nil,or_false,not_or,List.nodup_nil,and_true,not_false_eq_true]
  refine ⟨⟨?_,?_,?_,?_,?_,?_,?_,?_,?_,?_,?_⟩,⟨?_,?_,?_,?_,?_,?_,?_,?_,?_,?_⟩,⟨?_,?_,?_,?_,?_,?_,?_,?_,?_⟩,⟨?_,?_,?_,?_,?_,?_,?_,?_⟩,⟨?_,?_,?_,?_,?_,?_,?_⟩,⟨?_,?_,?_,?_,?_,?_⟩,⟨?_,?_,?_,?_,?_⟩,⟨?_,?_,?_,?_⟩,⟨?_,?_,?_⟩,⟨?_,?_⟩,?_⟩
  all_goals first | exact hib1 | exact hib2 | exact q5 | omega
 have hn:((L0 ++ L1).map (·.1)).Nodup:=by
  rw [List.map_append,List.nodup_append]
  exact ⟨hn0,hn1,λa ha c hc e=>by have g1:=hlt0 a ha;have g2:=hl1 c hc;omega⟩
 have hlt1:∀k∈L1.map (·.1),k<w'.heap.size:=by
  have l1:=hL.lt
  have l2:=hS.lt
  have l3:=hA.lt
  have l4:=hP.lt
  have l5:=hM.q.lt
  have l6:=hM.x.lt
  have l7:=hM.mil.lt
  have l8:=(hM.miw n64 n64).lt
  have l9:=hM.mta.lt
  have l10:=hM.t.lt
  have l11:=hW.map.lt
  have l12:=hsm.lt
  intro k hk
  simp only [L1,List.map_cons,List.map_nil,List.mem_cons,List.not_mem_nil,or_false] at hk
  rcases hk with rfl | rfl | rfl | rfl | rfl | rfl | rfl | rfl | rfl | rfl | rfl | rfl <;> assumption
 have hz67:w6.heap.size≤w'.heap.size:=hmt.size
 have howk:∀k,zbT (L0 ++ L1) k≠0→(w5.heap.size≤k∧k<w6.heap.size)∨k∈L1.map (·.1):=λk hk=>by
  have hk:=zdu hk
  rw [List.map_append,List.mem_append] at hk
  exact hk.imp (hlt0 k) id
 have hown:∀{k v},(k,v)∈L0 ++ L1→zbT (L0 ++ L1) k=v:=λh=>zev hn h
 have hge:∀k,zbT (L0 ++ L1) k≠0→w5.heap.size≤k:=λk hk=>by
  rcases howk k hk with e | e
  ·exact e.1
  ·have:=hl1 k e;omega
 have hkl:∀k∈L1.map (·.1),k=lb∨shi≤k:=by
  intro k hk
  simp only [L1,List.map_cons,List.map_nil,List.mem_cons,List.not_mem_nil,or_false] at hk
  rcases hk with rfl | rfl | rfl | rfl | rfl | rfl | rfl | rfl | rfl | rfl | rfl | rfl <;> omega
 have hkt:∀k∈L1.map (·.1),k<lo∨hi≤k:=by
  intro k hk
  simp only [L1,List.map_cons,List.map_nil,List.mem_cons,List.not_mem_nil,or_false] at hk
  rcases hk with rfl | rfl | rfl | rfl | rfl | rfl | rfl | rfl | rfl | rfl | rfl | rfl <;> omega
 have h0:∀k,w6.heap.size≤k→k ∉ L1.map (·.1)→zbT (L0 ++ L1) k=0:=λk h1 h2=>by
  by_cases e:zbT (L0 ++ L1) k=0
  ·exact e
  ·rcases howk k e with e | e
   ·omega
   ·exact absurd e h2
 have hb57:Below w5.heap.size w5 w':=Zz HB.below hmt (λk e=>by
  rcases e with rfl | rfl | rfl
  ·exact hfr _ (by simp)
  ·exact hfr _ (by simp)
  ·exact hfr _ (by simp))
 let pbk:PB:=⟨nb,qb,ib,il,iw,ta,tb,lb,stb,sm,ab,pb,m1,m2,wb,wr',h,r,sb,sr⟩
 have ht:Gy (zbT (L0 ++ L1)) pbk:=⟨hown (by simp [L0,L1,pbk]),hown (by simp [L0,L1,pbk]),hown (by simp [L0,L1,pbk]),hown (by simp [L0,L1,pbk]),hown (by simp [L0,L1,pbk]),hown (by simp [L0,L1,pbk]),hown (by simp [L0,L1,pbk]),hown (by simp [L0,L1,pbk]),hown (by simp [L0,L1,pbk]),hown (by simp [L0,L1,pbk]),hown (by simp [L0,L1,pbk]),hown (by simp [L0,L1,pbk]),hown (by simp [L0,L1,pbk]),hown (by simp [L0,L1,pbk]),hown (by simp [L0,L1,pbk]),hown (by simp [L0,L1,pbk]),hown (by simp [L0,L1,pbk]),hown (by simp [L0,L1,pbk]),hown (by simp [L0,L1,pbk]),hown (by simp [L0,L1,pbk]),q5,by show stb≠sm;omega⟩
 have hpe:ZI V (x,y)=[]:=by unfold ZI ZY;rw [h1.ms];simp
 rw [hpe] at hW
 have hm1:=(HB.map1 n64 sv).same (hmt.block m1 (HB.map1 n64 sv).lt (λe=>by
  simp only [List.nodup_cons,List.mem_cons,List.not_mem_nil,or_false,not_or,List.nodup_nil,and_true,not_false_eq_true] at hap
  obtain ⟨a1,a2,a3,a4,a5,a6,a7,a8⟩:=hap
  rcases e with e | e | e
  ·exact a1.2.2.2.2.2.2.1 e.symm
  ·exact a4.2.2.2.1 e.symm
  ·exact a7.1 e.symm))
 have hm2:=(HB.map2 Yg sv).same (hmt.block m2 (HB.map2 Yg sv).lt (λe=>by
  simp only [List.nodup_cons,List.mem_cons,List.not_mem_nil,or_false,not_or,List.nodup_nil,and_true,not_false_eq_true] at hap
  obtain ⟨a1,a2,a3,a4,a5,a6,a7,a8⟩:=hap
  rcases e with e | e | e
  ·exact a1.2.2.2.2.2.2.2 e.symm
  ·exact a4.2.2.2.2 e.symm
  ·exact a7.2 e.symm))
 have hhu:Yf w' (fpH h r []) h r (x,y) []:=YJ HB.hub hmt (λe=>by
  simp only [List.nodup_cons,List.mem_cons,List.not_mem_nil,or_false,not_or,List.nodup_nil,and_true,not_false_eq_true] at hap
  obtain ⟨a1,a2,a3,a4,a5,a6,a7,a8⟩:=hap
  rcases e with e | e | e
  ·exact a1.1 e.symm
  ·exact a2.2.1 e
  ·exact a2.2.2.2.2.1 e) (λe=>by
  simp only [List.nodup_cons,List.mem_cons,List.not_mem_nil,or_false,not_or,List.nodup_nil,and_true,not_false_eq_true] at hap
  obtain ⟨a1,a2,a3,a4,a5,a6,a7,a8⟩:=hap
  rcases e with e | e | e
  ·exact a1.2.1 e.symm
  ·exact a3.1 e
  ·exact a3.2.2.2.1 e)
 have hxr:=hM.xr
 rw [h1.ms] at hxr
 have hmrk:YD (zbT (L0 ++ L1)) (Zb · mi [(x,y)]) w':=λW' hm'=>hxr.mutG hm' (λg off e _ hg=>by
  have g1:=hM.xb g off e (by rw [h1.ms];simp)
  obtain ⟨g',off',e',glt,gc⟩:=hxr.get (by simp)
  rw [e] at e';cases e'
  obtain ⟨c0,-⟩:=gc 0 (by simp)
  simp only [Nat.zero_mul,Nat.add_zero,List.getElem_cons_zero] at c0
  rcases hg with hg | hg
  ·rcases howk g hg with e2 | e2
   ·omega
   ·simp only [L1,List.map_cons,List.map_nil,List.mem_cons,List.not_mem_nil,or_false] at e2
    rcases e2 with e2 | e2 | e2 | e2 | e2 | e2 | e2 | e2 | e2 | e2 | e2 | e2
    ·omega
    ·omega
    ·omega
    ·omega
    ·omega
    ·omega
    ·subst e2
     have:=hM.x.back c0
     match off,this with
     | 0,h=>simp at h
     | 1,h=>simp at h
     | 2,h=>simp at h
     | 3,h=>simp at h
     | 4,h=>simp at h
     | (n+5),h=>simp at h
    ·subst e2;exact hM.mil.ne_cell c0 rfl
    ·subst e2;exact (hM.miw n64 n64).ne_cell c0 rfl
    ·omega
    ·omega
    ·omega
  ·omega)
 have hFix:Fix (zbT (L0 ++ L1)) pbk x y i tl mc V A As At mi (max bd.tmo 1) w':=⟨λk hk=>by
  rcases howk k hk with e | e
  ·omega
  ·exact hlt1 k e,λW' hm'=>hV5.ext (Zz hb57 hm' (λk e=>by
   rcases e with e | e
   ·exact hge k e
   ·have:=hb57.size;omega)),λW' hm'=>hM.kr _ (λk e=>by
   rcases e with e | e
   ·rcases howk k e with e | e
    ·omega
    ·exact hkt k e
   ·have:=hM.t.lt;omega) W' hm',λW' hm'=>hKs _ (λk e=>by
   rcases e with e | e
   ·rcases howk k e with e | e
    ·omega
    ·rcases hkl k e with e | e
     ·omega
     ·exact .inr e
   ·have:=hS.lt;omega) W' hm',hmrk,hM.t,hm1,hm2,hW,hhu,hSe⟩
 have hms:=congrArg List.length h1.ms
 have hls:=congrArg List.length h1.ls
 have hds:=congrArg List.length h1.ds
 simp only [List.length_cons,List.length_nil,Nat.zero_add] at hms hls hds
 rw [hms,hls,hds] at hN hE
 have hX:=hM.x
 rw [hms] at hX
 refine ⟨zbT (L0 ++ L1),pbk,tl,mc,A,As,At,mi,max bd.tmo 1,_,ev,A',rfl,ht,⟨⟨rfl,rfl,rfl,rfl,rfl,rfl,rfl,λj hj=>?_⟩,rfl,rfl,rfl,rfl,rfl,rfl,rfl,rfl,rfl,rfl,rfl,rfl,rfl,rfl,rfl,rfl,rfl,rfl,rfl,rfl⟩,rfl,rfl,rfl,⟨hFix,hN,hM.q,hX,hM.mil,hM.miw KQ sv,hM.mta,hL,⟨_,_,_,_,_,_,_,_,hS⟩,hsm,⟨0,0,hA⟩,⟨0,0,_,_,_,_,_,_,_,_,hP⟩⟩,λW' hm'=>?_,λo off e hne=>?_,hE.mono (by omega),λg hg=>?_,hEs.r,λk hk=>by have:=hge k hk;omega,hb5.trans (hb57.mono hz5)⟩
 ·match j,hj with
  | 0,_=>rfl
  | 1,_=>rfl
  | 2,_=>rfl
  | 3,_=>rfl
  | 4,_=>rfl
  | 5,_=>rfl
  | 6,_=>rfl
  | 7,_=>rfl
  | 8,_=>rfl
  | 9,_=>rfl
  | 10,_=>rfl
  | 11,_=>rfl
  | 12,_=>rfl
  | 13,_=>rfl
  | 14,_=>rfl
  | 15,_=>rfl
  | (n+16),h=>exact absurd h (by omega)
 ·refine hM.mtl.same (hm'.block _ hM.mtl.lt (λe=>?_))
  rcases e with e | e
  ·refine e (h0 tl (by omega) (λe2=>?_))
   simp only [L1,List.map_cons,List.map_nil,List.mem_cons,List.not_mem_nil,or_false] at e2
   rcases e2 with e2 | e2 | e2 | e2 | e2 | e2 | e2 | e2 | e2 | e2 | e2 | e2 <;> omega
  ·have:=hM.mtl.lt;omega
 ·show o≠pb
  have hd:=hV5.ds
  obtain ⟨o',off',e',g1,-⟩:=hd.get (List.length_pos_iff.2 hne)
  rw [e] at e';cases e'
  omega
 ·have g1:=hEg g hg
  have g2:=(hE.blk hg).2
  refine h0 g (by omega) (λe2=>?_)
  simp only [L1,List.map_cons,List.map_nil,List.mem_cons,List.not_mem_nil,or_false] at e2
  rcases e2 with e2 | e2 | e2 | e2 | e2 | e2 | e2 | e2 | e2 | e2 | e2 | e2
  all_goals first | omega | skip
  obtain ⟨g',c',e3,-,-,g3⟩:=hE.at (i:=0) rfl
  rw [e3] at hg
  have g4:g'=g:=by simpa [Value.ownBlock] using hg
  subst g4
  exact hW.map.ne_cell (g3 0 _ rfl) e2
section
variable {own:Nat→Nat} {b:PB} {x y T v:Int} {i tl mc:Nat} {V:Zs} {A As At:VAd} {ma:Option Addr} {bd:Bnd} {cs cz:List Value} {w w':World} {n st:Int}
theorem TSn.o (S:TSn own b x y i tl mc V A As At ma T v bd n st cz w) (t:Gy own b) (hm:Zl own [1] w w') (hB:Zc w' b.nb 98 cz):TSn own b x y i tl mc V A As At ma T v bd n st cz w':=by
 obtain ⟨ev,ea,ec,e1,e2,e3,e4⟩:=S.E
 obtain ⟨qa,qc,hq⟩:=S.Q
 obtain ⟨la,k,lc,hk,hl⟩:=S.L
 obtain ⟨ld,m0,m1,hp⟩:=S.p
 exact ⟨S.F.o t hm (by simp),S.np,S.c7,S.c41,hB,⟨ev,ea,ec,e1,e2.o0 e3 hm (by simp),e3,e4.o hm (by simp)⟩,⟨qa,qc,hq.o hm t.qb (by simp)⟩,S.X.o hm t.xb (by simp),S.il.o hm t.il (by simp),S.iw.o hm t.iw (by simp),S.ta.o hm t.ta (by simp),⟨la,k,lc,hk,hl.o hm t.lb (by simp)⟩,⟨ld,m0,m1,hp.o hm t.pb (by simp)⟩,S.tm.o hm (by simp)⟩
theorem rest_ts (E:Env own b x y i V A bd cs) (R:zaO own b x y i tl mc V A As At ma T v cs w) (c7:cs[7]?=some (.int .i64 0)) (c41:cs[41]?=some (.int .u64 0)) (tm:YD own (Zj · tl kiI n64 ([]:List (Int × Nat))) w):∃cz,TSn own b x y i tl mc V A As At ma T v bd 0 0 cz w:=by
 obtain ⟨ev,ea,ec,e1,e2,e3,e4⟩:=R.N
 exact ⟨cs.set 48 ev,R.F,E.n.put 48 ev (.inr (.inr rfl)),by rw [List.getElem?_set_ne (by decide)];exact c7,by rw [List.getElem?_set_ne (by decide)];exact c41,e4,⟨ev,ea,ec,List.getElem?_set_self (List.getElem?_eq_some_iff.1 E.n48).1,e1,e2,e3⟩,R.Q,R.X,R.il,R.iw,R.ta,R.L,R.p,tm⟩
theorem nOut1 (E:Env own b x y i V A bd cs) (S:TSn own b x y i tl mc V A As At ma T v bd n st cz w):Calls Tryz.prog 21 #[.pointer (some ⟨b.nb,0,none⟩)] w λe w'=>e=.returned (.slice none 0 0)∧TSn own b x y i tl mc V A As At ma T v bd n st cz w'∧Mut (λk=>own k≠0∨w.heap.size≤k) w w':=by
 refine (zcw S.B S.np.c8 S.np.c47 S.F.hu).mono λe w' ⟨h1,h2,h3⟩=>?_
 rw [Ff S.np.c47] at h3
 have hm:Zl own [1] w w':=Zl.only h2 E.t.nb (by simp)
 exact ⟨h1,S.o E.t hm h3,hm.n (by simp)⟩
theorem nPoll1 (t:Gy own b) (S:TSn own b x y i tl mc V A As At ma T v bd n st cz w):Calls Tryz.prog 11 #[.pointer (some ⟨b.nb,0,none⟩)] w λe w'=>∃g c ea ec,e=.returned (.slice (some ⟨g,0,none⟩) 1 c)∧(∀j u,([.int .i64 2,.int .u64 0,.slice none 0 0,.slice none 0 0,.slice none 0 0,.int .u16 x,.int .u32 y,.int .u64 1,.slice ea 1 ec]:List Value)[j]?=some u→w'.cell? ⟨g,j,none⟩=some u)∧Zg w' ea [109]∧g<w'.heap.size∧Mut (λk=>k=b.nb) w w':=by
 obtain ⟨ev,ea,ec,e1,e2,e3,e4⟩:=S.E
 obtain ⟨g,c,rfl,-,hg,hc⟩:=e2.at (i:=0) rfl
 refine (zbG S.B e1).mono λe w' ⟨h1,h2,h3⟩=>?_
 have hgn:own g=0:=e3 g (by simp [Value.ownBlock])
 have hne:g≠b.nb:=λe=>by rw [e,t.nb] at hgn;cases hgn
 have hm:Zl own [1] w w':=Zl.only h2 t.nb (by simp)
 exact ⟨g,c,ea,ec,h1,λj u hj=>by
  have:=hc j u hj
  rw [Nat.zero_mul,Nat.zero_add] at this
  exact (h2.cell (p:=⟨g,j,none⟩) hg hne).trans this,(e4.o hm (by simp)).now,Nat.lt_of_lt_of_le hg h2.size,h2⟩
end
def v27:Zs:=⟨1,[(0,1)],[[(0,1)]],[(0,1)]⟩
def bd27:Bnd:=⟨1,2,9⟩
theorem first27:GK [(0,1)] bd27=(v27,0):=by kernel_rfl
theorem one27:V1 v27 0 1 1:=⟨rfl,rfl,rfl,rfl,⟨by decide,by decide,by decide,by decide⟩,by rfl,by decide⟩
theorem wf27:zdr v27:=by
 have hp:XC [((0:Int),(1:Int))]:=by
  intro p hp
  simp at hp;subst hp
  exact ⟨by decide,by decide,by decide,by decide⟩
 exact ⟨by decide,hp,by intro l hl;simp [v27] at hl;subst hl;exact hp,hp⟩
theorem zdL:KA v27:=⟨wf27,by intro l hl;simp [v27] at hl;subst hl;decide,by decide,by decide,by decide⟩
theorem fit27:FitV v27 1:=⟨rfl,by decide,by decide,by decide,by intro l hl;simp [v27] at hl;subst hl;decide⟩
theorem bok27:zem bd27:=⟨by decide,by decide⟩
theorem byte109 (w:World) (fr:Nat × Nat):Zg (w.alloc (.cells #[.int .u8 109] 5 fr)) (some ⟨w.heap.size,0,none⟩) [109] :=
 .inr ⟨w.heap.size,0,rfl,by simp,λi hi=>by
  have h0:i=0:=by simpa using hi
  subst h0
  rw [World.cell?_alloc_mark];rfl⟩
section
variable {own:Nat→Nat} {b:PB} {x y T v st:Int} {i tl mc:Nat} {V:Zs} {A As At:VAd} {ma:Option Addr} {bd:Bnd} {cs cz:List Value} {w:World}
theorem nTickK {n:Int} (hn:n=0∨n=1∨n=2∨n=3∨n=4) (E:Env own b x y i V A bd cs) (S:TSn own b x y i tl mc V A As At ma T v bd n st cz w) (hst:max st 1=1) :
  Calls Tryz.prog 20 #[.pointer (some ⟨b.nb,0,none⟩)] w λe w'=>e=.returned (.tuple #[])∧(∃m cz',m=n+1∧TSn own b x y i tl mc V A As At ma T v bd m 1 cz' w')∧Mut (λk=>own k≠0∨w.heap.size≤k) w w':=by
 rcases hn with rfl | rfl | rfl | rfl | rfl
 ·exact (nTick0 E S hst).mono λe w' ⟨h1,h2,h3⟩=>⟨h1,⟨_,_,by decide,h2⟩,h3⟩
 ·exact (nTick1 E S hst).mono λe w' ⟨h1,h2,h3⟩=>⟨h1,⟨_,_,by decide,h2⟩,h3⟩
 ·exact (nTick2 E S hst).mono λe w' ⟨h1,h2,h3⟩=>⟨h1,⟨_,_,by decide,h2⟩,h3⟩
 ·exact (nTick3 E S hst).mono λe w' ⟨h1,h2,h3⟩=>⟨h1,⟨_,_,by decide,h2⟩,h3⟩
 ·exact (nTick4 E S hst).mono λe w' ⟨h1,h2,h3⟩=>⟨h1,⟨_,_,by decide,h2⟩,h3⟩
end
theorem zc8 {own:Nat→Nat} {w:World} {g:Nat} {L:List Value} (hc:∀j u,L[j]?=some u→w.cell? ⟨g,j,none⟩=some u) (ho:own g=0) (hg:g<w.heap.size):YD own (λW=>∀j u,L[j]?=some u→W.cell? ⟨g,j,none⟩=some u) w:=λw' hm j u hj=>(hm.cell (p:=⟨g,j,none⟩) hg (λe=>by
 rcases e with e | e
 ·exact e ho
 ·simp only at e;omega)).trans (hc j u hj)
theorem rowOne (w:World) (ty:TypeId) {W:World} {n:Nat} {cs:List Value} (hW:W=w.alloc (.cells cs.toArray ty)) (h:n=w.heap.size):W.rangeAt n 0 cs:=λj v hj=>by
 subst hW h
 rw [Nat.zero_add]
 exact (Zc.made w ty cs).cell hj
theorem infoPidA (v0 v1:Value):(Tryz.prog.info? 25).map (·.size)=some [v0,v1].length:=by kernel_rfl
theorem infoBdsA (v0 v1 v2:Value):(Tryz.prog.info? 28).map (·.size)=some [v0,v1,v2].length:=by kernel_rfl
theorem pick0_27 (w:World):Calls Tryz.prog 39 #[.int .i64 0,.int .i64 16] w λe w'=>e=.returned (.int .i64 0)∧w'=w:=by
 go_enter Tryz.func39,Tryz.ntmps39
 go_wp2_with fail
 go_ret
 exact ⟨rfl,rfl⟩
theorem at0_27 (w:World):Calls Tryz.prog 17 #[.int .i64 0] w λe w'=>e=.returned (.agg #[.int .u16 0,.int .u32 1])∧Below w.heap.size w w':=by
 go_enter Tryz.func17,Tryz.ntmps17
 go_wp2_with (go_at_call 39;refine (pick0_27 _).mono ?_;rintro e w2 ⟨rfl,rfl⟩)
 exact bodyPost_ret (v:=.agg #[.int .u16 0,.int .u32 1]) (Yv (b:=w.heap.size) (o:=0) (cs:=[.int .u16 0,.int .u32 1]) rfl _ _ rfl (rowOne w 25 rfl rfl) Tryz.underlying25 rfl (infoPidA _ _)) rfl ⟨rfl,bra⟩
theorem bounds27 (w:World):Calls Tryz.prog 18 #[] w λe w'=>e=.returned (.agg #[.int .i64 1,.int .i64 2,.int .i64 9])∧Below w.heap.size w w':=by
 go_enter Tryz.func18,Tryz.ntmps18
 go_wp2_with fail
 exact bodyPost_ret (v:=.agg #[.int .i64 1,.int .i64 2,.int .i64 9]) (Yv (b:=w.heap.size) (o:=0) (cs:=[.int .i64 1,.int .i64 2,.int .i64 9]) rfl _ _ rfl (rowOne w 28 rfl rfl) Tryz.underlying28 rfl (infoBdsA _ _ _)) rfl ⟨rfl,bra⟩
set_option maxRecDepth 100000 in
set_option maxHeartbeats 12800000 in
theorem zbl (w:World):Calls Tryz.prog 7 #[] w λe w'=>e=.returned (.bool true)∧Below w.heap.size w w':=by
 go_enter Tryz.func7,Tryz.ntmps7
 go_wp2_with fail
 refine (at0_27 w).mono ?_
 rintro e w1 ⟨rfl,hb1⟩
 go_wp2_with fail
 refine (at0_27 w1).mono ?_
 rintro e w2 ⟨rfl,hb2⟩
 obtain ⟨w3,hw3⟩:∃z,w2.alloc (.cells #[.int .u16 0,.int .u32 1] 25)=z:=⟨_,rfl⟩
 have hb3:Below w2.heap.size w2 w3:=by rw [←hw3];exact bra
 have hr3:Zb w3 (some ⟨w2.heap.size,0,none⟩) [(0,1)]:=by rw [←hw3];exact Zb.one w2 0 1
 go_wp2_with fail
 try rw [hw3]
 clear hw3
 refine (bounds27 w3).mono ?_
 rintro e w4 ⟨rfl,hb4⟩
 have hb04:Below w.heap.size w w4:=hb1.trans ((hb2.trans ((hb3.trans (hb4.mono hb3.size)).mono hb2.size)).mono hb1.size)
 have HB4:=hid hb04
 have CF:Hid (Calls Tryz.prog 8 #[.agg #[.int .u16 0,.int .u32 1],.slice (some ⟨w2.heap.size,0,none⟩) 1 1,.agg #[.int .i64 1,.int .i64 2,.int .i64 9]] w4 λe w'=>∃nb,e=.returned (.pointer (some ⟨nb,0,none⟩))∧zdh w4 w' v27 1 0 1 bd27.least bd27.most bd27.tmo nb):=hid (zcY (b:=bd27) (l:=[(0,1)]) (hid first27) (hid rfl) (by decide) (hr3.ext hb4) (λp h=>by simp at h;subst h;exact ⟨by decide,by decide,by decide,by decide⟩) bok27 fit27 zdL (by decide))
 clear hb1 hb2 hb3 hb4 hr3 hb04
 go_wp2_with fail
 refine CF.out.mono ?_
 rintro e w5 ⟨nb,rfl,hF⟩
 obtain ⟨own,b,tl,mc,A,As,At,ma,T,cs,ev,A',rfl,ht,hN,c7,c41,c48,hI,htm,hvd,hE,hEg,-,hge,hb5⟩:=(one_of one27 hF).all
 obtain ⟨g,gc,rfl,-,hgl,hgc⟩:=hE.at (i:=0) rfl
 have hg0:own g=0:=hEg g (by simp [Value.ownBlock])
 have HE:Hid (Env own b 0 1 1 v27 A bd27 (cs.set 48 (.slice none 0 0))):=hid ⟨ht,one27,zdL,by decide,by kernel_rfl,by decide,by kernel_rfl,⟨by decide,by decide,by decide,by decide⟩,λo off e=>hvd o off e (by decide),hN.put 48 _ (.inr (.inr rfl)),List.getElem?_set_self (List.getElem?_eq_some_iff.1 c48).1⟩
 have HC7:Hid ((cs.set 48 (.slice none 0 0))[7]?=some (.int .i64 0)):=hid (by rw [List.getElem?_set_ne (by decide)];exact c7)
 have HC41:Hid ((cs.set 48 (.slice none 0 0))[41]?=some (.int .u64 0)):=hid (by rw [List.getElem?_set_ne (by decide)];exact c41)
 have HK5:Hid (YD own (λW=>∀j u,([.int .i64 1,.int .u64 1]:List Value)[j]?=some u→W.cell? ⟨g,j,none⟩=some u) w5):=hid (zc8 (λj u hj=>by
  have h:=hgc j u (by
   match j,hj with
   | 0,hj=>exact hj
   | 1,hj=>exact hj
   | (n+2),hj=>simp at hj)
  rw [Nat.zero_mul,Nat.zero_add] at h
  exact h) hg0 hgl)
 have HGE:=hid hge
 have HI5:=hid hI
 have HTM5:=hid htm
 have HB5:Hid (Below w.heap.size w w5):=hid (HB4.out.trans (hb5.mono HB4.out.size))
 have HZ4:Hid (w.heap.size≤w4.heap.size):=hid HB4.out.size
 have CP:=hid (zbG hI.B c48)
 clear CF hF hN c7 c41 c48 hI htm hvd hE hEg hge hb5 hgc hg0 hgl HB4
 go_wp2_with fail
 refine CP.out.mono ?_
 rintro e w6 ⟨rfl,hm6,hx6⟩
 have HT:Hid (Gy own b):=hid ht
 have HM6:Hid (Zl own [1] w5 w6):=hid (Zl.only hm6 ht.nb (by simp))
 have HI6:=hid (HI5.out.o ht HM6.out hx6)
 have HK6:=hid (HK5.out.o HM6.out (by simp))
 have HTM6:=hid (HTM5.out.o HM6.out (by simp))
 have HN6:Hid (Below w.heap.size w w6):=hid (Zz HB5.out hm6 (λk e=>by have h1:=HGE.out k (by rw [e,ht.nb];decide);have h2:=HZ4.out;omega))
 clear CP hm6 hx6 HI5 HK5 HTM5 ht HM6
 obtain ⟨w7,hw7⟩:∃z,w6.alloc (.cells #[.int .u8 109] 5 (1,2))=z:=⟨_,rfl⟩
 have hb7:Below w6.heap.size w6 w7:=by rw [←hw7];exact bra
 have hr7:Zg w7 (some ⟨w6.heap.size,0,none⟩) [109]:=by rw [←hw7];exact byte109 w6 _
 have hz7:w6.heap.size<w7.heap.size:=by rw [←hw7];simp
 have hcv:(convert 46 46 (.slice (some ⟨w6.heap.size,0,none⟩) 1 1)).run Tryz.prog (w6.alloc (.cells #[.int .u8 109] 5))=.ok (.slice (some ⟨w6.heap.size,0,none⟩) 1 1) w7:=by
  rw [←hw7]
  exact Go.Joins.run_convert_bytes_const_at w6 46 5 #[.int .u8 109] 1 1 w6.heap.size rfl Tryz.underlying46 Tryz.underlying5
 have HI7:=hid (HI6.out.o HT.out (Zl.below hb7) (HI6.out.B.ext hb7))
 have HK7:=hid (HK6.out.o (l:=[]) (Zl.below hb7) (by simp))
 have HTM7:=hid (HTM6.out.o (l:=[]) (Zl.below hb7) (by simp))
 have HN7:Hid (Below w.heap.size w w7):=hid (HN6.out.trans (hb7.mono HN6.out.size))
 have CS:=hid (nSendOne (dc:=1) HE.out HI7.out hr7 (λo off e=>by
  cases e
  refine ⟨?_,hz7⟩
  by_cases e:own w6.heap.size=0
  ·exact e
  ·have:=HI6.out.F.lt _ e;omega))
 clear hw7 hr7 hb7 HI6 HK6 HTM6
 go_wp2_with fail
 refine CS.out.mono ?_
 rintro e w8 ⟨rfl,hR8,hm8⟩
 have HK8:=hid (HK7.out.m hm8)
 have HTM8:=hid (HTM7.out.m hm8)
 have HN8:Hid (Below w.heap.size w w8):=hid (Zz HN7.out hm8 (λk e=>by
  have h2:=HZ4.out
  have h3:=HN7.out.size
  rcases e with e | e
  ·have h1:=HGE.out k e;omega
  ·omega))
 obtain ⟨cz,hS8⟩:=rest_ts HE.out hR8 HC7.out HC41.out HTM8.out
 have HS8:=hid hS8
 clear CS hcv hz7 hR8 hm8 hS8 HI7 HK7 HTM7 HN6 HN7 HTM8
 go_wp2_with fail
 go_loopw [5] (λiv wr=>∃(k:Nat) (st:Int) (cz:List Value),k≤5∧iv=.int .i64 k∧max st 1=1∧Hid (TSn own b 0 1 1 tl mc v27 A As At ma T ((1:Nat):Int) bd27 k st cz wr)∧Hid (Mut (λk=>own k≠0∨w8.heap.size≤k) w8 wr)) (λiv _=>5 - (intOf iv).toNat)
 case atStart=>exact ⟨0,0,cz,by decide,rfl,by decide,HS8,hid (Mut.refl _ _)⟩
 case round =>
  obtain ⟨k,st,cz,hk,rfl,hst,HS,HM⟩:=hrel
  by_cases h5:k<5
  ·have CT:=hid (nTickK (by omega) HE.out HS.out hst)
   have t0:decide ((k:Int)<5)=true:=decide_eq_true (by omega)
   have H5:=hid h5
   clear hst h5
   go_wp2_with fail
   refine CT.out.mono ?_
   rintro e w9 ⟨rfl,⟨m,cz',hm,hS9⟩,hm9⟩
   have hm':m=((k+1:Nat):Int):=by omega
   rw [hm'] at hS9
   have HM9:Hid (Mut (λk=>own k≠0∨w8.heap.size≤k) w8 w9):=hid (HM.out.trans (hm9.mono λk _ e=>e.imp id (Nat.le_trans HM.out.size)))
   have CO:=hid (nOut1 HE.out hS9)
   clear CT t0 hm hm' hS9 hm9
   go_wp2_with fail
   refine CO.out.mono ?_
   rintro e w10 ⟨rfl,hS10,hm10⟩
   have HM10:Hid (Mut (λk=>own k≠0∨w8.heap.size≤k) w8 w10):=hid (HM9.out.trans (hm10.mono λk _ e=>e.imp id (Nat.le_trans HM9.out.size)))
   have HS10:=hid hS10
   have hk1:k+1≤5:=H5.out
   clear CO hS10 hm10
   go_wp2_with fail
   go_roundw
   case rel=>exact ⟨k+1,1,cz',hk1,by go_num,by decide,HS10,HM10⟩
   case measure=>have:=H5.out;simp [intOf];omega
  ·have t0:decide ((k:Int)<5)=false:=decide_eq_false (by omega)
   have CE:=hid (nPoll1 HT.out HS.out)
   clear hst h5
   go_wp2_with fail
   refine CE.out.mono ?_
   rintro e wz ⟨g2,c2,ea,ec,rfl,hc2,hbr,hg2,hmz⟩
   have hKz:=(HK8.out.m HM.out).m (hmz.mono λk _ e=>.inl (by rw [e,HT.out.nb];decide))
   have a0:=hKz.now 0 _ rfl
   have a1:=hKz.now 1 _ rfl
   have b0:=hc2 0 _ rfl
   have b8:=hc2 8 _ rfl
   have hcv2:(convert 46 9 (.slice ea 1 ec)).run Tryz.prog wz=.ok (.string ⟨#[109]⟩) wz:=Jn (s:=[109]) hbr rfl
   have HBZ:Hid (Below w.heap.size w wz):=hid (Zz (Zz HN8.out HM.out (λk e=>by
    have h2:=HZ4.out
    have h3:=HN8.out.size
    rcases e with e | e
    ·have h1:=HGE.out k e;omega
    ·omega)) hmz (λk e=>by
    have h2:=HZ4.out
    have h1:=HGE.out k (by rw [e,HT.out.nb];decide);omega))
   clear CE hKz hc2 hbr hg2 hmz t0
   go_wp2_with fail
   go_ret
   exact ⟨rfl,HBZ.out⟩
theorem sameZero (w:World):Calls Tryz.prog 15 #[.agg #[.int .u64 0,.slice none 0 0,.slice none 0 0,.slice none 0 0],.agg #[.int .u64 0,.slice none 0 0,.slice none 0 0,.slice none 0 0]] w λe w'=>e=.returned (.bool true)∧Below w.heap.size w w':=by
 have hA:Zt w none none none (⟨0,[],[],[]⟩:Zs):=⟨.inl rfl,.inl rfl,.inl rfl,by decide,by decide,by decide,by simp⟩
 have h:=za5 (A:=(⟨0,[],[],[]⟩:Zs)) (B:=(⟨0,[],[],[]⟩:Zs)) (cm:=0) (cl:=0) (cd:=0) (em:=0) (el:=0) (ed:=0) (hA:=hA) (hB:=hA)
 exact h
theorem eqFour (W:World):(Op.equalIn 10000 60 (.agg #[.int .i64 0,.int .i64 0,.int .i64 0,.int .i64 0]) (.agg #[.int .i64 0,.int .i64 0,.int .i64 0,.int .i64 0])).run Tryz.prog W=.ok true W:=by kernel_rfl
set_option maxRecDepth 100000 in
set_option maxHeartbeats 6400000 in
theorem zaK {W:World} {a:Option Addr} {c:Nat} {ys:List Nat} (hrow:Zg W a ys) (hby:∀b∈ys,b<256) (hcp:ys.length≤c) (hln:ys.length≤140737488355328) :
  Calls Tryz.prog 6 #[.slice a ys.length c] W λe w'=>e=.returned (.bool true)∧Below W.heap.size W w':=by
 obtain ⟨n,hn⟩:∃n,ys.length=n:=⟨_,rfl⟩
 have CA:=hid (zdS (w:=W) (c:=c) (hid hn) (by omega) (by omega) hby hrow)
 rw [hn]
 clear hn hrow hby hcp hln
 go_enter Tryz.func6,Tryz.ntmps6
 go_wp2_with fail
 refine (sendNil a n c W).mono ?_
 rintro e w1 ⟨rfl,rfl⟩
 rename World=>W
 go_wp2_with fail
 refine (tickNil W).mono ?_
 rintro e w1 ⟨rfl,rfl⟩
 rename World=>W
 go_wp2_with fail
 refine (leaveNil W).mono ?_
 rintro e w1 ⟨rfl,rfl⟩
 rename World=>W
 go_wp2_with fail
 refine CA.out.mono ?_
 rintro e w1 ⟨rfl,hb1⟩
 clear CA
 go_wp2_with fail
 refine (outNilN w1).mono ?_
 rintro e w2 ⟨rfl,rfl⟩
 rename World=>w1
 go_wp2_with fail
 refine (pollNil w1).mono ?_
 rintro e w2 ⟨rfl,rfl⟩
 rename World=>w1
 go_wp2_with fail
 refine (placeNil w1).mono ?_
 rintro e w2 ⟨rfl,rfl⟩
 rename World=>w1
 go_wp2_with fail
 refine (viewNil w1).mono ?_
 rintro e w3 ⟨rfl,hb3⟩
 go_wp2_with fail
 refine (sameZero w3).mono ?_
 rintro e w4 ⟨rfl,hb4⟩
 go_wp2_with fail
 refine (zcs w4).mono ?_
 rintro e w2 ⟨rfl,rfl⟩
 rename World=>w4
 go_wp2_with fail
 refine (zbA w4).mono ?_
 rintro e w2 ⟨rfl,rfl⟩
 rename World=>w4
 go_wp2_with fail
 refine (sizesNil w4).mono ?_
 rintro e w5 ⟨rfl,hb5⟩
 have q4:=eqFour w5
 go_wp2_with fail
 refine (zbl w5).mono ?_
 rintro e w6 ⟨rfl,hb6⟩
 go_wp2_with fail
 go_ret
 have h3:=hb1.trans (hb3.mono hb1.size)
 have h4:=h3.trans (hb4.mono h3.size)
 have h5:=h4.trans (hb5.mono h4.size)
 exact ⟨rfl,h5.trans (hb6.mono h5.size)⟩
end Go.Proofs.YtcdpaflmofljaaaGreat
namespace Go.Proofs.YtcdpaflmofljaaaGreat
open Go.RowKit Go.Deep Go.Joins Go.ChangeShapes
section
variable {H:Type} {enc:TypeId × Value→H} {w:World}
theorem bytesU8Z:Tryz.prog.bytesOf 5=1:=by kernel_rfl
theorem zcp {a:Option Addr} {n c:Nat} {d:DataW H} {p:List MemPlace} (h:DataW.Trod enc Tryz.prog w 0 (λ_=>true) true 46 (.slice a n c) d p) (hs:Sz 46 d):n≤140737488355328∧n≤c:=by
 obtain ⟨fuel,hf⟩:=h
 rcases Go.Deep.open_slice (x:=(d,p)) Tryz.underlying46 (by simpa [Value.cells] using hf) with ⟨hv,_⟩ | ⟨a,len,cap,m,k,D,Pl,hv,_,hl,hm,hmm,hx,hel⟩
 ·cases hv;exact ⟨by omega,Nat.le_refl _⟩
 ·cases hv
  simp only [if_true] at hmm
  subst hmm
  obtain rfl:=(Prod.mk.inj hx).1
  obtain ⟨hw,_⟩:=hs.slice Tryz.underlying46
  rw [bytesU8Z] at hw
  simp only [List.length_map,List.length_range] at hw
  exact ⟨by unfold reachBytes at hw;omega,hl⟩
set_option maxRecDepth 100000 in
theorem za4 {base:Nat} {v:Value} {d:DataW H} {p:List MemPlace} (hv:Value.okWide Tryz.prog w .any base 46 v) (h:DataW.Trod enc Tryz.prog w 0 (λ_=>true) true 46 v d p) (hs:Sz 46 d) :
  ∃(a:Option Addr) (c:Nat) (bs:List Nat),v=.slice a bs.length c∧Zg w a bs∧(∀b∈bs,b<256)∧bs.length≤c∧bs.length≤140737488355328:=by
 have h0:=h
 obtain ⟨a,c,bs,hcs,hr,hb,hc⟩:=zbc hv h
 subst hcs
 exact ⟨a,c,bs,rfl,hr,hb,hc,(zcp h0 hs).1⟩
end
end Go.Proofs.YtcdpaflmofljaaaGreat
