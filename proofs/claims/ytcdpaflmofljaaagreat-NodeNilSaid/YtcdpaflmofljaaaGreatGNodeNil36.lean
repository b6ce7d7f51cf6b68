import Derived.Test.YtcdpaflmofljaaaGreatGNodeNil35
/- Parts of the proof of NodeNil: NI2. -/
namespace Go.Proofs.YtcdpaflmofljaaaGreat
open Go.RowKit
set_option maxRecDepth 100000 in
set_option maxHeartbeats 12800000 in
theorem EO {V:Zs} {i:Nat} {A:VAd} {w0 w:World} {x y l m t T:Int} {nb h stb pb wb wr sb sr m1 m2:Nat} {led acc c0 c1 c2 c3 c4 p0 p1 p2 p3 p4 p5 p6 p7 p8 p9 p10 p11 p12 p13:Value}
  (hf:FitV V i) (hs:KA V) (hV0:Zt w0 A.am A.al A.ad V) (hb0:Below w0.heap.size w0 w) (hge:w0.heap.size≤nb∧w0.heap.size≤pb∧w0.heap.size≤wb∧w0.heap.size≤sr) (hp:(x,y)∈V.ms)
  (hN:Zc w nb 98 (FF x y l m t 1 (.slice none 0 0) 0 h grp0 led (.pointer (some ⟨stb,0,none⟩)) acc (.pointer (some ⟨pb,0,none⟩)) wb rum0 0 m1 m2 (.slice none 0 0) sb false (.slice none 0 0) (.slice none 0 0)))
  (hS:Zc w stb 247 (stC c0 c1 c2 c3 c4)) (hP:Zc w pb 255 [p0,p1,p2,p3,p4,p5,p6,p7,p8,p9,p10,p11,p12,p13]) (hW:Zq w wb wr T []) (hL:ZP w sb sr [])
  (hd:[nb,stb,pb,wb,wr,sb,sr].Nodup) :
  Calls Tryz.prog 75 #[.pointer (some ⟨nb,0,none⟩),.agg (vcl V i A).toArray,.int .u64 0] w λe w'=>e=.returned (.tuple #[])∧Inst2 w w' V i x y l m t T A nb h stb pb wb sb sr m1 m2 led acc [p0,p1,p2,p3,p4,.int .i64 0,p6,p7,p8,p9,p10,.pointer none,p12,p13]:=by
 have hV:Zt w A.am A.al A.ad V:=hV0.ext hb0
 obtain ⟨am,al,ad,cm,cl,cd⟩:=A
 obtain ⟨n1,e1⟩:∃q,V.ms.length=q:=⟨_,rfl⟩
 obtain ⟨n2,e2⟩:∃q,V.ls.length=q:=⟨_,rfl⟩
 obtain ⟨n3,e3⟩:∃q,V.ds.length=q:=⟨_,rfl⟩
 have hx:∀am al ad cm cl cd,(vcl V i ⟨am,al,ad,cm,cl,cd⟩).toArray=#[.int .u64 i,.slice am n1 cm,.slice al n2 cl,.slice ad n3 cd]:=by intros;unfold vcl;rw [e1,e2,e3]
 obtain ⟨W1,hW1⟩:∃W1,w.alloc (.cells #[.int .u64 i,.slice am n1 cm,.slice al n2 cl,.slice ad n3 cd] 35)=W1:=⟨_,rfl⟩
 have hb1:Below w.heap.size w W1:=by rw [←hW1];exact bra
 have hvb:Zc W1 w.heap.size 35 [.int .u64 i,.slice am n1 cm,.slice al n2 cl,.slice ad n3 cd]:=by rw [←hW1];exact Zc.made w _ _
 have hz1:W1.heap.size=w.heap.size+1:=by rw [←hW1];simp
 obtain ⟨W2,hW2⟩:∃W2,W1.alloc (.cells #[.int .u64 0,.slice none 0 0,.slice none 0 0,.slice none 0 0] 35)=W2:=⟨_,rfl⟩
 have hb12:Below W1.heap.size W1 W2:=by rw [←hW2];exact bra
 have hb2:Below w.heap.size w W2:=hb1.trans (hb12.mono hb1.size)
 have hwas:Zc W2 W1.heap.size 35 wasC:=by rw [←hW2];exact Zc.made W1 _ _
 have hN1:=hN.ext hb1
 have g0:=hN1.cell (j:=9) rfl
 have g1:=hN1.cell (j:=10) rfl
 have g2:=hN1.cell (j:=11) rfl
 have g3:=hN1.cell (j:=12) rfl
 have HV2:=hid (hV.ext hb2)
 have HV0:=hid hV0
 have HBV:Hid (Below w0.heap.size w0 W2):=hid (hb0.trans (hb2.mono hb0.size))
 have HGE:=hid hge
 have HZ1:=hid hz1
 have HN2:=hid (hN.ext hb2)
 have HS2:=hid (hS.ext hb2)
 have HP2:=hid (hP.ext hb2)
 have HW2:=hid (hW.ext hb2)
 have HL2:=hid (hL.ext hb2)
 have HVB2:=hid (hvb.ext hb12)
 have HWAS:=hid hwas
 have HB2:=hid hb2
 have HZ:Hid (nb<w.heap.size∧stb<w.heap.size∧pb<w.heap.size∧wb<w.heap.size∧wr<w.heap.size∧sb<w.heap.size∧sr<w.heap.size):=hid ⟨hN.lt,hS.lt,hP.lt,hW.lt,hW.map.lt,hL.lt,hL.map.lt⟩
 have HNE:Hid (nb≠pb∧nb≠wb∧nb≠wr∧nb≠sb∧nb≠sr∧pb≠wb∧pb≠wr∧pb≠sb∧pb≠sr∧wb≠sb∧wb≠sr∧wr≠sb∧wr≠sr∧sb≠sr):=hid (by
  simp only [List.nodup_cons,List.mem_cons,List.not_mem_nil,or_false,not_or,List.nodup_nil,and_true,not_false_eq_true] at hd
  omega)
 have HF:=hid hf
 have HSM:=hid hs
 have HX:=hid hx
 have HMEM:=hid hp
 have HE:=hid (And.intro e1 (And.intro e2 e3))
 rw [hx]
 have HX2:=hid hW2
 clear hV0 hb0 hge hW2 hN hS hP hW hL hN1 hV hvb hwas hb1 hb12 hb2 hf hs hd hx hp e1 e2 e3 hz1
 have hne:¬ (w.heap.size=nb):=λe=>by have:=HZ.out.1;omega
 have HS:Hid (∀W,Below W2.heap.size W2 W→Mut (λk=>k=nb) W2 W∧W.cell? ⟨nb,21,none⟩=some (.pointer (some ⟨stb,0,none⟩))∧W.cell? ⟨w.heap.size,0,none⟩=some (.int .u64 i)∧W.cell? ⟨w.heap.size,1,none⟩=some (.slice am n1 cm)∧W.cell? ⟨w.heap.size,2,none⟩=some (.slice al n2 cl)∧W.cell? ⟨w.heap.size,3,none⟩=some (.slice ad n3 cd)):=hid λW hb=>⟨Mut.of_below hb,Zk (HN2.out.cell (j:=21) rfl) hb,Zk (HVB2.out.cell (j:=0) rfl) hb,Zk (HVB2.out.cell (j:=1) rfl) hb,Zk (HVB2.out.cell (j:=2) rfl) hb,Zk (HVB2.out.cell (j:=3) rfl) hb⟩
 have HSF:Hid (∀W0,Below W2.heap.size W2 W0→∀v0 v1 v2 v3 v4 v5 v6 v7 v8 v9 v10,∀W,st11 W0 nb v0 v1 v2 v3 v4 v5 v6 v7 v8 v9 v10=W→Mut (λk=>k=nb) W2 W∧W.cell? ⟨nb,21,none⟩=some (.pointer (some ⟨stb,0,none⟩))∧W.cell? ⟨w.heap.size,0,none⟩=some (.int .u64 i)∧W.cell? ⟨w.heap.size,1,none⟩=some (.slice am n1 cm)∧W.cell? ⟨w.heap.size,2,none⟩=some (.slice al n2 cl)∧W.cell? ⟨w.heap.size,3,none⟩=some (.slice ad n3 cd)):=hid λW0 hb v0 v1 v2 v3 v4 v5 v6 v7 v8 v9 v10 W e=>by
  subst e
  have hm:=(Mut.of_below (F:=λk=>k=nb) hb).trans (FI W0 nb v0 v1 v2 v3 v4 v5 v6 v7 v8 v9 v10)
  have hv:=HVB2.out.mut hm hne
  exact ⟨hm,(zb3 (HN2.out.ext hb) v0 v1 v2 v3 v4 v5 v6 v7 v8 v9 v10).cell (j:=21) rfl,hv.cell (j:=0) rfl,hv.cell (j:=1) rfl,hv.cell (j:=2) rfl,hv.cell (j:=3) rfl⟩
 have HFZ:Hid (∀W,Below W2.heap.size W2 W→∀j,W.frozen? ⟨nb,j,none⟩=false):=hid λW hb=>(HN2.out.ext hb).frozen
 have HCG:Hid (∀W,Below W2.heap.size W2 W→W.cell? ⟨nb,9,none⟩=some (.int .u64 0)∧W.cell? ⟨nb,10,none⟩=some (.slice none 0 0)∧W.cell? ⟨nb,11,none⟩=some (.slice none 0 0)∧W.cell? ⟨nb,12,none⟩=some (.slice none 0 0)∧W.cell? ⟨nb,13,none⟩=some (.int .u64 0)∧W.cell? ⟨nb,14,none⟩=some (.slice none 0 0)∧W.cell? ⟨nb,15,none⟩=some (.pointer none)∧W.cell? ⟨nb,16,none⟩=some (.pointer none)∧W.cell? ⟨nb,17,none⟩=some (.pointer none)∧W.cell? ⟨nb,18,none⟩=some (.pointer none)∧W.cell? ⟨nb,19,none⟩=some (.bool false)):=hid λW hb=>by
  have h:=HN2.out.ext hb
  exact ⟨h.cell (j:=9) rfl,h.cell (j:=10) rfl,h.cell (j:=11) rfl,h.cell (j:=12) rfl,h.cell (j:=13) rfl,h.cell (j:=14) rfl,h.cell (j:=15) rfl,h.cell (j:=16) rfl,h.cell (j:=17) rfl,h.cell (j:=18) rfl,h.cell (j:=19) rfl⟩
 have CB:Hid (∀W,Below W2.heap.size W2 W→Calls Tryz.prog 170 #[.pointer (some ⟨stb,0,none⟩)] W λe w'=>e=.returned (bdA ⟨#[]⟩ ⟨#[]⟩ ⟨#[]⟩ ⟨#[]⟩ ⟨#[]⟩ ⟨#[]⟩ ⟨#[]⟩ ⟨#[]⟩)∧Below W.heap.size W w'):=hid λW hb=>zdq ⟨#[]⟩ ⟨#[]⟩ ⟨#[]⟩ ⟨#[]⟩ ⟨#[]⟩ ⟨#[]⟩ ⟨#[]⟩ ⟨#[]⟩ (HS2.out.ext hb)
 have CK:Hid (∀W,Below W2.heap.size W2 W→Calls Tryz.prog 169 #[bdA ⟨#[]⟩ ⟨#[]⟩ ⟨#[]⟩ ⟨#[]⟩ ⟨#[]⟩ ⟨#[]⟩ ⟨#[]⟩ ⟨#[]⟩] W λe w'=>∃a n c,e=.returned (.slice a n c)∧Below W.heap.size W w'):=hid λW hb=>(pack_any bdOk0 W).mono λe w' ⟨v,h1,h2,h3⟩=>by
  obtain ⟨a,c,rfl,-⟩:=h2.row
  exact ⟨_,_,_,h1,h3⟩
 have CQ:Hid (∀W,Below W2.heap.size W2 W→Calls Tryz.prog 171 #[.int .u64 i] W λe w'=>∃b,e=.returned (.pointer (some ⟨b,0,none⟩))∧Below W.heap.size W w'∧Hid (W.heap.size≤b∧Zc w' b 159 [.int .u64 i,.int .u64 0,.slice none 0 0])):=hid λW hb=>(zan i W).mono λe w' ⟨h1,h2⟩=>⟨_,h1,by rw [h2];exact bra,hid ⟨Nat.le_refl _,by rw [h2];exact Zc.made _ _ _⟩⟩
 have CI:Hid (∀W,Below W2.heap.size W2 W→Calls Tryz.prog 172 #[.agg #[.int .u64 i,.slice am n1 cm,.slice al n2 cl,.slice ad n3 cd]] W λe w'=>∃b,e=.returned (.pointer (some ⟨b,0,none⟩))∧Below W.heap.size W w'∧Hid (∃il iw mi mc,InNew W w' V i b il iw mi mc∧∀g off,mi=some ⟨g,off,none⟩→V.ms≠[]→W.heap.size≤g)):=hid λW hb=>by
  have h:=Fp (A:=⟨am,al,ad,cm,cl,cd⟩) HF.out (HV2.out.ext hb)
  rw [HX.out] at h
  exact h.mono λe w' ⟨b,m1,m2,am,cm,h1,h2,h3⟩=>⟨b,h1,h2.below,hid ⟨_,_,_,_,h2,h3⟩⟩
 have CS:Hid (∀W,Below W2.heap.size W2 W→Calls Tryz.prog 173 #[.agg #[.int .u64 i,.slice am n1 cm,.slice al n2 cl,.slice ad n3 cd]] W λe w'=>∃b,e=.returned (.pointer (some ⟨b,0,none⟩))∧Below W.heap.size W w'∧Hid (∃m1 m2 A',zbq W w' V i b m1 m2 A'∧m1<b∧m2<b∧m1<m2∧∃hi,W.heap.size≤hi∧hi≤m1∧KR W.heap.size hi w' A' V)):=hid λW hb=>by
  have h:=zaj (A:=⟨am,al,ad,cm,cl,cd⟩) HF.out (HV2.out.ext hb)
  rw [HX.out] at h
  exact h.mono λe w' ⟨b,m1,m2,A',h1,h2,h3⟩=>⟨b,h1,h2.below,hid ⟨_,_,_,h2,h3⟩⟩
 have H0:Below W2.heap.size W2 W2.drew:=(Below.refl _ _).drew
 go_enter Tryz.func75,Tryz.ntmps75
 go_upto_region 2 with fail
 rw [HX2.out]
 clear hW1 g0 g1 g2 g3
 go_cut [30] (λ_ wx=>∃ba bn bc qb ib tb,Hid (Zc wx nb 98 (FF x y l m t 1 (.slice none 0 0) 0 h [.int .u64 i,.slice am n1 cm,.slice al n2 cl,.slice ad n3 cd,.int .u64 0,.slice ba bn bc,.pointer (some ⟨qb,0,none⟩),.pointer (some ⟨ib,0,none⟩),.pointer none,.pointer (some ⟨tb,0,none⟩),.bool false] led (.pointer (some ⟨stb,0,none⟩)) acc (.pointer (some ⟨pb,0,none⟩)) wb rum0 0 m1 m2 (.slice none 0 0) sb false (.slice none 0 0) (.slice none 0 0)))∧Hid (Mut (λk=>k=nb) W2 wx)∧Hid (∃il iw ta tl mi mc At lo hi,Made W2.heap.size wx V i qb ib tb il iw ta tl mi mc At lo hi))
 case first =>
  refine rhd HS.out H0 λhHeld=>?_
  refine tkv 0 (.pointer (some ⟨nb,0,none⟩)) rfl ?_
  refine tkv 1 (.agg #[.int .u64 i,.slice am n1 cm,.slice al n2 cl,.slice ad n3 cd]) rfl ?_
  refine tkv 2 (.int .u64 0) rfl ?_
  refine tkv 3 (.pointer (some ⟨nb,0,none⟩)) rfl ?_
  refine tkv 4 (.pointer (some ⟨nb,0,none⟩)) rfl ?_
  refine tkv 5 (.pointer (some ⟨nb,21,none⟩)) rfl ?_
  refine tkv 6 (.pointer (some ⟨stb,0,none⟩)) rfl ?_
  refine tkv 9 (.pointer (some ⟨w.heap.size,0,none⟩)) rfl ?_
  refine tkv 10 (.int .u64 i) rfl ?_
  refine tkv 12 (.agg #[.int .u64 i,.slice am n1 cm,.slice al n2 cl,.slice ad n3 cd]) rfl ?_
  refine tkv 14 (.agg #[.int .u64 i,.slice am n1 cm,.slice al n2 cl,.slice ad n3 cd]) rfl ?_
  refine rd1 7 rfl λK hK=>?_
  go_simp
  (refine (CB.out _ H0).mono ?_)
  rintro e w6 ⟨rfl,gb6⟩
  have hb6:=H0.trans (gb6.mono H0.size)
  refine hK.out _ _ (HS.out _ hb6) (λhHeld=>?_)
  clear hK K
  try simp only [lay]
  refine rd1 8 rfl λK hK=>?_
  go_simp
  (refine (CK.out _ hb6).mono ?_)
  rintro e w7 ⟨ba,bn,bc,rfl,gb7⟩
  have hb7:=hb6.trans (gb7.mono hb6.size)
  refine hK.out _ _ (HS.out _ hb7) (λhHeld=>?_)
  clear hK K
  try simp only [lay]
  refine rd1 11 rfl λK hK=>?_
  go_simp
  (refine (CQ.out _ hb7).mono ?_)
  rintro e w8 ⟨qb,rfl,gb8,HQ8⟩
  have hb8:=hb7.trans (gb8.mono hb7.size)
  refine hK.out _ _ (HS.out _ hb8) (λhHeld=>?_)
  clear hK K
  try simp only [lay]
  refine rd1 13 rfl λK hK=>?_
  go_simp
  (refine (CI.out _ hb8).mono ?_)
  rintro e w9 ⟨ib,rfl,gb9,HI9⟩
  have hb9:=hb8.trans (gb9.mono hb8.size)
  refine hK.out _ _ (HS.out _ hb9) (λhHeld=>?_)
  clear hK K
  try simp only [lay]
  refine rd1 15 rfl λK hK=>?_
  go_simp
  (refine (CS.out _ hb9).mono ?_)
  rintro e w10 ⟨tb,rfl,gb10,HT⟩
  have hb10:=hb9.trans (gb10.mono hb9.size)
  have fz10:=HFZ.out _ hb10
  obtain ⟨k9,k10,k11,k12,k13,k14,k15,k16,k17,k18,k19⟩:=HCG.out _ hb10
  refine hK.out _ _ (HS.out _ hb10) (λhHeld=>?_)
  clear hK K
  try simp only [lay]
  refine rd1 16 rfl λK hK=>?_
  go_simp
  refine hK.out _ _ (HS.out _ hb10) (λhHeld=>?_)
  clear hK K
  try simp only [lay]
  refine rd1 17 rfl λK hK=>?_
  go_simp
  refine hK.out _ _ (HS.out _ hb10) (λhHeld=>?_)
  clear hK K
  try simp only [lay]
  refine rd1 18 rfl λK hK=>?_
  go_simp
  refine hK.out _ _ (HS.out _ hb10) (λhHeld=>?_)
  clear hK K
  try simp only [lay]
  refine rd1 19 rfl λK hK=>?_
  go_simp
  refine hK.out _ _ (HSF.out _ hb10 _ _ _ _ _ _ _ _ _ _ _ _ rfl) (λhHeld=>?_)
  clear hK K
  try simp only [lay]
  refine dn ?_
  go_wp2_with fail
  go_meet
  refine ⟨ba,bn,bc,qb,ib,tb,hid (zb3 (HN2.out.ext hb10) _ _ _ _ _ _ _ _ _ _ _),hid ((Mut.of_below hb10).trans (FI _ _ _ _ _ _ _ _ _ _ _ _ _)),hid ?_⟩
  obtain ⟨il,iw,mi,mc,hI,hrb⟩:=HI9.out
  obtain ⟨ta,tl,At,hT,hlt1,hlt2,hlt3,hi,h1,h2,hkr⟩:=HT.out
  have hm:=FI w10 nb (.int .u64 i) (.slice am n1 cm) (.slice al n2 cl) (.slice ad n3 cd) (.int .u64 0) (.slice ba bn bc) (.pointer (some ⟨qb,0,none⟩)) (.pointer (some ⟨ib,0,none⟩)) (.pointer none) (.pointer (some ⟨tb,0,none⟩)) (.bool false)
  have hz:=HB2.out.size
  have hzn:=HZ.out.1
  exact ⟨il,iw,ta,tl,mi,mc,At,w9.heap.size,hi,(made_of hb7.size HQ8.out.1 HQ8.out.2 hI hrb gb10 hT hlt1 hlt2 hlt3 h1 h2 hkr).mut hm (λk e=>.inl (by omega))⟩
 case rest =>
  obtain ⟨ba,bn,bc,qb,ib,tb,HN3,HM3,HD3⟩:=hcut
  rename World=>w3
  have HM3S:Hid (W2.heap.size≤w3.heap.size):=hid HM3.out.size
  clear HSF HCG HFZ CB CK CQ CI CS HN2 HS HS2 H0
  have S3:Hid (∀W,Below w3.heap.size w3 W→Below w3.heap.size w3 W∧W.cell? ⟨nb,18,none⟩=some (.pointer (some ⟨tb,0,none⟩))∧W.cell? ⟨nb,0,none⟩=some (.int .u16 x)∧W.cell? ⟨nb,1,none⟩=some (.int .u32 y)):=hid λW hb=>⟨hb,Zk (HN3.out.cell (j:=18) rfl) hb,Zk (HN3.out.cell (j:=0) rfl) hb,Zk (HN3.out.cell (j:=1) rfl) hb⟩
  have C3:Hid (∀W,Below w3.heap.size w3 W→Calls Tryz.prog 132 #[.pointer (some ⟨tb,0,none⟩),.agg #[.int .u16 x,.int .u32 y],.int .u64 0] W λe w'=>e=.returned (.bool false)∧Below w3.heap.size w3 w'):=hid λW hb=>by
   obtain ⟨il,iw,ta,tl,mi,mc,At,lo,hi,hD⟩:=HD3.out
   exact (zaS HF.out.id (hD.t.ext hb) (hD.kr.r.ext hb) (hD.mta.ext hb) x y HMEM.out).mono λe w' ⟨g1,g2⟩=>⟨g1,hb.trans (g2.mono hb.size)⟩
  have H3:Below w3.heap.size w3 w3.drew:=(Below.refl _ _).drew
  go_upto_region 3 with fail
  refine rhd S3.out H3 λhHeld=>?_
  refine tkv 0 (.pointer (some ⟨nb,0,none⟩)) rfl ?_
  refine tkv 1 (.pointer (some ⟨nb,0,none⟩)) rfl ?_
  refine tkv 2 (.pointer (some ⟨nb,9,none⟩)) rfl ?_
  refine tkv 3 (.pointer (some ⟨nb,18,none⟩)) rfl ?_
  refine tkv 4 (.pointer (some ⟨tb,0,none⟩)) rfl ?_
  refine tkv 5 (.pointer (some ⟨nb,0,none⟩)) rfl ?_
  refine tkv 6 (.pointer (some ⟨nb,0,none⟩)) rfl ?_
  refine tkv 7 (.pointer (some ⟨nb,0,none⟩)) rfl ?_
  refine tkv 8 (.agg #[.int .u16 x,.int .u32 y]) rfl ?_
  refine tkv 9 (.int .u64 0) rfl ?_
  refine rd1 10 rfl λK hK=>?_
  go_simp
  (refine (C3.out _ H3).mono ?_)
  rintro e w4 ⟨rfl,hb4⟩
  refine hK.out _ _ (S3.out _ hb4) (λhHeld=>?_)
  clear hK K
  try simp only [lay]
  refine dn ?_
  have HN4:=hid (HN3.out.ext hb4)
  have HM4:Hid (Mut (λk=>k=nb) W2 w4):=hid (HM3.out.trans (Mut.of_below hb4))
  have HQ4:Hid (Mut (λk=>k=nb∨k=pb∨k=wb∨k=sr) w3 w4):=hid (Mut.of_below hb4)
  have C4:=hid (FB (HP2.out.mut HM4.out λe=>HNE.out.1 e.symm))
  have q23:=HN4.out.cell (j:=23) rfl
  clear HN3 HM3 S3 C3 H3 hb4
  go_wp2_with fail
  refine C4.out.mono ?_
  rintro e w5 ⟨rfl,hm5,hp5⟩
  have HQ5:Hid (Mut (λk=>k=nb∨k=pb∨k=wb∨k=sr) w3 w5):=hid (HQ4.out.trans (hm5.mono λk _ e=>.inr (.inl e)))
  have HPB5:=hid hp5
  have HQ5S:Hid (w.heap.size≤w3.heap.size∧w3.heap.size≤w5.heap.size):=hid ⟨Nat.le_trans HB2.out.size HM3S.out,HQ5.out.size⟩
  have HM5:Hid (Mut (λk=>k=nb∨k=pb) W2 w5):=hid ((HM4.out.mono λk _ e=>.inl e).trans (hm5.mono λk _ e=>.inr e))
  have HN5:=hid (HN4.out.mut hm5 HNE.out.1)
  have HW5:=hid (HW2.out.mut HM5.out (λe=>e.elim HNE.out.2.1.symm HNE.out.2.2.2.2.2.1.symm) (λe=>e.elim HNE.out.2.2.1.symm HNE.out.2.2.2.2.2.2.1.symm))
  have HVB5:=hid (HVB2.out.mut HM5.out (λe=>by have h0:=HZ.out;rcases e with e | e <;> omega))
  have HV5:Hid (Zt w5 am al ad V):=hid (HV0.out.ext (Zz HBV.out HM5.out (by have h0:=HGE.out;intro k e;rcases e with rfl | rfl <;> omega)))
  clear HM4 HN4 C4 q23 hm5 hp5 HQ4
  have S5:Hid (∀W,Mut (λk=>k=wb) w5 W→Mut (λk=>k=wb) w5 W∧W.cell? ⟨nb,24,none⟩=some (.pointer (some ⟨wb,0,none⟩))∧W.cell? ⟨nb,0,none⟩=some (.int .u16 x)∧W.cell? ⟨nb,1,none⟩=some (.int .u32 y)∧W.cell? ⟨w.heap.size,0,none⟩=some (.int .u64 i)∧W.cell? ⟨w.heap.size,1,none⟩=some (.slice am n1 cm)∧W.cell? ⟨w.heap.size,2,none⟩=some (.slice al n2 cl)∧W.cell? ⟨w.heap.size,3,none⟩=some (.slice ad n3 cd)):=hid λW hm=>by
   have h1:=HN5.out.mut hm HNE.out.2.1
   have h2:=HVB5.out.mut hm (λe=>by have h0:=HZ.out;omega)
   exact ⟨hm,h1.cell (j:=24) rfl,h1.cell (j:=0) rfl,h1.cell (j:=1) rfl,h2.cell (j:=0) rfl,h2.cell (j:=1) rfl,h2.cell (j:=2) rfl,h2.cell (j:=3) rfl⟩
  obtain ⟨pn,hpn⟩:∃q,(ZI V (x,y)).length=q:=⟨_,rfl⟩
  have HPN:=hid hpn
  clear hpn
  have C5:Hid (∀W,Below w5.heap.size w5 W→Calls Tryz.prog 175 #[.agg #[.int .u64 i,.slice am n1 cm,.slice al n2 cl,.slice ad n3 cd],.agg #[.int .u16 x,.int .u32 y]] W λe w'=>∃a c,e=.returned (.slice a pn c)∧Below w5.heap.size w5 w'∧Hid (Zb w' a (ZI V (x,y)))):=hid λW hb=>by
   have h:=Ki V am al ad cm cl cd x y W (HV5.out.ext hb) HSM.out
   rw [show YM V am al ad cm cl cd=.agg #[.int .u64 i,.slice am n1 cm,.slice al n2 cl,.slice ad n3 cd] by unfold YM;rw [HE.out.1,HE.out.2.1,HE.out.2.2,HF.out.id]] at h
   refine h.mono ?_
   rintro e w' ⟨v,h1,h2,h3⟩
   obtain ⟨a,c,rfl,hr,-⟩:=h2.row
   rw [HPN.out] at h1
   exact ⟨a,c,h1,hb.trans (h3.mono hb.size),hid hr⟩
  have C5b:Hid (∀W a c,Below w5.heap.size w5 W→Hid (Zb W a (ZI V (x,y)))→Calls Tryz.prog 174 #[.pointer (some ⟨wb,0,none⟩),.slice a pn c] W λe w'=>e=.returned (.tuple #[])∧Mut (λk=>k=wb) w5 w'∧Hid (∃r',w5.heap.size≤r'∧Zq w' wb r' T (Xp [] [] (ZI V (x,y))))):=hid λW a c hb hh=>by
   have h:=zcH wb wr T [] a c (ZI V (x,y)) W (by have:=Ka (V:=V) (p:=(x,y));have:=HSM.out.ms;omega) hh.out (HW5.out.ext hb)
   rw [HPN.out] at h
   exact h.mono λe w' ⟨r',g1,g2,g3,g4⟩=>⟨g1,(Mut.of_below hb).trans g4,hid ⟨r',Nat.le_trans hb.size g2,g3⟩⟩
  have H5:Below w5.heap.size w5 w5.drew:=(Below.refl _ _).drew
  go_upto_region 5 with fail
  refine rhd S5.out (Mut.of_below H5) λhHeld=>?_
  refine tkv 0 (.pointer (some ⟨nb,0,none⟩)) rfl ?_
  refine tkv 1 (.pointer (some ⟨nb,0,none⟩)) rfl ?_
  refine tkv 2 (.pointer (some ⟨nb,24,none⟩)) rfl ?_
  refine tkv 3 (.pointer (some ⟨wb,0,none⟩)) rfl ?_
  refine tkv 4 (.agg #[.int .u64 i,.slice am n1 cm,.slice al n2 cl,.slice ad n3 cd]) rfl ?_
  refine tkv 5 (.pointer (some ⟨nb,0,none⟩)) rfl ?_
  refine tkv 6 (.pointer (some ⟨nb,0,none⟩)) rfl ?_
  refine tkv 7 (.pointer (some ⟨nb,0,none⟩)) rfl ?_
  refine tkv 8 (.agg #[.int .u16 x,.int .u32 y]) rfl ?_
  refine rd1 9 rfl λK hK=>?_
  go_simp
  (refine (C5.out _ H5).mono ?_)
  rintro e w6 ⟨pa,pc,rfl,hb6,hh6⟩
  refine hK.out _ _ (S5.out _ (Mut.of_below hb6)) (λhHeld=>?_)
  clear hK K
  try simp only [lay]
  refine rd1 10 rfl λK hK=>?_
  go_simp
  (refine (C5b.out _ _ _ hb6 hh6).mono ?_)
  rintro e w7 ⟨rfl,hm7,hw7⟩
  refine hK.out _ _ (S5.out _ hm7) (λhHeld=>?_)
  clear hK K
  try simp only [lay]
  refine dn ?_
  have HM7:Hid (Mut (λk=>k=nb∨k=pb∨k=wb) W2 w7):=hid ((HM5.out.mono λk _ e=>e.elim .inl λe=>.inr (.inl e)).trans (hm7.mono λk _ e=>.inr (.inr e)))
  have HN7:=hid (HN5.out.mut hm7 HNE.out.2.1)
  have HQ7:Hid (Mut (λk=>k=nb∨k=pb∨k=wb∨k=sr) w3 w7):=hid (HQ5.out.trans (hm7.mono λk _ e=>.inr (.inr (.inl e))))
  have HPB7:=hid (HPB5.out.mut hm7 HNE.out.2.2.2.2.2.1)
  have HWA7:=hid hw7.out
  have q44:=HN7.out.cell (j:=44) rfl
  have fz7:=HN7.out.frozen
  have C6:=λfv W=>JB fv W
  clear S5 C5 C5b H5 hm7 hb6 hh6 HM5 HN5 HW5 HV5 HVB5 HQ5 HPB5 hw7
  go_upto_region 7 with ((go_at_call 176;refine (C6 _ _).mono ?_;rintro e w8 ⟨rfl,rfl⟩))
  obtain ⟨w9,hw9⟩:∃w9,w8.setCell ⟨nb,44,none⟩ (.slice none 0 0)=w9:=⟨_,rfl⟩
  rw [hw9]
  have hm9:Mut (λk=>k=nb) w8 w9:=by rw [←hw9];exact Xk
  have HN9:Hid (Zc w9 nb 98 (FF x y l m t 1 (.slice none 0 0) 0 h [.int .u64 i,.slice am n1 cm,.slice al n2 cl,.slice ad n3 cd,.int .u64 0,.slice ba bn bc,.pointer (some ⟨qb,0,none⟩),.pointer (some ⟨ib,0,none⟩),.pointer none,.pointer (some ⟨tb,0,none⟩),.bool false] led (.pointer (some ⟨stb,0,none⟩)) acc (.pointer (some ⟨pb,0,none⟩)) wb rum0 0 m1 m2 (.slice none 0 0) sb false (.slice none 0 0) (.slice none 0 0))):=hid (by rw [←hw9];exact HN7.out.set (j:=44) (v:=.slice none 0 0))
  have HM9:Hid (Mut (λk=>k=nb∨k=pb∨k=wb) W2 w9):=hid (HM7.out.trans (hm9.mono λk _ e=>.inl e))
  have HQ9:Hid (Mut (λk=>k=nb∨k=pb∨k=wb∨k=sr) w3 w9):=hid (HQ7.out.trans (hm9.mono λk _ e=>.inl e))
  have HPB9:=hid (HPB7.out.mut hm9 HNE.out.1.symm)
  have HWA9:Hid (∃r',w5.heap.size≤r'∧Zq w9 wb r' T (Xp [] [] (ZI V (x,y)))):=hid (by
   obtain ⟨r',h1,h2⟩:=HWA7.out
   exact ⟨r',h1,h2.mut hm9 HNE.out.2.1.symm (λe=>by have h0:=HZ.out;have h3:=HQ5S.out;omega)⟩)
  have HL9:=hid (HL2.out.mut HM9.out (λe=>by rcases e with e | e | e;exact HNE.out.2.2.2.1 e.symm;exact HNE.out.2.2.2.2.2.2.2.1 e.symm;exact HNE.out.2.2.2.2.2.2.2.2.2.1 e.symm) (λe=>by rcases e with e | e | e;exact HNE.out.2.2.2.2.1 e.symm;exact HNE.out.2.2.2.2.2.2.2.2.1 e.symm;exact HNE.out.2.2.2.2.2.2.2.2.2.2.1 e.symm))
  have HVB9:=hid (HVB2.out.mut HM9.out (λe=>by have h0:=HZ.out;rcases e with e | e | e <;> omega))
  have HV9:Hid (Zt w9 am al ad V):=hid (HV0.out.ext (Zz HBV.out HM9.out (by have h0:=HGE.out;intro k e;rcases e with rfl | rfl | rfl <;> omega)))
  clear HM7 HN7 q44 fz7 C6 hm9 hw9 HQ7 HPB7 HWA7
  have S7:Hid (∀W,Mut (λk=>k=sr) w9 W→Mut (λk=>k=sr) w9 W∧W.cell? ⟨nb,45,none⟩=some (.pointer (some ⟨sb,0,none⟩))∧W.cell? ⟨w.heap.size,1,none⟩=some (.slice am n1 cm)):=hid λW hm=>by
   have h1:=HN9.out.mut hm HNE.out.2.2.2.2.1
   have h2:=HVB9.out.mut hm (λe=>by have h0:=HZ.out;omega)
   exact ⟨hm,h1.cell (j:=45) rfl,h2.cell (j:=1) rfl⟩
  have C7:Hid (∀W,Below w9.heap.size w9 W→Calls Tryz.prog 178 #[.pointer (some ⟨sb,0,none⟩),.slice am n1 cm] W λe w'=>∃v,e=.returned v∧Mut (λk=>k=sr) w9 w'∧Hid (ZP w' sb sr [])):=hid λW hb=>by
   have h:=keep_any sb sr [] am cm V.ms W (HL9.out.ext hb) (by simp [keys]) (by simp [keys]) (by simp) (HF.out.ms) (HV9.out.ms.ext hb)
   rw [HE.out.1] at h
   exact h.mono λe w' ⟨g1,g2,g3⟩=>⟨_,g1,(Mut.of_below hb).trans g3,hid g2⟩
  have H9:Below w9.heap.size w9 w9.drew:=(Below.refl _ _).drew
  refine rhd S7.out (Mut.of_below H9) λhHeld=>?_
  refine tkv 0 (.pointer (some ⟨nb,0,none⟩)) rfl ?_
  refine tkv 1 (.pointer (some ⟨nb,0,none⟩)) rfl ?_
  refine tkv 2 (.pointer (some ⟨nb,45,none⟩)) rfl ?_
  refine tkv 3 (.pointer (some ⟨sb,0,none⟩)) rfl ?_
  refine tkv 4 (.pointer (some ⟨w.heap.size,1,none⟩)) rfl ?_
  refine tkv 5 (.slice am n1 cm) rfl ?_
  refine rd1 6 rfl λK hK=>?_
  go_simp
  (refine (C7.out _ H9).mono ?_)
  rintro e w10 ⟨kv,rfl,hm10,hl10⟩
  refine hK.out _ _ (S7.out _ hm10) (λhHeld=>?_)
  clear hK K
  try simp only [lay]
  refine dn ?_
  have HM10:Hid (Mut (λk=>k=nb∨k=pb∨k=wb∨k=sr) W2 w10):=hid ((HM9.out.mono λk _ e=>by rcases e with e | e | e;exact .inl e;exact .inr (.inl e);exact .inr (.inr (.inl e))).trans (hm10.mono λk _ e=>.inr (.inr (.inr e))))
  have HN10:=hid (HN9.out.mut hm10 HNE.out.2.2.2.2.1)
  have HQ10:Hid (Mut (λk=>k=nb∨k=pb∨k=wb∨k=sr) w3 w10):=hid (HQ9.out.trans (hm10.mono λk _ e=>.inr (.inr (.inr e))))
  have HPB10:=hid (HPB9.out.mut hm10 HNE.out.2.2.2.2.2.2.2.2.1)
  have HWA10:Hid (∃r',w5.heap.size≤r'∧Zq w10 wb r' T (Xp [] [] (ZI V (x,y)))):=hid (by
   obtain ⟨r',h1,h2⟩:=HWA9.out
   exact ⟨r',h1,h2.mut hm10 HNE.out.2.2.2.2.2.2.2.2.2.2.1 (λe=>by have h0:=HZ.out;have h3:=HQ5S.out;omega)⟩)
  have HL10:=hid hl10.out
  have HVB10:=hid (HVB9.out.mut hm10 (λe=>by have h0:=HZ.out;omega))
  have HV10:Hid (Zt w10 am al ad V):=hid (HV0.out.ext (Zz HBV.out HM10.out (by have h0:=HGE.out;intro k e;rcases e with rfl | rfl | rfl | rfl <;> omega)))
  have v0:=HVB10.out.cell (j:=0) rfl
  have v1:=HVB10.out.cell (j:=1) rfl
  have v2:=HVB10.out.cell (j:=2) rfl
  have v3:=HVB10.out.cell (j:=3) rfl
  have C8:Hid (Calls Tryz.prog 38 #[.agg #[.int .u64 i,.slice am n1 cm,.slice al n2 cl,.slice ad n3 cd]] w10 λe w'=>∃am' al' ad' cm' cl' cd',e=.returned (.agg #[.int .u64 i,.slice am' n1 cm',.slice al' n2 cl',.slice ad' n3 cd'])∧Below w10.heap.size w10 w'∧Hid (Gn w10.heap.size w' am' al' ad' V)):=hid (by
   have h:=Qo (A:=⟨am,al,ad,cm,cl,cd⟩) HF.out HV10.out
   rw [HX.out] at h
   refine h.mono ?_
   rintro e w' ⟨⟨am',al',ad',cm',cl',cd'⟩,h1,h2,h3⟩
   rw [HX.out] at h1
   exact ⟨_,_,_,_,_,_,h1,h3,hid h2⟩)
  clear S7 C7 H9 hm10 HM9 HN9 HL9 HVB9 HV9 HQ9 HPB9 HWA9 hl10
  go_wp2_with fail
  refine C8.out.mono ?_
  rintro e w11 ⟨am',al',ad',cm',cl',cd',rfl,hb11,HST⟩
  have HN11:=hid (HN10.out.ext hb11)
  have HM11:Hid (Mut (λk=>k=nb∨k=pb∨k=wb∨k=sr) W2 w11):=hid (HM10.out.trans (Mut.of_below hb11))
  have HSZ:Hid (W2.heap.size≤w11.heap.size):=hid HM11.out.size
  have C9:=hid (zbR 1 i 0 0 0 am' al' ad' none n1 n2 n3 0 cm' cl' cd' 0 (base:=w.heap.size) HN11.out (v:=.slice none 0 0) (xs:=[]) rfl (Vk.nil _ _ _ _) (Nat.le_trans HB2.out.size HSZ.out) (λe=>by cases e) (by simp))
  clear C8 v0 v1 v2 v3
  go_wp2_with fail
  refine C9.out.mono ?_
  rintro e w12 ⟨rfl,v12,hO12,hN12,hm12,hg12⟩
  have HO12:=hid hO12
  have HN12:=hid hN12
  have hm12':Mut (λk=>k=nb) w11 w12:=hm12.mono λk _ e=>e.elim id λe=>by cases e
  have HQ12:Hid (Mut (λk=>k=nb∨k=pb∨k=wb∨k=sr) w3 w12):=hid ((HQ10.out.trans (Mut.of_below hb11)).trans (hm12'.mono λk _ e=>.inl e))
  have HPB12:=hid ((HPB10.out.ext hb11).mut hm12' HNE.out.1.symm)
  have HWA12:Hid (∃r',w5.heap.size≤r'∧Zq w12 wb r' T (Xp [] [] (ZI V (x,y)))):=hid (by
   obtain ⟨r',h1,h2⟩:=HWA10.out
   exact ⟨r',h1,(h2.ext hb11).mut hm12' HNE.out.2.1.symm (λe=>by have h0:=HZ.out;have h3:=HQ5S.out;omega)⟩)
  have HL12:=hid ((HL10.out.ext hb11).mut hm12' HNE.out.2.2.2.1.symm HNE.out.2.2.2.2.1.symm)
  have HG11:Hid (∀g,v12.ownBlock=some g→w11.heap.size≤g):=hid λg e=>(hg12 g e).elim (λe=>by cases e) id
  have HZ11:Hid (w3.heap.size≤w11.heap.size):=hid (Nat.le_trans HQ10.out.size hb11.size)
  have HG12:Hid (∀g,v12.ownBlock=some g→W2.heap.size≤g):=hid λg e=>(hg12 g e).elim (λe=>by cases e) λh=>Nat.le_trans HSZ.out h
  have HM12:Hid (Mut (λk=>k=nb∨k=pb∨k=wb∨k=sr) W2 w12):=hid (HM11.out.trans (hm12.mono λk _ e=>e.elim .inl λe=>by cases e))
  have HST12:Hid (Gn w.heap.size w12 am' al' ad' V):=hid λG hG W' hm=>HST.out (λk=>k=nb∨G k) (λk e=>by have h0:=HZ.out;have h1:=HM10.out.size;have h2:=HB2.out.size;rcases e with e | e;omega;have:=hG k e;omega) W' ((hm12.mono λk _ e=>e.elim .inl λe=>by cases e).trans (hm.mono λk _ e=>.inr e))
  have HVB12:=hid (HVB2.out.mut HM12.out (λe=>by have h0:=HZ.out;rcases e with e | e | e | e <;> omega))
  have HWS12:=hid (HWAS.out.mut HM12.out (λe=>by have h0:=HZ.out;have h1:=HZ1.out;rcases e with e | e | e | e <;> omega))
  have HV12:Hid (Zt w12 am al ad V):=hid (HV0.out.ext (Zz HBV.out HM12.out (by have h0:=HGE.out;intro k e;rcases e with rfl | rfl | rfl | rfl <;> omega)))
  clear C9 hO12 hN12 hm12 hm12' hg12 hb11
  have S9:Hid (∀W,Below w12.heap.size w12 W→Below w12.heap.size w12 W∧W.cell? ⟨w.heap.size,0,none⟩=some (.int .u64 i)∧W.cell? ⟨w.heap.size,1,none⟩=some (.slice am n1 cm)∧W.cell? ⟨w.heap.size,2,none⟩=some (.slice al n2 cl)∧W.cell? ⟨w.heap.size,3,none⟩=some (.slice ad n3 cd)∧W.cell? ⟨nb,0,none⟩=some (.int .u16 x)∧W.cell? ⟨nb,1,none⟩=some (.int .u32 y)∧W.cell? ⟨W1.heap.size,0,none⟩=some (.int .u64 0)):=hid λW hb=>⟨hb,Zk (HVB12.out.cell (j:=0) rfl) hb,Zk (HVB12.out.cell (j:=1) rfl) hb,Zk (HVB12.out.cell (j:=2) rfl) hb,Zk (HVB12.out.cell (j:=3) rfl) hb,Zk (HN12.out.cell (j:=0) rfl) hb,Zk (HN12.out.cell (j:=1) rfl) hb,Zk (HWS12.out.cell (j:=0) rfl) hb⟩
  obtain ⟨g,hg⟩:∃g,decide ((x,y)∈V.ds)=g:=⟨_,rfl⟩
  have C10:Hid (∀W,Below w12.heap.size w12 W→Calls Tryz.prog 180 #[.agg #[.int .u64 i,.slice am n1 cm,.slice al n2 cl,.slice ad n3 cd],.agg #[.int .u16 x,.int .u32 y]] W λe w'=>e=.returned (.bool g)∧Below w12.heap.size w12 w'):=hid λW hb=>by
   have h:=Ge V am al ad cm cl cd x y W (HV12.out.ext hb)
   rw [HE.out.1,HE.out.2.1,HE.out.2.2,HF.out.id,hg] at h
   exact h.mono λe w' ⟨g1,g2⟩=>⟨g1,hb.trans (g2.mono hb.size)⟩
  clear hg
  have H12:Below w12.heap.size w12 w12.drew:=(Below.refl _ _).drew
  go_upto_region 9 with fail
  cases g
  case false =>
   refine rhd S9.out H12 λhHeld=>?_
   refine tkv 0 (.agg #[.int .u64 i,.slice am n1 cm,.slice al n2 cl,.slice ad n3 cd]) rfl ?_
   refine tkv 1 (.pointer (some ⟨nb,0,none⟩)) rfl ?_
   refine tkv 2 (.pointer (some ⟨nb,0,none⟩)) rfl ?_
   refine tkv 3 (.pointer (some ⟨nb,0,none⟩)) rfl ?_
   refine tkv 4 (.agg #[.int .u16 x,.int .u32 y]) rfl ?_
   refine rd1 5 rfl λK hK=>?_
   go_simp
   (refine (C10.out _ H12).mono ?_)
   rintro e w13 ⟨rfl,hb13⟩
   refine hK.out _ _ (S9.out _ hb13) (λhHeld=>?_)
   clear hK K
   try simp only [lay]
   refine tkv 6 (.bool false) rfl ?_
   refine tkU 7 rfl ?_
   try simp only [lay]
   refine tkU 8 rfl ?_
   try simp only [lay]
   refine tkU 9 rfl ?_
   try simp only [lay]
   refine tkv 10 (.bool false) rfl ?_
   refine dn ?_
   go_wp2_with fail
   obtain ⟨il,iw,ta,tl,mi,mc,At,lo,hi,hD⟩:=HD3.out
   obtain ⟨wr',hw1,hw2⟩:=HWA12.out
   have hq13:Mut (λk=>k=nb∨k=pb∨k=wb∨k=sr) w3 w13:=HQ12.out.trans (Mut.of_below hb13)
   have hD13:=hD.mut hq13 (λk e=>.inl (by have h0:=HZ.out;have h1:=HB2.out.size;rcases e with e | e | e | e <;> omega))
   have htb:=hD.o
   refine bodyPost_end (results_none rfl _ _ _) rfl ⟨rfl,⟨ba,bn,bc,qb,ib,tb,il,iw,ta,tl,mi,mc,At,lo,hi,wr',v12,⟨am',al',ad',cm',cl',cd'⟩,?_,?_,λg e=>by have h1:=HG11.out g e;have h2:=HZ11.out;omega,HST12.out.ext hb13,hD13.less HB2.out.size,HPB12.out.ext hb13,by have h2:=HQ5S.out;omega,hw2.ext hb13,HL12.out.ext hb13⟩,(Mut.of_below HB2.out).trans (HM12.out.trans (Mut.of_below hb13))⟩
   ·have h:=HN12.out.ext hb13
    show Zc w13 nb 98 _
    rw [HE.out.1,HE.out.2.1,HE.out.2.2]
    exact h
   ·rw [HE.out.1,HE.out.2.1,HE.out.2.2]
    exact HO12.out.ext hb13
  case true =>
   refine rhd S9.out H12 λhHeld=>?_
   refine tkv 0 (.agg #[.int .u64 i,.slice am n1 cm,.slice al n2 cl,.slice ad n3 cd]) rfl ?_
   refine tkv 1 (.pointer (some ⟨nb,0,none⟩)) rfl ?_
   refine tkv 2 (.pointer (some ⟨nb,0,none⟩)) rfl ?_
   refine tkv 3 (.pointer (some ⟨nb,0,none⟩)) rfl ?_
   refine tkv 4 (.agg #[.int .u16 x,.int .u32 y]) rfl ?_
   refine rd1 5 rfl λK hK=>?_
   go_simp
   (refine (C10.out _ H12).mono ?_)
   rintro e w13 ⟨rfl,hb13⟩
   refine hK.out _ _ (S9.out _ hb13) (λhHeld=>?_)
   clear hK K
   try simp only [lay]
   refine tkv 6 (.bool true) rfl ?_
   refine tkv 7 (.pointer (some ⟨W1.heap.size,0,none⟩)) rfl ?_
   refine tkv 8 (.int .u64 0) rfl ?_
   refine tkv 9 (.bool false) rfl ?_
   refine tkv 10 (.bool false) rfl ?_
   refine dn ?_
   go_wp2_with fail
   obtain ⟨il,iw,ta,tl,mi,mc,At,lo,hi,hD⟩:=HD3.out
   obtain ⟨wr',hw1,hw2⟩:=HWA12.out
   have hq13:Mut (λk=>k=nb∨k=pb∨k=wb∨k=sr) w3 w13:=HQ12.out.trans (Mut.of_below hb13)
   have hD13:=hD.mut hq13 (λk e=>.inl (by have h0:=HZ.out;have h1:=HB2.out.size;rcases e with e | e | e | e <;> omega))
   have htb:=hD.o
   refine bodyPost_end (results_none rfl _ _ _) rfl ⟨rfl,⟨ba,bn,bc,qb,ib,tb,il,iw,ta,tl,mi,mc,At,lo,hi,wr',v12,⟨am',al',ad',cm',cl',cd'⟩,?_,?_,λg e=>by have h1:=HG11.out g e;have h2:=HZ11.out;omega,HST12.out.ext hb13,hD13.less HB2.out.size,HPB12.out.ext hb13,by have h2:=HQ5S.out;omega,hw2.ext hb13,HL12.out.ext hb13⟩,(Mut.of_below HB2.out).trans (HM12.out.trans (Mut.of_below hb13))⟩
   ·have h:=HN12.out.ext hb13
    show Zc w13 nb 98 _
    rw [HE.out.1,HE.out.2.1,HE.out.2.2]
    exact h
   ·rw [HE.out.1,HE.out.2.1,HE.out.2.2]
    exact HO12.out.ext hb13
end Go.Proofs.YtcdpaflmofljaaaGreat
