import Derived.Test.YtcdpaflmofljaaaGreatGNodeNil10
/- Parts of the proof of NodeNil: LR SA SB LS LT NF0 LU LV LW LX E1 E2. -/
namespace Go.Proofs.YtcdpaflmofljaaaGreat
open Go.RowKit
set_option maxRecDepth 100000 in
set_option maxHeartbeats 3200000 in
theorem sWrite1 {w:World} {b dc:Nat} {da:Option Addr} {c0 c1 c2 c3 c4 c5 c6 c7 c8 c9 c10 c11 c12:Value} (hB:Zc w b 247 [c0,c1,c2,c3,c4,c5,c6,c7,c8,c9,c10,c11,c12]) (hr:Zg w da [109]) (hrb:∀o off,da=some ⟨o,off,none⟩→o≠b) (hdc:1≤dc) :
  Calls Tryz.prog 337 #[.pointer (some ⟨b,0,none⟩),.slice da 1 dc] w λe w'=>e=.returned (.tuple #[])∧Mut (λk=>k=b) w w'∧Zc w' b 247 [c0,c1,c2,c3,c4,c5,c6,c7,c8,c9,.string ⟨#[]⟩,c11,c12]:=by
 rcases hr with hr | ⟨o,off,rfl,hlt,hcell⟩
 ·cases hr
 have hc:w.cell? ⟨o,off,none⟩=some (.int .u8 109):=by have:=hcell 0 (by simp);simpa using this
 have hne:=hrb o off rfl
 have hc3:∀W,Mut (λk=>k=b) w W→W.cell? ⟨o,off,none⟩=some (.int .u8 109):=λW h=>(h.cell (p:=⟨o,off,none⟩) hlt hne).trans hc
 have b7:bits BinOp.and IntKind.u8 109 7=5:=by rfl
 have hcv:∀(a:Option Addr) (c:Nat) (W:World),(convert 46 9 (.slice a 0 c)).run Tryz.prog W=.ok (.string ⟨#[]⟩) W:=λa c W=>Jn (s:=[]) (.inl rfl) rfl
 have q10:=hB.cell (j:=10) rfl
 have fz:=hB.frozen
 have HB:=hid hB
 clear hB hcell hrb
 by_cases h1:dc=1
 ·subst h1
  go_enter Tryz.func337,Tryz.ntmps337
  go_upto_region 1 with fail
  refine wp_region_held_drew (S:=λW=>W.cell? ⟨o,off,none⟩=some (.int .u8 109)) (by kernel_rfl) (hc) (λhHeld=>?_)
  refine tkv 0 (.pointer (some ⟨b,0,none⟩)) rfl ?_
  refine tkv 1 (.slice (some ⟨o,off,none⟩) 1 1) rfl ?_
  refine tkv 2 (.pointer (some ⟨o,off,none⟩)) rfl ?_
  refine tkv 3 (.int .u8 109) rfl ?_
  refine tkv 4 (.int .u8 5) rfl ?_
  refine tkv 5 (.slice (some ⟨o,off,none⟩) 1 1) rfl ?_
  refine tkv 6 (.slice (some ⟨o,off,none⟩) 1 1) rfl ?_
  refine tkv 7 (.int .i64 1) rfl ?_
  refine tkP 8 (.int .i64 1) rfl ?_ ?_
  ·intro W hSw
   try dsimp only at hSw
   (go_simp;try rfl)
  try simp only [lay]
  refine tkP 9 (.slice (some ⟨o,off,none⟩) 0 0) rfl ?_ ?_
  ·intro W hSw
   try dsimp only at hSw
   (go_simp;try (intro hh;exfalso;omega))
  try simp only [lay]
  refine tkv 10 (.string ⟨#[]⟩) rfl ?_
  refine tkv 11 (.pointer (some ⟨b,0,none⟩)) rfl ?_
  refine tkv 12 (.pointer (some ⟨b,5,none⟩)) rfl ?_
  refine tkv 13 (.pointer (some ⟨b,10,none⟩)) rfl ?_
  refine rd1 14 rfl λK hK=>?_
  go_simp
  refine hK.out _ _ (hc3 _ (Zf (G:=λk=>k=b) (Mut.of_below (Below.refl _ _).drew) b _ _ rfl)) (λhHeld=>?_)
  clear hK K
  try simp only [lay]
  refine dn ?_
  go_wp2_with fail
  exact bodyPost_end (results_none rfl _ _ _) rfl ⟨rfl,Zf (G:=λk=>k=b) (Mut.of_below (Below.refl _ _).drew) b _ _ rfl,(HB.out.ext (Below.refl _ _).drew).set (j:=10) (v:=.string ⟨#[]⟩)⟩
 ·go_enter Tryz.func337,Tryz.ntmps337
  go_upto_region 1 with fail
  refine wp_region_held_drew (S:=λW=>W.cell? ⟨o,off,none⟩=some (.int .u8 109)) (by kernel_rfl) (hc) (λhHeld=>?_)
  refine tkv 0 (.pointer (some ⟨b,0,none⟩)) rfl ?_
  refine tkv 1 (.slice (some ⟨o,off,none⟩) 1 dc) rfl ?_
  refine tkv 2 (.pointer (some ⟨o,off,none⟩)) rfl ?_
  refine tkv 3 (.int .u8 109) rfl ?_
  refine tkv 4 (.int .u8 5) rfl ?_
  refine tkv 5 (.slice (some ⟨o,off,none⟩) 1 dc) rfl ?_
  refine tkv 6 (.slice (some ⟨o,off,none⟩) 1 dc) rfl ?_
  refine tkv 7 (.int .i64 1) rfl ?_
  refine tkP 8 (.int .i64 1) rfl ?_ ?_
  ·intro W hSw
   try dsimp only at hSw
   (go_simp;try rfl)
  try simp only [lay]
  refine tkP 9 (.slice (some ⟨o,off+1,none⟩) 0 (dc - 1)) rfl ?_ ?_
  ·intro W hSw
   try dsimp only at hSw
   (go_simp;try (intro hh;exfalso;omega))
  try simp only [lay]
  refine tkv 10 (.string ⟨#[]⟩) rfl ?_
  refine tkv 11 (.pointer (some ⟨b,0,none⟩)) rfl ?_
  refine tkv 12 (.pointer (some ⟨b,5,none⟩)) rfl ?_
  refine tkv 13 (.pointer (some ⟨b,10,none⟩)) rfl ?_
  refine rd1 14 rfl λK hK=>?_
  go_simp
  refine hK.out _ _ (hc3 _ (Zf (G:=λk=>k=b) (Mut.of_below (Below.refl _ _).drew) b _ _ rfl)) (λhHeld=>?_)
  clear hK K
  try simp only [lay]
  refine dn ?_
  go_wp2_with fail
  exact bodyPost_end (results_none rfl _ _ _) rfl ⟨rfl,Zf (G:=λk=>k=b) (Mut.of_below (Below.refl _ _).drew) b _ _ rfl,(HB.out.ext (Below.refl _ _).drew).set (j:=10) (v:=.string ⟨#[]⟩)⟩
theorem Ys.blkD {w:World} {base:Nat} {v:Value} {bs:List Nat} (h:Ys w base v bs) {g:Nat} (hg:v.ownBlock=some g):base≤g∧g<w.heap.size:=World.ownsRow.lt h g hg
theorem Zc.range {w:World} {b:Nat} {t:TypeId} {cs:List Value} (h:Zc w b t cs):w.rangeAt b 0 cs:=λj v hj=>by rw [Nat.zero_add];exact h.cell hj
theorem Ys.mutD {G:Nat→Prop} {w w':World} {base:Nat} {v:Value} {xs:List Nat} (h:Ys w base v xs) (hm:Mut G w w') (hG:∀g,v.ownBlock=some g→¬ G g):Ys w' base v xs:=by
 refine ⟨h.1,?_⟩
 rcases h.2 with hn | ⟨g,cap,cur,rfl,hbb,hgg,rest⟩
 ·exact .inl hn
 ·exact .inr ⟨g,cap,cur,rfl,hbb,(hm.block g (Array.getElem?_eq_some_iff.1 hgg).1 (hG g rfl)).trans hgg,rest⟩
theorem zab.cells1 {C:Xu} {x y:Int} {i:Nat} (h:zab C x y i) (hd:C.data=[109]) (B:MA):Yd B C=#[.int .i64 2,.int .u16 x,.int .u32 y,.int .u64 1,.int .u64 i,.slice B.da 1 B.dc,.int .u64 0,.slice B.am 0 B.cm,.slice B.al 0 B.cl,.slice B.ad 0 B.cd]:=by
 rw [h.cells B,hd];rfl
theorem infoEvL (v0 v1 v2 v3 v4 v5 v6 v7 v8:Value):(Tryz.prog.info? 48).map (·.size)=some [v0,v1,v2,v3,v4,v5,v6,v7,v8].length:=by kernel_rfl
set_option maxRecDepth 100000 in
set_option maxHeartbeats 6400000 in
theorem sApply {V:Zs} {i:Nat} {A:VAd} {w:World} {b sm:Nat} {x y:Int} {c5 c6 c7 c8 c9 c10 c11 c12:Value} {N:Nat→Prop} {B:MA} {C:Xu} (hi:V.id=(i:Int)) (hB:Zc w b 247 (vcl V i A ++ [.map (some sm),c5,c6,c7,c8,c9,c10,c11,c12])) (hV:Zt w A.am A.al A.ad V) (hM:Zj w sm Yg n64 []) (hp:(x,y)∈V.ms) (hC:CR w N B C) (hs:zab C x y i) (hd:C.data=[109]) (hfr:okP (x,y)) (hc:YE C=0) (hNb:N b∧N sm) (hbs:b≠sm) (hdc:1≤B.dc) :
  Calls Tryz.prog 315 #[.pointer (some ⟨b,0,none⟩),.agg (Yd B C)] w λe w'=>∃ea ec,e=.returned (.tuple #[.agg #[.int .i64 2,.int .u64 0,.slice none 0 0,.slice none 0 0,.slice none 0 0,.int .u16 x,.int .u32 y,.int .u64 1,.slice ea 1 ec],.bool true])∧Mut (λk=>k=b∨k=sm∨w.heap.size≤k) w w'∧Zc w' b 247 (vcl V i A ++ [.map (some sm),c5,c6,c7,c8,c9,.string ⟨#[]⟩,c11,c12])∧Ys w' w.heap.size (.slice ea 1 ec) [109]:=by
 obtain ⟨W1,hW1⟩:∃W1,w.alloc (.cells #[.int .i64 2,.int .u16 x,.int .u32 y,.int .u64 1,.int .u64 i,.slice B.da 1 B.dc,.int .u64 0,.slice B.am 0 B.cm,.slice B.al 0 B.cl,.slice B.ad 0 B.cd] 126)=W1:=⟨_,rfl⟩
 obtain ⟨W2,hW2⟩:∃W2,W1.alloc (.cells #[.int .i64 0,.int .u64 0,.slice none 0 0,.slice none 0 0,.slice none 0 0,.int .u16 0,.int .u32 0,.int .u64 0,.slice none 0 0] 48)=W2:=⟨_,rfl⟩
 have hb1:Below w.heap.size w W1:=by rw [←hW1];exact bra
 have hb12:Below W1.heap.size W1 W2:=by rw [←hW2];exact bra
 have hb2:Below w.heap.size w W2:=hb1.trans (hb12.mono hb1.size)
 have hz1:W1.heap.size=w.heap.size+1:=by rw [←hW1];simp
 have xC:Zc W2 w.heap.size 126 [.int .i64 2,.int .u16 x,.int .u32 y,.int .u64 1,.int .u64 i,.slice B.da 1 B.dc,.int .u64 0,.slice B.am 0 B.cm,.slice B.al 0 B.cl,.slice B.ad 0 B.cd]:=(by rw [←hW1];exact Zc.made _ _ [.int .i64 2,.int .u16 x,.int .u32 y,.int .u64 1,.int .u64 i,.slice B.da 1 B.dc,.int .u64 0,.slice B.am 0 B.cm,.slice B.al 0 B.cl,.slice B.ad 0 B.cd]:Zc W1 w.heap.size 126 [.int .i64 2,.int .u16 x,.int .u32 y,.int .u64 1,.int .u64 i,.slice B.da 1 B.dc,.int .u64 0,.slice B.am 0 B.cm,.slice B.al 0 B.cl,.slice B.ad 0 B.cd]).ext hb12
 have xR:Zc W2 W1.heap.size 48 [.int .i64 0,.int .u64 0,.slice none 0 0,.slice none 0 0,.slice none 0 0,.int .u16 0,.int .u32 0,.int .u64 0,.slice none 0 0]:=by rw [←hW2];exact Zc.made _ _ [.int .i64 0,.int .u64 0,.slice none 0 0,.slice none 0 0,.slice none 0 0,.int .u16 0,.int .u32 0,.int .u64 0,.slice none 0 0]
 have CK:=sCounts hi (hB.ext hb2) (hV.ext hb2) (hM.ext hb2) hp (hC.ext hb2) hs hfr hc
 rw [hs.cells1 hd B] at CK
 have CK:=hid CK
 have k0:=xC.cell (j:=0) rfl
 have k1:=xC.cell (j:=1) rfl
 have k2:=xC.cell (j:=2) rfl
 have k3:=xC.cell (j:=3) rfl
 have k4:=xC.cell (j:=4) rfl
 have k5:=xC.cell (j:=5) rfl
 have k6:=xC.cell (j:=6) rfl
 have k7:=xC.cell (j:=7) rfl
 have k8:=xC.cell (j:=8) rfl
 have k9:=xC.cell (j:=9) rfl
 have HB2:=hid (hB.ext hb2)
 have HX2:=hid xC
 have HR2:=hid xR
 have HM2:=hid (hM.ext hb2)
 have HD2:=hid ((hC.ext hb2).row)
 have HW2:=hid hb2
 have HNN:=hid hNb
 have HBS:=hid hbs
 have HNE:Hid (b<w.heap.size∧sm<w.heap.size∧W1.heap.size=w.heap.size+1∧w.heap.size≠W1.heap.size∧W1.heap.size<W2.heap.size):=hid ⟨hB.lt,hM.lt,hz1,by omega,xR.lt⟩
 have HDD:=hid hd
 have HDC:=hid hdc
 rw [hs.cells1 hd B]
 clear hB hV hM hp hC hs hd hfr hc hNb hbs hdc hb1 hb12 hb2 xC xR hi hz1
 go_enter Tryz.func315,Tryz.ntmps315
 go_upto_region 1 with fail
 try rw [hW2]
 clear hW1 hW2
 go_wp2_with fail
 refine CK.out.mono ?_
 rintro e w3 ⟨rfl,hb3⟩
 have HB3:=hid (HB2.out.ext hb3)
 have HX3:=hid (HX2.out.ext hb3)
 have HR3:=hid (HR2.out.ext hb3)
 have HM3:=hid (HM2.out.ext hb3)
 have HD3:=hid (HD2.out.ext hb3)
 have HW3:=hid (HW2.out.trans (hb3.mono HW2.out.size))
 have HZ3:=hid hb3.size
 clear CK k0 k1 k2 k3 k4 k5 k6 k7 k8 k9 hb3 HB2 HX2 HR2 HM2 HD2 HW2
 have k0:=HX3.out.cell (j:=0) rfl
 go_upto_region 7 with fail
 clear k0
 obtain ⟨w4,hrun,hM4,hbut⟩:=(HM3.out.ext (Below.refl _ _).drew).update Xa Tryz.underlying196 (x,y) 1
 have hrun:(Instr.mapUpdate 196 (.map (some sm)) (.agg #[.int .u16 x,.int .u32 y]) (.int .u64 1)).run Tryz.prog w3.drew=.ok () w4:=hrun
 have hm34:Mut (λk=>k=sm) w3 w4:=⟨hbut.os,hbut.tape,hbut.output,by rw [hbut.size];exact Nat.le_refl _,λk hk hf=>hbut.block k hf⟩
 have HB4:=hid (HB3.out.mut hm34 HBS.out)
 have HX4:=hid (HX3.out.mut hm34 (λe=>by have:=HNE.out;omega))
 have HR4:=hid (HR3.out.mut hm34 (λe=>by have:=HNE.out;omega))
 have HD4:=hid (HD3.out.mut hm34 (λk e=>by subst e;exact .inl HNN.out.2))
 have HM4:Hid (Mut (λk=>k=b∨k=sm∨w.heap.size≤k) w w4):=hid (((Mut.of_below HW3.out).mono λk _ e=>.inr (.inr e)).trans (hm34.mono λk _ e=>.inr (.inl e)))
 have hs3:w3.drew.cell? ⟨b,4,none⟩=some (.map (some sm))∧w3.drew.cell? ⟨w.heap.size,1,none⟩=some (.int .u16 x)∧w3.drew.cell? ⟨w.heap.size,2,none⟩=some (.int .u32 y)∧w3.drew.cell? ⟨w.heap.size,3,none⟩=some (.int .u64 1):=⟨(HB3.out.ext (Below.refl _ _).drew).cell (j:=4) rfl,(HX3.out.ext (Below.refl _ _).drew).cell (j:=1) rfl,(HX3.out.ext (Below.refl _ _).drew).cell (j:=2) rfl,(HX3.out.ext (Below.refl _ _).drew).cell (j:=3) rfl⟩
 have hs4:w4.cell? ⟨b,4,none⟩=some (.map (some sm))∧w4.cell? ⟨w.heap.size,1,none⟩=some (.int .u16 x)∧w4.cell? ⟨w.heap.size,2,none⟩=some (.int .u32 y)∧w4.cell? ⟨w.heap.size,3,none⟩=some (.int .u64 1):=⟨HB4.out.cell (j:=4) rfl,HX4.out.cell (j:=1) rfl,HX4.out.cell (j:=2) rfl,HX4.out.cell (j:=3) rfl⟩
 have HRUN:=hid hrun
 clear hM4 hbut HB3 HX3 HR3 HM3 HD3 HW3
 clear hm34
 go_region_held3 (λW=>W.cell? ⟨b,4,none⟩=some (.map (some sm))∧W.cell? ⟨w.heap.size,1,none⟩=some (.int .u16 x)∧W.cell? ⟨w.heap.size,2,none⟩=some (.int .u32 y)∧W.cell? ⟨w.heap.size,3,none⟩=some (.int .u64 1)) (first | exact hs3 | exact hs4) (fail)
 clear hs3 hs4 hrun HRUN
 have k5:=HX4.out.cell (j:=5) rfl
 obtain ⟨am,al,ad,cm,cl,cd⟩:=A
 obtain ⟨n1,e1⟩:∃q,V.ms.length=q:=⟨_,rfl⟩
 obtain ⟨n2,e2⟩:∃q,V.ls.length=q:=⟨_,rfl⟩
 obtain ⟨n3,e3⟩:∃q,V.ds.length=q:=⟨_,rfl⟩
 have hvc:vcl V i ⟨am,al,ad,cm,cl,cd⟩=[.int .u64 i,.slice am n1 cm,.slice al n2 cl,.slice ad n3 cd]:=by unfold vcl;rw [e1,e2,e3]
 have hB4:Zc w4 b 247 [.int .u64 i,.slice am n1 cm,.slice al n2 cl,.slice ad n3 cd,.map (some sm),c5,c6,c7,c8,c9,c10,c11,c12]:=by
  have h:=HB4.out;rw [hvc] at h;exact h
 have hd4:Zg w4 B.da [109]:=by have h:=HD4.out.row;rw [HDD.out] at h;exact h
 have CW:=hid (sWrite1 (dc:=B.dc) hB4 hd4 (λo off e ho=>(HD4.out.out o off e).1 (ho ▸ HNN.out.1)) HDC.out)
 clear hB4 hd4
 have HVC:=hid hvc
 clear hvc e1 e2 e3
 go_wp2_with fail
 refine CW.out.mono ?_
 rintro e w5 ⟨rfl,hm5,hx5⟩
 have HB5:=hid hx5
 have HX5:=hid (HX4.out.mut hm5 (λe=>by have:=HNE.out;omega))
 have HR5:=hid (HR4.out.mut hm5 (λe=>by have:=HNE.out;omega))
 have HD5:=hid (HD4.out.mut hm5 (λk e=>by subst e;exact .inl HNN.out.1))
 have HM5:=hid (HM4.out.trans (hm5.mono λk _ e=>.inl e))
 clear CW hm5 hx5 k5 HB4 HX4 HR4 HD4 HM4
 have HS9:Hid (∀W,Zc W w.heap.size 126 [.int .i64 2,.int .u16 x,.int .u32 y,.int .u64 1,.int .u64 i,.slice B.da 1 B.dc,.int .u64 0,.slice B.am 0 B.cm,.slice B.al 0 B.cl,.slice B.ad 0 B.cd]→W.cell? ⟨w.heap.size,1,none⟩=some (.int .u16 x)∧W.cell? ⟨w.heap.size,2,none⟩=some (.int .u32 y)∧W.cell? ⟨w.heap.size,3,none⟩=some (.int .u64 1)∧W.cell? ⟨w.heap.size,5,none⟩=some (.slice B.da 1 B.dc)):=hid λW h=>⟨h.cell (j:=1) rfl,h.cell (j:=2) rfl,h.cell (j:=3) rfl,h.cell (j:=5) rfl⟩
 have CL:Hid (∀W,Below w5.heap.size w5 W→Calls Tryz.prog 87 #[.slice B.da 1 B.dc] W λe w'=>∃v,e=.returned v∧Ys w' w5.heap.size v [109]∧Below w5.heap.size w5 w'):=hid λW h=>(Xb (bs:=[109]) (n:=1) (hid rfl) (by decide) (by have hr:=(HD5.out.ext h).row;rw [HDD.out] at hr;exact hr)).mono λe w' ⟨v,h1,h2,h3⟩=>⟨v,h1,h2.mono h.size,h.trans (h3.mono h.size)⟩
 go_upto_region 9 with fail
 refine rhd HS9.out (HX5.out.ext (Below.refl _ _).drew) λhHeld=>?_
 refine tkv 0 (.pointer (some ⟨w.heap.size,1,none⟩)) rfl ?_
 refine tkv 1 (.agg #[.int .u16 x,.int .u32 y]) rfl ?_
 refine tkv 2 (.pointer (some ⟨w.heap.size,3,none⟩)) rfl ?_
 refine tkv 3 (.int .u64 1) rfl ?_
 refine tkv 4 (.pointer (some ⟨w.heap.size,5,none⟩)) rfl ?_
 refine tkv 5 (.slice B.da 1 B.dc) rfl ?_
 refine rd1 6 rfl λK hK=>?_
 go_simp
 refine (CL.out _ (Below.refl _ _).drew).mono ?_
 rintro e w6 ⟨v6,rfl,hown,hb6⟩
 obtain ⟨ea,ec,rfl,-,-⟩:=hown.row
 rw [show ([109]:List Nat).length=1 from rfl]
 refine hK.out _ _ (HS9.out _ (HX5.out.ext hb6)) (λhHeld=>?_)
 clear hK K
 try simp only [lay]
 refine tkv 7 (.agg #[.int .i64 2,.int .u64 0,.slice none 0 0,.slice none 0 0,.slice none 0 0,.int .u16 x,.int .u32 y,.int .u64 1,.slice ea 1 ec]) rfl ?_
 refine rd1 8 rfl λK hK=>?_
 have r0:=(HR5.out.ext hb6).cell (j:=0) rfl
 have r1:=(HR5.out.ext hb6).cell (j:=1) rfl
 have r2:=(HR5.out.ext hb6).cell (j:=2) rfl
 have r3:=(HR5.out.ext hb6).cell (j:=3) rfl
 have r4:=(HR5.out.ext hb6).cell (j:=4) rfl
 have r5:=(HR5.out.ext hb6).cell (j:=5) rfl
 have r6:=(HR5.out.ext hb6).cell (j:=6) rfl
 have r7:=(HR5.out.ext hb6).cell (j:=7) rfl
 have r8:=(HR5.out.ext hb6).cell (j:=8) rfl
 have rf:=(HR5.out.ext hb6).frozen
 go_simp
 obtain ⟨w7,hw7⟩:∃z,(((((((((w6.setCell ⟨W1.heap.size,0,none⟩ (.int .i64 2)).setCell ⟨W1.heap.size,1,none⟩ (.int .u64 0)).setCell ⟨W1.heap.size,2,none⟩ (.slice none 0 0)).setCell ⟨W1.heap.size,3,none⟩ (.slice none 0 0)).setCell ⟨W1.heap.size,4,none⟩ (.slice none 0 0)).setCell ⟨W1.heap.size,5,none⟩ (.int .u16 x)).setCell ⟨W1.heap.size,6,none⟩ (.int .u32 y)).setCell ⟨W1.heap.size,7,none⟩ (.int .u64 1)).setCell ⟨W1.heap.size,8,none⟩ (.slice ea 1 ec))=z:=⟨_,rfl⟩
 have hx7:Zc w7 W1.heap.size 48 [.int .i64 2,.int .u64 0,.slice none 0 0,.slice none 0 0,.slice none 0 0,.int .u16 x,.int .u32 y,.int .u64 1,.slice ea 1 ec]:=by rw [←hw7];exact ((((((((((HR5.out.ext hb6).set (j:=0) (v:=.int .i64 2)).set (j:=1) (v:=.int .u64 0)).set (j:=2) (v:=.slice none 0 0)).set (j:=3) (v:=.slice none 0 0)).set (j:=4) (v:=.slice none 0 0)).set (j:=5) (v:=.int .u16 x)).set (j:=6) (v:=.int .u32 y)).set (j:=7) (v:=.int .u64 1)).set (j:=8) (v:=.slice ea 1 ec))
 have hm7:Mut (λk=>k=W1.heap.size) w6 w7:=by rw [←hw7];exact (Zf (G:=λk=>k=W1.heap.size) (Zf (G:=λk=>k=W1.heap.size) (Zf (G:=λk=>k=W1.heap.size) (Zf (G:=λk=>k=W1.heap.size) (Zf (G:=λk=>k=W1.heap.size) (Zf (G:=λk=>k=W1.heap.size) (Zf (G:=λk=>k=W1.heap.size) (Zf (G:=λk=>k=W1.heap.size) (Zf (G:=λk=>k=W1.heap.size) (Mut.refl _ _) W1.heap.size _ _ rfl) W1.heap.size _ _ rfl) W1.heap.size _ _ rfl) W1.heap.size _ _ rfl) W1.heap.size _ _ rfl) W1.heap.size _ _ rfl) W1.heap.size _ _ rfl) W1.heap.size _ _ rfl) W1.heap.size _ _ rfl)
 rw [hw7]
 refine hK.out _ _ (HS9.out _ ((HX5.out.ext hb6).mut hm7 HNE.out.2.2.2.1)) (λhHeld=>?_)
 clear hK K
 try simp only [lay]
 refine rd1 9 rfl λK hK=>?_
 go_simp
 refine hK.out _ _ (HS9.out _ ((HX5.out.ext hb6).mut hm7 HNE.out.2.2.2.1)) (λhHeld=>?_)
 clear hK K
 try simp only [lay]
 refine dn ?_
 have HM7:Hid (Mut (λk=>k=b∨k=sm∨w.heap.size≤k) w w7):=hid ((HM5.out.trans ((Mut.of_below hb6).mono λk _ e=>.inr (.inr (Nat.le_trans HM5.out.size e)))).trans (hm7.mono λk _ e=>.inr (.inr (by have:=HNE.out;omega))))
 have HB7:=hid ((HB5.out.ext hb6).mut hm7 (λe=>by have:=HNE.out;omega))
 have HO7:Hid (Ys w7 w.heap.size (.slice ea 1 ec) [109]):=hid ((Ys.mutD hown hm7 (λg e1 e2=>by have h1:=(hown.blkD e1).1;have h2:=HNE.out;have h3:=HR5.out.lt;omega)).mono HM5.out.size)
 go_wp2_with fail
 exact bodyPost_ret (v:=.tuple #[.agg ([.int .i64 2,.int .u64 0,.slice none 0 0,.slice none 0 0,.slice none 0 0,.int .u16 x,.int .u32 y,.int .u64 1,.slice ea 1 ec]:List Value).toArray,.bool true]) (ZF (p:=4) (q:=5) (ty:=48) rfl _ _ W1.heap.size [.int .i64 2,.int .u64 0,.slice none 0 0,.slice none 0 0,.slice none 0 0,.int .u16 x,.int .u32 y,.int .u64 1,.slice ea 1 ec] _ rfl (λj v hj=>by rw [Nat.zero_add];exact hx7.cell hj) Tryz.underlying48 rfl (infoEvL _ _ _ _ _ _ _ _ _)) rfl ⟨ea,ec,rfl,HM7.out,by rw [HVC.out];exact HB7.out,HO7.out⟩
end Go.Proofs.YtcdpaflmofljaaaGreat
namespace Go.Proofs.YtcdpaflmofljaaaGreat
open Go.Instr Go.MapKept
abbrev KeyD:=Int × Int × Nat
abbrev KQ (p:KeyD):Value:=.agg #[.int .u16 p.1,.int .u32 p.2.1,.int .u64 p.2.2]
theorem zep (a b:Int) (n:Nat) (c d:Int) (m:Nat) (w:World):(Op.equal 361 (.agg #[.int .u16 a,.int .u32 b,.int .u64 n]) (.agg #[.int .u16 c,.int .u32 d,.int .u64 m])).run Tryz.prog w=.ok (decide ((a,b,n)=(c,d,m))) w:=by
 have hS:Tryz.prog.underlying 361=some (.struct (Tryz.prog.fieldsOf 361)):=by kernel_rfl
 have hp:Tryz.prog.stoodInHeld 361=false:=by kernel_rfl
 unfold Op.equal Op.maxDepth
 rw [show (10000:Nat)=9999+1 from rfl,run_equalIn_agg w 9999 361 _ _ hS hp]
 simp only [Program.fieldsOf,Tryz.underlying361]
 go_simp
 by_cases h3:n=m
 ·subst h3
  by_cases h1:a=c <;> by_cases h2:b=d <;> simp [h1,h2]
 ·have h4:¬ (n:Int)=(m:Int):=by omega
  by_cases h1:a=c <;> by_cases h2:b=d <;> simp [h1,h2,h3,h4]
theorem zb1:Kz Tryz.prog 361 KQ where
 find:=by
  intro x L es w h
  cases es with
  | nil =>
   cases L with
   | nil=>simp [findKey,run_underlying Tryz.underlying361,Result.andThen,findNow,Yk]
   | cons _ _=>simp at h
  | cons e es =>
   have hn:∀d,findNow (.struct d) (KQ x) (e :: es) 0=none:=by intro d;simp [findNow,sameNow]
   simp only [findKey,Sem.run_bind,run_underlying Tryz.underlying361,Result.andThen,hn]
   generalize e :: es=es' at h
   have:∀(es:List MapEntry) (L:List (KeyD × Value)) (i:Nat),es.map (λe=>(e.key,e.val))=L.map (λp=>(KQ p.1,p.2))→(findAsking 361 (KQ x) es i).run Tryz.prog w=.ok (Yk x L i) w:=by
    intro es
    induction es with
    | nil=>intro L i h;cases L with | nil=>simp [findAsking,Yk] | cons _ _=>simp at h
    | cons e es ih =>
     intro L i h
     cases L with
     | nil=>simp at h
     | cons p L =>
      simp only [List.map_cons,List.cons.injEq,Prod.mk.injEq] at h
      obtain ⟨⟨h1,h2⟩,h3⟩:=h
      have he:=zep x.1 x.2.1 x.2.2 p.1.1 p.1.2.1 p.1.2.2 w
      simp only [findAsking,h1,Sem.run_bind,he,Result.andThen,Yk]
      by_cases hx:x=p.1
      ·simp [hx,h2]
      ·simp [hx,ih L (i+1) h3]
   exact this es' L 0 h
 check:=by
  intro b x w
  kernel_rfl
 same:=by intro x;simp [sameBits]
end Go.Proofs.YtcdpaflmofljaaaGreat
namespace Go.Proofs.YtcdpaflmofljaaaGreat
open Go.RowKit
theorem Zj.ne_cell {α β:Type} [DecidableEq α] {ke:α→Value} {ve:β→Value} {L:List (α × β)} {w:World} {r s j:Nat} {v:Value} (h:Zj w r ke ve L) (hc:w.cell? ⟨s,j,none⟩=some v):s≠r:=by
 rintro rfl
 obtain ⟨es,clock,hb,-,-⟩:=h
 simp [World.cell?,hb] at hc
def FF (x y l m t place:Int) (seeds:Value) (ticks:Int) (hub:Nat) (grp:List Value) (led st ac pr:Value) (wat:Nat) (rum:List Value) (stable:Int) (held asked:Nat) (joins:Value) (leaves:Nat) (leaving:Bool) (beats events:Value):List Value :=
 [.int .u16 x,.int .u32 y,.int .i64 l,.int .i64 m,.int .i64 t,.int .i64 place,seeds,.int .i64 ticks,.pointer (some ⟨hub,0,none⟩)] ++ grp ++ [led,st,ac,pr,.pointer (some ⟨wat,0,none⟩)] ++ rum ++ [.int .u64 stable,.map (some held),.map (some asked),joins,.pointer (some ⟨leaves,0,none⟩),.bool leaving,beats,events]
def grp0:List Value:=[.int .u64 0,.slice none 0 0,.slice none 0 0,.slice none 0 0,.int .u64 0,.slice none 0 0,.pointer none,.pointer none,.pointer none,.pointer none,.bool false]
def rum0:List Value:=List.replicate 16 (.int .u32 0)
structure zdn (w w':World) (x y l m t:Int) (nb h r wb wr sb sr m1 m2:Nat):Prop where
 box:Zc w' nb 98 (FF x y l m t 0 (.slice none 0 0) 0 h grp0 (.pointer none) (.pointer none) (.pointer none) (.pointer none) wb rum0 0 m1 m2 (.slice none 0 0) sb false (.slice none 0 0) (.slice none 0 0))
 below:Below w.heap.size w w'
 fresh:∀q∈[nb,h,r,wb,wr,sb,sr,m1,m2],w.heap.size≤q
 apart:[nb,h,r,wb,wr,sb,sr,m1,m2].Nodup
 hub:Yf w' (fpH h r []) h r (x,y) []
 watch:Zq w' wb wr (max t 1) []
 set:ZP w' sb sr []
 map1:∀{α β:Type} [DecidableEq α] (ke:α→Value) (ve:β→Value),Zj w' m1 ke ve ([]:List (α × β))
 map2:∀{α β:Type} [DecidableEq α] (ke:α→Value) (ve:β→Value),Zj w' m2 ke ve ([]:List (α × β))
theorem blank_of {w w' W1:World} {x y l m t:Int} {nb h r wb wr sb sr m1 m2:Nat} {e:Ending} (HB:Hid (Below w.heap.size w W1)) (he:e=.returned (.pointer (some ⟨nb,0,none⟩)))
  (box:Zc w' nb 98 (FF x y l m t 0 (.slice none 0 0) 0 h grp0 (.pointer none) (.pointer none) (.pointer none) (.pointer none) wb rum0 0 m1 m2 (.slice none 0 0) sb false (.slice none 0 0) (.slice none 0 0)))
  (below:Below W1.heap.size W1 w') (fresh:∀q∈[nb,h,r,wb,wr,sb,sr,m1,m2],W1.heap.size≤q) (apart:[nb,h,r,wb,wr,sb,sr,m1,m2].Nodup)
  (hub:Yf w' (fpH h r []) h r (x,y) []) (watch:Zq w' wb wr (max t 1) []) (set:ZP w' sb sr [])
  (map1:∀{α β:Type} [DecidableEq α] (ke:α→Value) (ve:β→Value),Zj w' m1 ke ve ([]:List (α × β))) (map2:∀{α β:Type} [DecidableEq α] (ke:α→Value) (ve:β→Value),Zj w' m2 ke ve ([]:List (α × β))) :
  ∃nb h r wb wr sb sr m1 m2,e=.returned (.pointer (some ⟨nb,0,none⟩))∧zdn w w' x y l m t nb h r wb wr sb sr m1 m2 :=
 ⟨nb,h,r,wb,wr,sb,sr,m1,m2,he,⟨box,HB.out.trans (below.mono HB.out.size),λq hq=>Nat.le_trans HB.out.size (fresh q hq),apart,hub,watch,set,map1,map2⟩⟩
abbrev sv:Value→Value:=λv=>v
theorem zeroBB (w:World):(zeroValue 46).run Tryz.prog w=.ok (.slice none 0 0) w:=by kernel_rfl
theorem Zj.wantNo {w:World} {m:Nat} {L:List (KeyD × Value)} (h:Zj w m KQ sv L) (x y:Int) (n:Nat) (hn:Yz (x,y,n) L=none):(Instr.lookup 197 (.map (some m)) (.agg #[.int .u16 x,.int .u32 y,.int .u64 n]) true).run Tryz.prog w=.ok (.tuple #[.slice none 0 0,.bool false]) w:=by
 have:=h.lookup_ok zb1 Tryz.underlying197 (zeroBB w) (x,y,n)
 rw [hn] at this
 exact this
theorem Zj.wantYes {w:World} {m:Nat} {L:List (KeyD × Value)} {v:Value} (h:Zj w m KQ sv L) (x y:Int) (n:Nat) (hn:Yz (x,y,n) L=some v):(Instr.lookup 197 (.map (some m)) (.agg #[.int .u16 x,.int .u32 y,.int .u64 n]) true).run Tryz.prog w=.ok (.tuple #[v,.bool true]) w:=by
 have:=h.lookup_ok zb1 Tryz.underlying197 (zeroBB w) (x,y,n)
 rw [hn] at this
 exact this
abbrev ibC (i:Int) (ma:Option Addr) (mc:Nat) (il iw:Nat) (t:Int):List Value:=[.int .u64 i,.slice ma 1 mc,.map (some il),.map (some iw),.int .i64 t]
set_option maxRecDepth 100000 in
set_option maxHeartbeats 3200000 in
theorem xPut {w:World} {b il iw n dc mc:Nat} {x y i t:Int} {ma da:Option Addr} {bs:List Nat} (hB:Zc w b 199 (ibC i ma mc il iw t)) (hr:Zb w ma [(x,y)]) (hl:Zj w il Yg n64 []) (hw:Zj w iw KQ sv []) (hn:bs.length=n) (hnl:n≤200) (hd:Zg w da bs) :
  Calls Tryz.prog 236 #[.pointer (some ⟨b,0,none⟩),.agg #[.int .u16 x,.int .u32 y],.int .u64 1,.slice da n dc] w λe w'=>∃qa qc,e=.returned (.int .i64 0)∧Mut (λk=>k=iw∨w.heap.size≤k) w w'∧Zj w' iw KQ sv [((x,y,1),.slice qa n qc)]∧Ys w' w.heap.size (.slice qa n qc) bs:=by
 obtain ⟨W1,hW1⟩:∃W1,w.alloc (.cells #[.int .u16 x,.int .u32 y] 25)=W1:=⟨_,rfl⟩
 have hb1:Below w.heap.size w W1:=by rw [←hW1];exact bra
 have xP:Zc W1 w.heap.size 25 [.int .u16 x,.int .u32 y]:=by rw [←hW1];exact Zc.made _ _ _
 have g1:decide ((n:Int) > 200)=false:=decide_eq_false (by omega)
 have g2:decide (200<(n:Int))=false:=decide_eq_false (by omega)
 have g3:decide (200<n)=false:=decide_eq_false (by omega)
 have HB:=hid (hB.ext hb1)
 have HP:=hid xP
 have HR:=hid (hr.ext hb1)
 have HL:=hid (hl.ext hb1)
 have HW:=hid (hw.ext hb1)
 have HD:=hid (hd.ext hb1)
 have HN:=hid hn
 have HNL:=hid hnl
 have HB1:=hid hb1
 have HNE:Hid (b<w.heap.size∧iw<w.heap.size∧b≠iw):=hid ⟨hB.lt,hw.lt,hw.ne_cell (hB.cell (j:=0) rfl)⟩
 clear hB hr hl hw hn hnl hd hb1 xP
 go_enter Tryz.func236,Tryz.ntmps236
 go_upto_region 3 with fail
 try rw [hW1]
 clear hW1
 have c1:=Za (HB.out.cell (j:=1) rfl)
 have p0:=Za (HP.out.cell (j:=0) rfl)
 have p1:=Za (HP.out.cell (j:=1) rfl)
 have CC:∀U:YB W1,Calls Tryz.prog 66 #[.slice ma 1 mc,.agg #[.int .u16 x,.int .u32 y]] U.W λe w'=>e=.returned (.bool true)∧∃U':YB W1,w'=U'.W:=λU=>ZN (Vb ma mc [(x,y)] x y U.W (by simp) (HR.out.ext U.h)) (by simp)
 refine Ze (w:=W1) (Below.refl _ _) (by kernel_rfl) (by kernel_rfl) ?_
 repeat (go_big_quiet_step (with_reducible exact CC _))
 refine wpQuiet_nil ?_
 rintro w2 ⟨⟨_,hb2⟩,rfl⟩
 have HB2:=hid (HB.out.ext hb2)
 have HP2:=hid (HP.out.ext hb2)
 have HL2:=hid (HL.out.ext hb2)
 have HW2:=hid (HW.out.ext hb2)
 have HD2:=hid (HD.out.ext hb2)
 have HX2:=hid (HB1.out.trans (hb2.mono HB1.out.size))
 clear c1 p0 p1 CC hb2 HB HP HL HW HD
 go_upto_region 7 with fail
 have b2:=Za (HB2.out.cell (j:=2) rfl)
 have p0:=Za (HP2.out.cell (j:=0) rfl)
 have p1:=Za (HP2.out.cell (j:=1) rfl)
 have hl:∀U:YB w2,(Instr.lookup 196 (.map (some il)) (.agg #[.int .u16 x,.int .u32 y]) false).run Tryz.prog U.W=.ok (.int .u64 0) U.W:=λU=>(HL2.out.ext U.h).none64 x y
 refine Ze (w:=w2) (Below.refl _ _) (by kernel_rfl) (by kernel_rfl) ?_
 repeat (go_big_quiet_step (fail))
 refine wpQuiet_nil ?_
 rintro w3 ⟨⟨_,hb3⟩,rfl⟩
 have HB3:=hid (HB2.out.ext hb3)
 have HP3:=hid (HP2.out.ext hb3)
 have HL3:=hid (HL2.out.ext hb3)
 have HW3:=hid (HW2.out.ext hb3)
 have HD3:=hid (HD2.out.ext hb3)
 have HX3:=hid (HX2.out.trans (hb3.mono HX2.out.size))
 clear b2 p0 p1 hl hb3 HB2 HP2 HL2 HW2 HD2 HX2
 go_upto_region 9 with fail
 have b2:=Za (HB3.out.cell (j:=2) rfl)
 have p0:=Za (HP3.out.cell (j:=0) rfl)
 have p1:=Za (HP3.out.cell (j:=1) rfl)
 have hl:∀U:YB w3,(Instr.lookup 196 (.map (some il)) (.agg #[.int .u16 x,.int .u32 y]) false).run Tryz.prog U.W=.ok (.int .u64 0) U.W:=λU=>(HL3.out.ext U.h).none64 x y
 refine Ze (w:=w3) (Below.refl _ _) (by kernel_rfl) (by kernel_rfl) ?_
 repeat (go_big_quiet_step (fail))
 refine wpQuiet_nil ?_
 rintro w4 ⟨⟨_,hb4⟩,rfl⟩
 have HB4:=hid (HB3.out.ext hb4)
 have HP4:=hid (HP3.out.ext hb4)
 have HL4:=hid (HL3.out.ext hb4)
 have HW4:=hid (HW3.out.ext hb4)
 have HD4:=hid (HD3.out.ext hb4)
 have HX4:=hid (HX3.out.trans (hb4.mono HX3.out.size))
 clear b2 p0 p1 hl hb4 HB3 HP3 HL3 HW3 HD3 HX3
 have p0:=HP4.out.cell (j:=0) rfl
 have p1:=HP4.out.cell (j:=1) rfl
 go_upto_region 12 with fail
 obtain ⟨w5,hw5⟩:∃z,w4.alloc (.cells #[.int .u16 x,.int .u32 y,.int .u64 1] 361)=z:=⟨_,rfl⟩
 have hb5:Below w4.heap.size w4 w5:=by rw [←hw5];exact bra
 have xK:Zc w5 w4.heap.size 361 [.int .u16 x,.int .u32 y,.int .u64 1]:=by rw [←hw5];exact Zc.made _ _ _
 rw [hw5]
 have HB5:=hid (HB4.out.ext hb5)
 have HW5:=hid (HW4.out.ext hb5)
 have HD5:=hid (HD4.out.ext hb5)
 have HX5:=hid (HX4.out.trans (hb5.mono HX4.out.size))
 have HK5:=hid xK
 obtain ⟨kb,hkb⟩:∃z,w4.heap.size=z:=⟨_,rfl⟩
 have HKB:Hid (w.heap.size≤kb):=hid (by rw [←hkb];exact HX4.out.size)
 rw [hkb] at HK5 ⊢
 clear p0 p1 hw5 hb5 xK hkb HB4 HP4 HL4 HW4 HD4 HX4
 have b3:=Za (HB5.out.cell (j:=3) rfl)
 have k0:=Za (HK5.out.cell (j:=0) rfl)
 have k1:=Za (HK5.out.cell (j:=1) rfl)
 have k2:=Za (HK5.out.cell (j:=2) rfl)
 have hl:∀U:YB w5,(Instr.lookup 197 (.map (some iw)) (.agg #[.int .u16 x,.int .u32 y,.int .u64 1]) true).run Tryz.prog U.W=.ok (.tuple #[.slice none 0 0,.bool false]) U.W:=λU=>(HW5.out.ext U.h).wantNo x y 1 rfl
 refine Ze (w:=w5) (Below.refl _ _) (by kernel_rfl) (by kernel_rfl) ?_
 repeat (go_big_quiet_step (fail))
 refine wpQuiet_nil ?_
 rintro w6 ⟨⟨_,hb6⟩,rfl⟩
 have HB6:=hid (HB5.out.ext hb6)
 have HI:=hid (HW5.out.ext hb6)
 have HD6:=hid (HD5.out.ext hb6)
 have HX6:=hid (HX5.out.trans (hb6.mono HX5.out.size))
 have HK6:=hid (HK5.out.ext hb6)
 clear b3 k0 k1 k2 hl hb6 HB5 HW5 HD5 HX5 HK5
 have HS:Hid (∀W,Mut (λk=>k=iw) w6 W→W.cell? ⟨b,3,none⟩=some (.map (some iw))∧W.cell? ⟨kb,0,none⟩=some (.int .u16 x)∧W.cell? ⟨kb,1,none⟩=some (.int .u32 y)∧W.cell? ⟨kb,2,none⟩=some (.int .u64 1)):=hid λW h=>by
  have h1:=HB6.out.mut h HNE.out.2.2
  have h2:=HK6.out.mut h (λe=>by have:=HNE.out;have:=HKB.out;omega)
  exact ⟨h1.cell (j:=3) rfl,h2.cell (j:=0) rfl,h2.cell (j:=1) rfl,h2.cell (j:=2) rfl⟩
 have CL:Hid (∀W,Below w6.heap.size w6 W→Calls Tryz.prog 87 #[.slice da n dc] W λe w'=>∃v,e=.returned v∧Ys w' w6.heap.size v bs∧Below w6.heap.size w6 w'):=hid λW h=>(Xb (bs:=bs) HN (by have:=HNL.out;omega) (HD6.out.ext h)).mono λe w' ⟨v,h1,h2,h3⟩=>⟨v,h1,h2.mono h.size,h.trans (h3.mono h.size)⟩
 go_upto_region 15 with fail
 refine rhd HS.out (Mut.of_below (Below.refl _ _).drew) λhHeld=>?_
 refine tkv 0 (.pointer (some ⟨b,0,none⟩)) rfl ?_
 refine tkv 1 (.pointer (some ⟨b,0,none⟩)) rfl ?_
 refine tkv 2 (.pointer (some ⟨b,3,none⟩)) rfl ?_
 refine tkv 3 (.map (some iw)) rfl ?_
 refine tkv 4 (.agg #[.int .u16 x,.int .u32 y,.int .u64 1]) rfl ?_
 refine tkv 5 (.slice da n dc) rfl ?_
 refine rd1 6 rfl λK hK=>?_
 go_simp
 refine (CL.out _ (Below.refl _ _).drew).mono ?_
 rintro e w7 ⟨v7,rfl,hown,hb7⟩
 obtain ⟨qa,qc,rfl,-,-⟩:=hown.row
 rw [HN.out]
 refine hK.out _ _ (HS.out _ (Mut.of_below hb7)) (λhHeld=>?_)
 clear hK K
 try simp only [lay]
 refine rd1 7 rfl λK hK=>?_
 obtain ⟨w8,hrun,hM8,hbut⟩:=(HI.out.ext hb7).update zb1 Tryz.underlying197 (x,y,1) (.slice qa n qc)
 have hrun:(Instr.mapUpdate 197 (.map (some iw)) (.agg #[.int .u16 x,.int .u32 y,.int .u64 1]) (.slice qa n qc)).run Tryz.prog w7=.ok () w8:=hrun
 have hm78:Mut (λk=>k=iw) w7 w8:=⟨hbut.os,hbut.tape,hbut.output,by rw [hbut.size];exact Nat.le_refl _,λk hk hf=>hbut.block k hf⟩
 rw [HN.out] at hown
 go_simp
 refine hK.out _ _ (HS.out _ ((Mut.of_below hb7).trans hm78)) (λhHeld=>?_)
 clear hK K
 try simp only [lay]
 refine dn ?_
 go_wp2_with fail
 go_ret
 refine ⟨qa,qc,rfl,?_,hM8,(Ys.mutD hown hm78 (λg e1 e2=>by have h1:=(hown.blkD e1).1;have h2:=HNE.out;have h3:=HX6.out.size;omega)).mono HX6.out.size⟩
 exact (((Mut.of_below HX6.out).mono λk _ e=>.inr e).trans ((Mut.of_below hb7).mono λk _ e=>.inr (Nat.le_trans HX6.out.size e))).trans (hm78.mono λk _ e=>.inl e)
theorem Vy {P:Program} {fn:Func} {p q r s:Tmp} {ty:TypeId} (h:fn.results=#[.cell p ty,.tmp q,.tmp r,.tmp s]) (tmps:Array Value) (w:World) (b:Nat) (cs:List Value) (d:TypeDesc)
  (hp:tmps.getD p undef=.pointer (some ⟨b,0,none⟩)) (hc:w.rangeAt b 0 cs)
  (hu:P.underlying ty=some d) (hd:d.isRow=true) (hi:(P.info? ty).map (·.size)=some cs.length) :
  (results fn tmps).run P w=.ok (.tuple #[.agg cs.toArray,tmps.getD q undef,tmps.getD r undef,tmps.getD s undef]) w:=by
 have hp':tmps[p]?.getD undef=.pointer (some ⟨b,0,none⟩):=by simpa using hp
 simp [results,h,hp',asAddr,run_loadVar_mid w b 0 ty cs d hc hu hd hi]
theorem zbP (v0 v1:Value):(Tryz.prog.info? 25).map (·.size)=some [v0,v1].length:=by kernel_rfl
theorem Zj.one64 {w:World} {m:Nat} {x y:Int} (h:Zj w m Yg n64 [((x,y),1)]) (x' y':Int) (e:(x',y')=(x,y):=by rfl):(Instr.lookup 196 (.map (some m)) (.agg #[.int .u16 x',.int .u32 y']) false).run Tryz.prog w=.ok (.int .u64 1) w:=by
 cases e
 have:=h.lookup_no Xa Tryz.underlying196 (zdE w) (x,y)
 rw [show Yz (x,y) [((x,y),1)]=some 1 from by simp [Yz]] at this
 exact this
set_option maxRecDepth 100000 in
set_option maxHeartbeats 3200000 in
theorem xNext1 {w:World} {b il iw n mc qc:Nat} {x y i:Int} {ma qa:Option Addr} {bs:List Nat} (hB:Zc w b 199 (ibC i ma mc il iw 0)) (hr:Zb w ma [(x,y)]) (hl:Zj w il Yg n64 []) (hw:Zj w iw KQ sv [((x,y,1),.slice qa n qc)]) (hn:bs.length=n) (hnl:n≤200) (hd:Zg w qa bs) :
  Calls Tryz.prog 295 #[.pointer (some ⟨b,0,none⟩)] w λe w'=>∃ea ec,e=.returned (.tuple #[.agg #[.int .u16 x,.int .u32 y],.int .u64 1,.slice ea n ec,.bool true])∧Below w.heap.size w w'∧Ys w' w.heap.size (.slice ea n ec) bs:=by
 obtain ⟨W1,hW1⟩:∃W1,w.alloc (.cells #[.int .u16 0,.int .u32 0] 25)=W1:=⟨_,rfl⟩
 have hb1:Below w.heap.size w W1:=by rw [←hW1];exact bra
 have xR:Zc W1 w.heap.size 25 [.int .u16 0,.int .u32 0]:=by rw [←hW1];exact Zc.made _ _ _
 obtain ⟨mb,off,rfl,hmlt,hcell⟩:=hr.get (by simp)
 obtain ⟨m0,m1⟩:=hcell 0 (by simp)
 simp only [Nat.zero_mul,Nat.add_zero,List.getElem_cons_zero] at m0 m1
 have m0:=Zk m0 hb1
 have m1:=Zk m1 hb1
 have HB1:=hid (hB.ext hb1)
 have HL1:=hid (hl.ext hb1)
 have HW1:=hid (hw.ext hb1)
 have HX1:=hid hb1
 have HR1:=hid xR
 have c1:=HB1.out.cell (j:=1) rfl
 have HN:=hid hn
 have HNL:=hid hnl
 have HD1:=hid (hd.ext hb1)
 clear hB hr hl hw hn hnl hd hb1 xR hcell hmlt
 go_enter Tryz.func295,Tryz.ntmps295
 go_wp2_with fail
 go_loopw [19] (λiv wr=>iv=.int .i64 0∧wr=W1) (λ_ _=>0)
 case atStart=>exact ⟨rfl,by first | rfl | exact hW1⟩
 case round =>
  obtain ⟨rfl,rfl⟩:=hrel
  clear hW1
  rename World=>W1
  have HS6:Hid (∀W,Below W1.heap.size W1 W→W.cell? ⟨b,1,none⟩=some (.slice (some ⟨mb,off,none⟩) 1 mc)∧W.cell? ⟨b,4,none⟩=some (.int .i64 0)∧W.cell? ⟨mb,off,none⟩=some (.int .u16 x)∧W.cell? ⟨mb,off+1,none⟩=some (.int .u32 y)):=hid λW h=>⟨(HB1.out.ext h).cell (j:=1) rfl,(HB1.out.ext h).cell (j:=4) rfl,Zk m0 h,Zk m1 h⟩
  go_upto_region 6 with fail
  refine rhd HS6.out ((Below.refl _ _).drew) λhHeld=>?_
  refine tkv 0 (.pointer (some ⟨b,0,none⟩)) rfl ?_
  refine tkv 1 (.pointer (some ⟨b,0,none⟩)) rfl ?_
  refine tkv 2 (.pointer (some ⟨b,1,none⟩)) rfl ?_
  refine tkv 3 (.slice (some ⟨mb,off,none⟩) 1 mc) rfl ?_
  refine tkv 4 (.pointer (some ⟨b,0,none⟩)) rfl ?_
  refine tkv 5 (.pointer (some ⟨b,0,none⟩)) rfl ?_
  refine tkv 6 (.pointer (some ⟨b,4,none⟩)) rfl ?_
  refine tkv 7 (.int .i64 0) rfl ?_
  refine tkv 8 (.int .i64 0) rfl ?_
  refine tkP 9 (.int .i64 0) rfl ?_ ?_
  ·intro W hSw
   try dsimp only at hSw
   (go_simp;try rfl)
  try simp only [lay]
  refine tkv 10 (.pointer (some ⟨b,0,none⟩)) rfl ?_
  refine tkv 11 (.pointer (some ⟨b,0,none⟩)) rfl ?_
  refine tkv 12 (.pointer (some ⟨b,1,none⟩)) rfl ?_
  refine tkv 13 (.slice (some ⟨mb,off,none⟩) 1 mc) rfl ?_
  refine tkv 14 (.int .i64 1) rfl ?_
  refine tkP 15 (.int .i64 0) rfl ?_ ?_
  ·intro W hSw
   try dsimp only at hSw
   (go_simp;try rfl)
  try simp only [lay]
  refine tkv 16 (.pointer (some ⟨mb,off,none⟩)) rfl ?_
  refine tkv 17 (.agg #[.int .u16 x,.int .u32 y]) rfl ?_
  refine rd1 18 rfl λK hK=>?_
  go_simp
  have hz0:Below W1.heap.size W1 (W1.alloc (.cells #[.int .u16 0,.int .u32 0] 25)).drew:=(Zd (Below.refl _ _) _).drew
  refine hK.out _ _ (HS6.out _ hz0) (λhHeld=>?_)
  clear hK K
  try simp only [lay]
  refine rd1 19 rfl λK hK=>?_
  go_simp
  obtain ⟨w2,hw2⟩:∃z,(W1.alloc (.cells #[.int .u16 x,.int .u32 y] 25)).drew=z:=⟨_,rfl⟩
  have hb2:Below W1.heap.size W1 w2:=by rw [←hw2];exact (Zd (Below.refl _ _) _).drew
  have xP:Zc w2 W1.heap.size 25 [.int .u16 x,.int .u32 y]:=by rw [←hw2];exact (Zc.made _ _ _).ext (Below.refl _ _).drew
  try rw [hw2]
  clear hw2 hz0
  refine hK.out _ _ (HS6.out _ hb2) (λhHeld=>?_)
  clear hK K
  try simp only [lay]
  refine dn ?_
  have HB2:=hid (HB1.out.ext hb2)
  have HL2:=hid (HL1.out.ext hb2)
  have HW2:=hid (HW1.out.ext hb2)
  have HP2:=hid xP
  have HS7:Hid (∀W,Below w2.heap.size w2 W→W.cell? ⟨b,2,none⟩=some (.map (some il))∧W.cell? ⟨W1.heap.size,0,none⟩=some (.int .u16 x)∧W.cell? ⟨W1.heap.size,1,none⟩=some (.int .u32 y)∧(Instr.lookup 196 (.map (some il)) (.agg #[.int .u16 x,.int .u32 y]) false).run Tryz.prog W=.ok (.int .u64 0) W):=hid λW h=>⟨(HB2.out.ext h).cell (j:=2) rfl,(HP2.out.ext h).cell (j:=0) rfl,(HP2.out.ext h).cell (j:=1) rfl,(HL2.out.ext h).none64 x y⟩
  clear xP HS6
  go_upto_region 7 with fail
  refine rhd HS7.out ((Below.refl _ _).drew) λhHeld=>?_
  refine tkv 0 (.agg #[.int .u16 x,.int .u32 y]) rfl ?_
  refine tkv 1 (.pointer (some ⟨b,0,none⟩)) rfl ?_
  refine tkv 2 (.pointer (some ⟨b,0,none⟩)) rfl ?_
  refine tkv 3 (.pointer (some ⟨b,2,none⟩)) rfl ?_
  refine tkv 4 (.map (some il)) rfl ?_
  refine tkv 5 (.agg #[.int .u16 x,.int .u32 y]) rfl ?_
  refine tkv 6 (.int .u64 0) rfl ?_
  refine tkP 7 (.int .u64 1) rfl ?_ ?_
  ·intro W hSw
   try dsimp only at hSw
   (go_simp;try rfl)
  try simp only [lay]
  refine tkv 8 (.agg #[.int .u16 x,.int .u32 y,.int .u64 1]) rfl ?_
  refine rd1 9 rfl λK hK=>?_
  go_simp
  have hz0:Below w2.heap.size w2 (w2.alloc (.cells #[.int .u16 0,.int .u32 0,.int .u64 0] 361)).drew:=(Zd (Below.refl _ _) _).drew
  refine hK.out _ _ (HS7.out _ hz0) (λhHeld=>?_)
  clear hK K
  try simp only [lay]
  refine rd1 10 rfl λK hK=>?_
  go_simp
  obtain ⟨w3,hw3⟩:∃z,(w2.alloc (.cells #[.int .u16 x,.int .u32 y,.int .u64 1] 361)).drew=z:=⟨_,rfl⟩
  have hb3:Below w2.heap.size w2 w3:=by rw [←hw3];exact (Zd (Below.refl _ _) _).drew
  have xK:Zc w3 w2.heap.size 361 [.int .u16 x,.int .u32 y,.int .u64 1]:=by rw [←hw3];exact (Zc.made _ _ _).ext (Below.refl _ _).drew
  try rw [hw3]
  clear hw3 hz0
  refine hK.out _ _ (HS7.out _ hb3) (λhHeld=>?_)
  clear hK K
  try simp only [lay]
  refine dn ?_
  have HB3:=hid (HB2.out.ext hb3)
  have HP3:=hid (HP2.out.ext hb3)
  have HK3:=hid xK
  clear xK HS7
  go_upto_region 8 with fail
  have b3:=Za (HB3.out.cell (j:=3) rfl)
  have k0:=Za (HK3.out.cell (j:=0) rfl)
  have k1:=Za (HK3.out.cell (j:=1) rfl)
  have k2:=Za (HK3.out.cell (j:=2) rfl)
  have hl:∀U:YB w3,(Instr.lookup 197 (.map (some iw)) (.agg #[.int .u16 x,.int .u32 y,.int .u64 1]) true).run Tryz.prog U.W=.ok (.tuple #[.slice qa n qc,.bool true]) U.W:=λU=>(HW2.out.ext (hb3.trans (U.h.mono hb3.size))).wantYes x y 1 (by simp [Yz])
  refine Ze (w:=w3) (Below.refl _ _) (by kernel_rfl) (by kernel_rfl) ?_
  repeat (go_big_quiet_step (fail))
  refine wpQuiet_nil ?_
  rintro w4 ⟨⟨_,hb4⟩,rfl⟩
  have HX4:Hid (Below w.heap.size w w4):=hid (HX1.out.trans ((hb2.trans ((hb3.trans (hb4.mono hb3.size)).mono hb2.size)).mono HX1.out.size))
  have HP4:=hid (HP3.out.ext hb4)
  have HK4:=hid (HK3.out.ext hb4)
  have HR4:Hid (Zc w4 w.heap.size 25 [.int .u16 0,.int .u32 0]):=hid (((HR1.out.ext hb2).ext hb3).ext hb4)
  have HZ:Hid (w.heap.size<W1.heap.size∧W1.heap.size<w2.heap.size):=hid ⟨HR1.out.lt,HP2.out.lt⟩
  clear b3 k0 k1 k2 hl
  have HD4:Hid (Zg w4 qa bs):=hid (((HD1.out.ext hb2).ext hb3).ext hb4)
  have HS10:Hid (∀W,Mut (λk=>k=w.heap.size) w4 W→W.cell? ⟨W1.heap.size,0,none⟩=some (.int .u16 x)∧W.cell? ⟨W1.heap.size,1,none⟩=some (.int .u32 y)∧W.cell? ⟨w2.heap.size,2,none⟩=some (.int .u64 1)):=hid λW h=>by
   have h1:=HP4.out.mut h (λe=>by have:=HZ.out;omega)
   have h2:=HK4.out.mut h (λe=>by have:=HZ.out;omega)
   exact ⟨h1.cell (j:=0) rfl,h1.cell (j:=1) rfl,h2.cell (j:=2) rfl⟩
  have CL:Hid (∀W,Below w4.heap.size w4 W→Calls Tryz.prog 87 #[.slice qa n qc] W λe w'=>∃v,e=.returned v∧Ys w' w4.heap.size v bs∧Below w4.heap.size w4 w'):=hid λW h=>(Xb (bs:=bs) HN (by have:=HNL.out;omega) (HD4.out.ext h)).mono λe w' ⟨v,h1,h2,h3⟩=>⟨v,h1,h2.mono h.size,h.trans (h3.mono h.size)⟩
  go_upto_region 10 with fail
  refine rhd HS10.out (Mut.of_below (Below.refl _ _).drew) λhHeld=>?_
  refine tkv 0 (.agg #[.int .u16 x,.int .u32 y]) rfl ?_
  refine tkv 1 (.pointer (some ⟨w2.heap.size,2,none⟩)) rfl ?_
  refine tkv 2 (.int .u64 1) rfl ?_
  refine tkv 3 (.slice qa n qc) rfl ?_
  refine rd1 4 rfl λK hK=>?_
  go_simp
  refine (CL.out _ (Below.refl _ _).drew).mono ?_
  rintro e w7 ⟨v7,rfl,hown,hb7⟩
  obtain ⟨ea,ec,rfl,-,-⟩:=hown.row
  rw [HN.out] at hown ⊢
  refine hK.out _ _ (HS10.out _ (Mut.of_below hb7)) (λhHeld=>?_)
  clear hK K
  try simp only [lay]
  refine rd1 5 rfl λK hK=>?_
  have r0:=(HR4.out.ext hb7).cell (j:=0) rfl
  have r1:=(HR4.out.ext hb7).cell (j:=1) rfl
  have rf:=(HR4.out.ext hb7).frozen
  go_simp
  obtain ⟨w8,hw8⟩:∃z,((w7.setCell ⟨w.heap.size,0,none⟩ (.int .u16 x)).setCell ⟨w.heap.size,1,none⟩ (.int .u32 y))=z:=⟨_,rfl⟩
  have hx8:Zc w8 w.heap.size 25 [.int .u16 x,.int .u32 y]:=by rw [←hw8];exact ((HR4.out.ext hb7).set (j:=0) (v:=.int .u16 x)).set (j:=1) (v:=.int .u32 y)
  have hm8:Mut (λk=>k=w.heap.size) w7 w8:=by rw [←hw8];exact Zf (G:=λk=>k=w.heap.size) (Zf (G:=λk=>k=w.heap.size) (Mut.refl _ _) w.heap.size _ _ rfl) w.heap.size _ _ rfl
  rw [hw8]
  refine hK.out _ _ (HS10.out _ ((Mut.of_below hb7).trans hm8)) (λhHeld=>?_)
  clear hK K
  try simp only [lay]
  refine rd1 6 rfl λK hK=>?_
  go_simp
  refine hK.out _ _ (HS10.out _ ((Mut.of_below hb7).trans hm8)) (λhHeld=>?_)
  clear hK K
  try simp only [lay]
  refine rd1 7 rfl λK hK=>?_
  go_simp
  refine hK.out _ _ (HS10.out _ ((Mut.of_below hb7).trans hm8)) (λhHeld=>?_)
  clear hK K
  try simp only [lay]
  refine rd1 8 rfl λK hK=>?_
  go_simp
  refine hK.out _ _ (HS10.out _ ((Mut.of_below hb7).trans hm8)) (λhHeld=>?_)
  clear hK K
  try simp only [lay]
  refine dn ?_
  go_wp2_with fail
  exact bodyPost_ret (v:=.tuple #[.agg ([.int .u16 x,.int .u32 y]:List Value).toArray,.int .u64 1,.slice ea n ec,.bool true]) (Vy (p:=2) (q:=3) (r:=4) (s:=5) (ty:=25) rfl _ _ w.heap.size [.int .u16 x,.int .u32 y] _ rfl (λj v hj=>by rw [Nat.zero_add];exact hx8.cell hj) Tryz.underlying25 rfl (zbP _ _)) rfl ⟨ea,ec,rfl,Zz (HX4.out.trans (hb7.mono HX4.out.size)) hm8 (λk e=>Nat.le_of_eq e.symm),(Ys.mutD hown hm8 (λg e1 e2=>by have h1:=(hown.blkD e1).1;have h2:=HR4.out.lt;omega)).mono HX4.out.size⟩
set_option maxRecDepth 100000 in
set_option maxHeartbeats 3200000 in
theorem xNext0 {w:World} {b il iw mc:Nat} {x y i:Int} {ma:Option Addr} (hB:Zc w b 199 (ibC i ma mc il iw 1)) (hr:Zb w ma [(x,y)]) (hl:Zj w il Yg n64 [((x,y),1)]) (hw:Zj w iw KQ sv []) :
  Calls Tryz.prog 295 #[.pointer (some ⟨b,0,none⟩)] w λe w'=>e=.returned (.tuple #[.agg #[.int .u16 0,.int .u32 0],.int .u64 0,.slice none 0 0,.bool false])∧Below w.heap.size w w':=by
 obtain ⟨W1,hW1⟩:∃W1,w.alloc (.cells #[.int .u16 0,.int .u32 0] 25)=W1:=⟨_,rfl⟩
 have hb1:Below w.heap.size w W1:=by rw [←hW1];exact bra
 have xR:Zc W1 w.heap.size 25 [.int .u16 0,.int .u32 0]:=by rw [←hW1];exact Zc.made _ _ _
 obtain ⟨mb,off,rfl,hmlt,hcell⟩:=hr.get (by simp)
 obtain ⟨m0,m1⟩:=hcell 0 (by simp)
 simp only [Nat.zero_mul,Nat.add_zero,List.getElem_cons_zero] at m0 m1
 have m0:=Zk m0 hb1
 have m1:=Zk m1 hb1
 have HB1:=hid (hB.ext hb1)
 have HL1:=hid (hl.ext hb1)
 have HW1:=hid (hw.ext hb1)
 have HX1:=hid hb1
 have HR1:=hid xR
 have c1:=HB1.out.cell (j:=1) rfl
 clear hB hr hl hw hb1 xR hcell hmlt
 go_enter Tryz.func295,Tryz.ntmps295
 go_wp2_with fail
 go_loopw [19] (λiv wr=>(iv=.int .i64 0∧wr=W1)∨(iv=.int .i64 1∧Hid (Below w.heap.size w wr)∧Hid (Zc wr w.heap.size 25 [.int .u16 0,.int .u32 0]))) (λiv _=>1 - (intOf iv).toNat)
 case atStart=>exact .inl ⟨rfl,by first | rfl | exact hW1⟩
 case round =>
  rcases hrel with ⟨rfl,rfl⟩ | ⟨rfl,HX9,HR9⟩
  ·clear hW1
   rename World=>W1
   have HS6:Hid (∀W,Below W1.heap.size W1 W→W.cell? ⟨b,1,none⟩=some (.slice (some ⟨mb,off,none⟩) 1 mc)∧W.cell? ⟨b,4,none⟩=some (.int .i64 1)∧W.cell? ⟨mb,off,none⟩=some (.int .u16 x)∧W.cell? ⟨mb,off+1,none⟩=some (.int .u32 y)):=hid λW h=>⟨(HB1.out.ext h).cell (j:=1) rfl,(HB1.out.ext h).cell (j:=4) rfl,Zk m0 h,Zk m1 h⟩
   go_upto_region 6 with fail
   refine rhd HS6.out ((Below.refl _ _).drew) λhHeld=>?_
   refine tkv 0 (.pointer (some ⟨b,0,none⟩)) rfl ?_
   refine tkv 1 (.pointer (some ⟨b,0,none⟩)) rfl ?_
   refine tkv 2 (.pointer (some ⟨b,1,none⟩)) rfl ?_
   refine tkv 3 (.slice (some ⟨mb,off,none⟩) 1 mc) rfl ?_
   refine tkv 4 (.pointer (some ⟨b,0,none⟩)) rfl ?_
   refine tkv 5 (.pointer (some ⟨b,0,none⟩)) rfl ?_
   refine tkv 6 (.pointer (some ⟨b,4,none⟩)) rfl ?_
   refine tkv 7 (.int .i64 1) rfl ?_
   refine tkv 8 (.int .i64 0) rfl ?_
   refine tkP 9 (.int .i64 1) rfl ?_ ?_
   ·intro W hSw
    try dsimp only at hSw
    (go_simp;try rfl)
   try simp only [lay]
   refine tkv 10 (.pointer (some ⟨b,0,none⟩)) rfl ?_
   refine tkv 11 (.pointer (some ⟨b,0,none⟩)) rfl ?_
   refine tkv 12 (.pointer (some ⟨b,1,none⟩)) rfl ?_
   refine tkv 13 (.slice (some ⟨mb,off,none⟩) 1 mc) rfl ?_
   refine tkv 14 (.int .i64 1) rfl ?_
   refine tkP 15 (.int .i64 0) rfl ?_ ?_
   ·intro W hSw
    try dsimp only at hSw
    (go_simp;try rfl)
   try simp only [lay]
   refine tkv 16 (.pointer (some ⟨mb,off,none⟩)) rfl ?_
   refine tkv 17 (.agg #[.int .u16 x,.int .u32 y]) rfl ?_
   refine rd1 18 rfl λK hK=>?_
   go_simp
   have hz0:Below W1.heap.size W1 (W1.alloc (.cells #[.int .u16 0,.int .u32 0] 25)).drew:=(Zd (Below.refl _ _) _).drew
   refine hK.out _ _ (HS6.out _ hz0) (λhHeld=>?_)
   clear hK K
   try simp only [lay]
   refine rd1 19 rfl λK hK=>?_
   go_simp
   obtain ⟨w2,hw2⟩:∃z,(W1.alloc (.cells #[.int .u16 x,.int .u32 y] 25)).drew=z:=⟨_,rfl⟩
   have hb2:Below W1.heap.size W1 w2:=by rw [←hw2];exact (Zd (Below.refl _ _) _).drew
   have xP:Zc w2 W1.heap.size 25 [.int .u16 x,.int .u32 y]:=by rw [←hw2];exact (Zc.made _ _ _).ext (Below.refl _ _).drew
   try rw [hw2]
   clear hw2 hz0
   refine hK.out _ _ (HS6.out _ hb2) (λhHeld=>?_)
   clear hK K
   try simp only [lay]
   refine dn ?_
   have HB2:=hid (HB1.out.ext hb2)
   have HL2:=hid (HL1.out.ext hb2)
   have HW2:=hid (HW1.out.ext hb2)
   have HP2:=hid xP
   have HS7:Hid (∀W,Below w2.heap.size w2 W→W.cell? ⟨b,2,none⟩=some (.map (some il))∧W.cell? ⟨W1.heap.size,0,none⟩=some (.int .u16 x)∧W.cell? ⟨W1.heap.size,1,none⟩=some (.int .u32 y)∧(Instr.lookup 196 (.map (some il)) (.agg #[.int .u16 x,.int .u32 y]) false).run Tryz.prog W=.ok (.int .u64 1) W):=hid λW h=>⟨(HB2.out.ext h).cell (j:=2) rfl,(HP2.out.ext h).cell (j:=0) rfl,(HP2.out.ext h).cell (j:=1) rfl,(HL2.out.ext h).one64 x y⟩
   clear xP HS6
   go_upto_region 7 with fail
   refine rhd HS7.out ((Below.refl _ _).drew) λhHeld=>?_
   refine tkv 0 (.agg #[.int .u16 x,.int .u32 y]) rfl ?_
   refine tkv 1 (.pointer (some ⟨b,0,none⟩)) rfl ?_
   refine tkv 2 (.pointer (some ⟨b,0,none⟩)) rfl ?_
   refine tkv 3 (.pointer (some ⟨b,2,none⟩)) rfl ?_
   refine tkv 4 (.map (some il)) rfl ?_
   refine tkv 5 (.agg #[.int .u16 x,.int .u32 y]) rfl ?_
   refine tkv 6 (.int .u64 1) rfl ?_
   refine tkP 7 (.int .u64 2) rfl ?_ ?_
   ·intro W hSw
    try dsimp only at hSw
    (go_simp;try rfl)
   try simp only [lay]
   refine tkv 8 (.agg #[.int .u16 x,.int .u32 y,.int .u64 2]) rfl ?_
   refine rd1 9 rfl λK hK=>?_
   go_simp
   have hz0:Below w2.heap.size w2 (w2.alloc (.cells #[.int .u16 0,.int .u32 0,.int .u64 0] 361)).drew:=(Zd (Below.refl _ _) _).drew
   refine hK.out _ _ (HS7.out _ hz0) (λhHeld=>?_)
   clear hK K
   try simp only [lay]
   refine rd1 10 rfl λK hK=>?_
   go_simp
   obtain ⟨w3,hw3⟩:∃z,(w2.alloc (.cells #[.int .u16 x,.int .u32 y,.int .u64 2] 361)).drew=z:=⟨_,rfl⟩
   have hb3:Below w2.heap.size w2 w3:=by rw [←hw3];exact (Zd (Below.refl _ _) _).drew
   have xK:Zc w3 w2.heap.size 361 [.int .u16 x,.int .u32 y,.int .u64 2]:=by rw [←hw3];exact (Zc.made _ _ _).ext (Below.refl _ _).drew
   try rw [hw3]
   clear hw3 hz0
   refine hK.out _ _ (HS7.out _ hb3) (λhHeld=>?_)
   clear hK K
   try simp only [lay]
   refine dn ?_
   have HB3:=hid (HB2.out.ext hb3)
   have HP3:=hid (HP2.out.ext hb3)
   have HK3:=hid xK
   clear xK HS7
   go_upto_region 8 with fail
   have b3:=Za (HB3.out.cell (j:=3) rfl)
   have k0:=Za (HK3.out.cell (j:=0) rfl)
   have k1:=Za (HK3.out.cell (j:=1) rfl)
   have k2:=Za (HK3.out.cell (j:=2) rfl)
   have hl:∀U:YB w3,(Instr.lookup 197 (.map (some iw)) (.agg #[.int .u16 x,.int .u32 y,.int .u64 2]) true).run Tryz.prog U.W=.ok (.tuple #[.slice none 0 0,.bool false]) U.W:=λU=>(HW2.out.ext (hb3.trans (U.h.mono hb3.size))).wantNo x y 2 rfl
   refine Ze (w:=w3) (Below.refl _ _) (by kernel_rfl) (by kernel_rfl) ?_
   repeat (go_big_quiet_step (fail))
   refine wpQuiet_nil ?_
   rintro w4 ⟨⟨_,hb4⟩,rfl⟩
   have HX4:Hid (Below w.heap.size w w4):=hid (HX1.out.trans ((hb2.trans ((hb3.trans (hb4.mono hb3.size)).mono hb2.size)).mono HX1.out.size))
   have HP4:=hid (HP3.out.ext hb4)
   have HK4:=hid (HK3.out.ext hb4)
   have HR4:Hid (Zc w4 w.heap.size 25 [.int .u16 0,.int .u32 0]):=hid (((HR1.out.ext hb2).ext hb3).ext hb4)
   have HZ:Hid (w.heap.size<W1.heap.size∧W1.heap.size<w2.heap.size):=hid ⟨HR1.out.lt,HP2.out.lt⟩
   clear b3 k0 k1 k2 hl
   go_wp2_with fail
   go_roundw
   case rel=>exact .inr ⟨rfl,HX4,HR4⟩
   case measure=>simp [intOf]
  ·have r0:=HR9.out.cell (j:=0) rfl
   have r1:=HR9.out.cell (j:=1) rfl
   have rf:=HR9.out.frozen
   go_wp2_with fail
   have hx:=(HR9.out.set (j:=0) (v:=.int .u16 0)).set (j:=1) (v:=.int .u32 0)
   exact bodyPost_ret (v:=.tuple #[.agg ([.int .u16 0,.int .u32 0]:List Value).toArray,.int .u64 0,.slice none 0 0,.bool false]) (Vy (p:=2) (q:=3) (r:=4) (s:=5) (ty:=25) rfl _ _ w.heap.size [.int .u16 0,.int .u32 0] _ rfl (λj v hj=>by rw [Nat.zero_add];exact hx.cell hj) Tryz.underlying25 rfl (zbP _ _)) rfl ⟨rfl,Zz HX9.out (Zf (G:=λk=>k=w.heap.size) (Zf (G:=λk=>k=w.heap.size) (Mut.refl _ _) w.heap.size _ _ rfl) w.heap.size _ _ rfl) (λk e=>Nat.le_of_eq e.symm)⟩
open Go.Instr Go.MapKept
theorem Zn.del1 {α β:Type} [DecidableEq α] {ke:α→Value} {ve:β→Value} {P:Program} {K:TypeId} {w:World} {r t:Nat} {p:α × β} {left:List (α × β)} (h:Zn w r t ke ve [p] left) (kk:Kz P K ke) {ty e:TypeId} (ht:P.underlying ty=some (.map K e)) :
  ∃w',(∀tz,(Builtin.delete_ #[ty,K] tz #[.map (some r),ke p.1]).run P w=.ok (.tuple #[]) w')∧Zn w' r t ke ve ([]:List (α × β)) []∧But r w w':=by
 have hne:=h.ne
 obtain ⟨es,clock,since,seen,h1,h2,h3,h4,h5,h6,h7⟩:=h
 have hf:=Kq (w:=w) kk h2 p.1
 have hq:Yk p.1 [p] 0=some (0,p.2):=by simp [Yk]
 rw [hq] at hf
 have hlen:es.toList.length=1:=by simpa using congrArg List.length h2
 have hj:0<es.size:=by simp at hlen;omega
 have he:(es.eraseIdxIfInBounds 0).toList=[]:=by
  have h0:(es.eraseIdxIfInBounds 0).toList=es.toList.eraseIdx 0:=by simp [Array.eraseIdxIfInBounds,hj,Array.toList_eraseIdx]
  rw [h0]
  apply List.eq_nil_of_length_eq_zero
  rw [List.length_eraseIdx]
  simp [hlen]
 refine ⟨{ w with heap:=w.heap.setIfInBounds r (.map (es.eraseIdxIfInBounds 0) clock) },λty=>by simp [Builtin.delete_,run_underlying ht,MapKept.run_getObj_map h1,kk.check,hf,MapKept.run_setObj_map _ h1,Result.andThen],⟨es.eraseIdxIfInBounds 0,clock,since,seen,(MapKept.heap_set h1).1,by rw [he];rfl,⟨by rw [he];exact List.nodup_nil,(λe he'=>by rw [he] at he';cases he')⟩,((But.of_set w r _).block t hne).trans h4,(λe he'=>by rw [he] at he';cases he'),h6,by rw [he];rfl⟩,But.of_set _ _ _⟩
set_option maxRecDepth 100000 in
set_option maxHeartbeats 3200000 in
theorem xDone {w:World} {b il iw mc:Nat} {x y i:Int} {ma:Option Addr} {v:Value} (hB:Zc w b 199 (ibC i ma mc il iw 0)) (hr:Zb w ma [(x,y)]) (hl:Zj w il Yg n64 []) (hw:Zj w iw KQ sv [((x,y,1),v)]) (hne:il≠iw) :
  Calls Tryz.prog 316 #[.pointer (some ⟨b,0,none⟩),.agg #[.int .u16 x,.int .u32 y],.int .u64 1] w λe w'=>e=.returned (.bool true)∧Mut (λk=>k=b∨k=il∨k=iw∨w.heap.size≤k) w w'∧Zc w' b 199 (ibC i ma mc il iw 1)∧Zj w' il Yg n64 [((x,y),1)]∧Zj w' iw KQ sv []:=by
 obtain ⟨W1,hW1⟩:∃W1,w.alloc (.cells #[.int .u16 x,.int .u32 y] 25)=W1:=⟨_,rfl⟩
 have hb1:Below w.heap.size w W1:=by rw [←hW1];exact bra
 have xP:Zc W1 w.heap.size 25 [.int .u16 x,.int .u32 y]:=by rw [←hW1];exact Zc.made _ _ _
 have HB1:=hid (hB.ext hb1)
 have HP1:=hid xP
 have HR1:=hid (hr.ext hb1)
 have HL1:=hid (hl.ext hb1)
 have HW1:=hid (hw.ext hb1)
 have HX1:=hid hb1
 have HNE:Hid (b≠il∧b≠iw∧il≠iw∧b<w.heap.size∧il<w.heap.size∧iw<w.heap.size):=hid ⟨hl.ne_cell (hB.cell (j:=0) rfl),hw.ne_cell (hB.cell (j:=0) rfl),hne,hB.lt,hl.lt,hw.lt⟩
 clear hB hr hl hw hne hb1 xP
 go_enter Tryz.func316,Tryz.ntmps316
 go_upto_region 3 with fail
 try rw [hW1]
 clear hW1
 have c1:=Za (HB1.out.cell (j:=1) rfl)
 have p0:=Za (HP1.out.cell (j:=0) rfl)
 have p1:=Za (HP1.out.cell (j:=1) rfl)
 have CI:∀U:YB W1,Calls Tryz.prog 166 #[.slice ma 1 mc,.agg #[.int .u16 x,.int .u32 y]] U.W λe w'=>e=.returned (.int .i64 0)∧∃U':YB W1,w'=U'.W:=λU=>ZN (QZ ma mc [(x,y)] x y U.W (by simp) (HR1.out.ext U.h)) (by simp [Ks,YI])
 refine Ze (w:=W1) (Below.refl _ _) (by kernel_rfl) (by kernel_rfl) ?_
 repeat (go_big_quiet_step (with_reducible exact CI _))
 refine wpQuiet_nil ?_
 rintro w2 ⟨⟨_,hb2⟩,rfl⟩
 have HB2:=hid (HB1.out.ext hb2)
 have HP2:=hid (HP1.out.ext hb2)
 have HL2:=hid (HL1.out.ext hb2)
 have HW2:=hid (HW1.out.ext hb2)
 have HX2:=hid (HX1.out.trans (hb2.mono HX1.out.size))
 clear c1 p0 p1 CI hb2 HB1 HP1 HR1 HL1 HW1 HX1
 go_upto_region 4 with fail
 have b2:=Za (HB2.out.cell (j:=2) rfl)
 have p0:=Za (HP2.out.cell (j:=0) rfl)
 have p1:=Za (HP2.out.cell (j:=1) rfl)
 have hl:∀U:YB w2,(Instr.lookup 196 (.map (some il)) (.agg #[.int .u16 x,.int .u32 y]) false).run Tryz.prog U.W=.ok (.int .u64 0) U.W:=λU=>(HL2.out.ext U.h).none64 x y
 refine Ze (w:=w2) (Below.refl _ _) (by kernel_rfl) (by kernel_rfl) ?_
 repeat (go_big_quiet_step (fail))
 refine wpQuiet_nil ?_
 rintro w3 ⟨⟨_,hb3⟩,rfl⟩
 have HB3:=hid (HB2.out.ext hb3)
 have HP3:=hid (HP2.out.ext hb3)
 have HL3:=hid (HL2.out.ext hb3)
 have HW3:=hid (HW2.out.ext hb3)
 have HX3:=hid (HX2.out.trans (hb3.mono HX2.out.size))
 clear b2 p0 p1 hl hb3 HB2 HP2 HL2 HW2 HX2
 go_upto_region 6 with fail
 obtain ⟨w4,hrun,hM4,hbut⟩:=(HL3.out.ext (Below.refl _ _).drew).update Xa Tryz.underlying196 (x,y) 1
 have hrun:(Instr.mapUpdate 196 (.map (some il)) (.agg #[.int .u16 x,.int .u32 y]) (.int .u64 1)).run Tryz.prog w3.drew=.ok () w4:=hrun
 have hm34:Mut (λk=>k=il) w3 w4:=⟨hbut.os,hbut.tape,hbut.output,by rw [hbut.size];exact Nat.le_refl _,λk hk hf=>hbut.block k hf⟩
 have HB4:=hid (HB3.out.mut hm34 HNE.out.1)
 have HP4:=hid (HP3.out.mut hm34 (λe=>by have:=HNE.out;omega))
 have HL4:Hid (Zj w4 il Yg n64 [((x,y),1)]):=hid hM4
 have HW4:Hid (Zj w4 iw KQ sv [((x,y,1),v)]):=hid (HW3.out.same (hm34.block iw HW3.out.lt (λe=>HNE.out.2.2.1 e.symm)))
 have HM4:Hid (Mut (λk=>k=b∨k=il∨k=iw∨w.heap.size≤k) w w4):=hid (((Mut.of_below HX3.out).mono λk _ e=>.inr (.inr (.inr e))).trans (hm34.mono λk _ e=>.inr (.inl e)))
 have hs3:w3.drew.cell? ⟨b,2,none⟩=some (.map (some il))∧w3.drew.cell? ⟨w.heap.size,0,none⟩=some (.int .u16 x)∧w3.drew.cell? ⟨w.heap.size,1,none⟩=some (.int .u32 y):=⟨(HB3.out.ext (Below.refl _ _).drew).cell (j:=2) rfl,(HP3.out.ext (Below.refl _ _).drew).cell (j:=0) rfl,(HP3.out.ext (Below.refl _ _).drew).cell (j:=1) rfl⟩
 have hs4:w4.cell? ⟨b,2,none⟩=some (.map (some il))∧w4.cell? ⟨w.heap.size,0,none⟩=some (.int .u16 x)∧w4.cell? ⟨w.heap.size,1,none⟩=some (.int .u32 y):=⟨HB4.out.cell (j:=2) rfl,HP4.out.cell (j:=0) rfl,HP4.out.cell (j:=1) rfl⟩
 clear hM4 hbut hm34 HB3 HP3 HL3 HW3 HX3
 go_region_held3 (λW=>W.cell? ⟨b,2,none⟩=some (.map (some il))∧W.cell? ⟨w.heap.size,0,none⟩=some (.int .u16 x)∧W.cell? ⟨w.heap.size,1,none⟩=some (.int .u32 y)) (first | exact hs3 | exact hs4) (fail)
 clear hs3 hs4 hrun
 have c3:=HB4.out.cell (j:=3) rfl
 go_wp2_with (at_range;refine Yo HW4.out Tryz.underlying197 rfl rfl rfl ?_;intro w5 hR5 hb5)
 go_frame
 have HB5:=hid (HB4.out.ext hb5)
 have HP5:=hid (HP4.out.ext hb5)
 have HL5:=hid (HL4.out.ext hb5)
 have HM5:Hid (Mut (λk=>k=b∨k=il∨k=iw∨w.heap.size≤k) w w5):=hid (HM4.out.trans ((Mut.of_below hb5).mono λk _ e=>.inr (.inr (.inr (Nat.le_trans HM4.out.size e)))))
 have HR5:=hid hR5
 obtain ⟨tb,htb⟩:∃tb,w4.heap.size=tb:=⟨_,rfl⟩
 have HT:Hid (w.heap.size≤tb∧w.heap.size<tb):=hid (by have h1:=HP4.out.lt;omega)
 rw [htb] at HR5
 try rw [htb]
 clear c3 hR5 hb5 htb HB4 HP4 HL4 HW4 HM4
 have HPQ:=HP5
 go_loopw [8] (λ_ wr=>(wr=w5)∨(Hid (Zn wr iw tb KQ sv [] [])∧Hid (Zc wr b 199 (ibC i ma mc il iw 0))∧Hid (Zj wr il Yg n64 [((x,y),1)])∧Hid (Mut (λk=>k=b∨k=il∨k=iw∨w.heap.size≤k) w wr))) (λ_ wr=>wr.rangeLeft iw tb)
 case atStart=>exact .inl rfl
 case round =>
  rcases hrel with rfl | ⟨HR9,HB9,HL9,HM9⟩
  ·rename World=>w5
   have HLE:=hid HR5.out.left_eq
   go_wp2_with (at_next;refine Yh HR5.out rfl rfl rfl ?_ ?_)
   ·intro hl
    exact absurd hl.out (by simp)
   ·intro x1 y1 n1 v1 s u w6 hl hR6 hbut hen
    obtain ⟨rfl,rfl,rfl,rfl,rfl,rfl⟩:s=[]∧x=x1∧y=y1∧n1=1∧v=v1∧u=[]:=by
     have h:=hl.out
     cases s with
     | nil =>
      simp only [List.nil_append,List.cons.injEq,Prod.mk.injEq] at h
      exact ⟨rfl,h.1.1.1,h.1.1.2.1,h.1.1.2.2.symm,h.1.2,h.2.symm⟩
     | cons a s=>simp at h
    have hen:(Instr.entry (.pointer (some ⟨tb,0,none⟩))).run Tryz.prog w6=.ok (.tuple #[.agg #[.int .u16 x,.int .u32 y,.int .u64 1],v]) w6:=hen
    have hm6:Mut (λk=>k=tb) w5 w6:=⟨hbut.os,hbut.tape,hbut.output,by rw [hbut.size];exact Nat.le_refl _,λk hk hf=>hbut.block k hf⟩
    have HB6:=hid (HB5.out.mut hm6 (λe=>by have:=HNE.out;have:=HT.out;omega))
    have HP6:=hid (HP5.out.mut hm6 (λe=>by have:=HT.out;omega))
    have HL6:Hid (Zj w6 il Yg n64 [((x,y),1)]):=hid (HL5.out.same (hm6.block il HL5.out.lt (λe=>by have:=HNE.out;have:=HT.out;omega)))
    have HM6:Hid (Mut (λk=>k=b∨k=il∨k=iw∨w.heap.size≤k) w w6):=hid (HM5.out.trans (hm6.mono λk _ e=>.inr (.inr (.inr (by have:=HT.out;omega)))))
    have HR6:Hid (Zn w6 iw tb KQ sv [((x,y,1),v)] []):=hid hR6
    have hpe:∀W,(binOp .eql 25 (.agg #[.int .u16 x,.int .u32 y]) (.agg #[.int .u16 x,.int .u32 y])).run Tryz.prog W=.ok (.bool true) W:=λW=>by have:=VK x y x y W;simpa using this
    have p0:=HP6.out.cell (j:=0) rfl
    have p1:=HP6.out.cell (j:=1) rfl
    have hplt:=HP6.out.lt
    clear hl hR6 hbut hm6
    go_upto_region 11 with fail
    obtain ⟨w7,hw7⟩:∃z,w6.alloc (.cells #[.int .u16 x,.int .u32 y,.int .u64 1] 361)=z:=⟨_,rfl⟩
    have hb7:Below w6.heap.size w6 w7:=by rw [←hw7];exact bra
    have xK:Zc w7 w6.heap.size 361 [.int .u16 x,.int .u32 y,.int .u64 1]:=by rw [←hw7];exact Zc.made _ _ _
    rw [hw7]
    have HB7:=hid (HB6.out.ext hb7)
    have HL7:=hid (HL6.out.ext hb7)
    have HM7:=hid (HM6.out.trans ((Mut.of_below hb7).mono λk _ e=>.inr (.inr (.inr (Nat.le_trans HM6.out.size e)))))
    have HK7:=hid xK
    obtain ⟨w8,hrun,hR8,hbut8⟩:=((HR6.out.ext hb7).ext (Below.refl _ _).drew).del1 (P:=Tryz.prog) zb1 Tryz.underlying197
    have hrun:∀tz,(Builtin.delete_ #[197,361] tz #[.map (some iw),.agg #[.int .u16 x,.int .u32 y,.int .u64 1]]).run Tryz.prog w7.drew=.ok (.tuple #[]) w8:=hrun
    have hm78:Mut (λk=>k=iw) w7 w8:=⟨hbut8.os,hbut8.tape,hbut8.output,by rw [hbut8.size];exact Nat.le_refl _,λk hk hf=>hbut8.block k hf⟩
    have HZ6:Hid (w.heap.size≤w6.heap.size):=hid HM6.out.size
    have HB8:=hid (HB7.out.mut hm78 HNE.out.2.1)
    have HK8:=hid (HK7.out.mut hm78 (λe=>by have:=HNE.out;have:=HZ6.out;omega))
    have HL8:Hid (Zj w8 il Yg n64 [((x,y),1)]):=hid (HL7.out.same (hm78.block il HL7.out.lt HNE.out.2.2.1))
    have HM8:Hid (Mut (λk=>k=b∨k=il∨k=iw∨w.heap.size≤k) w w8):=hid (HM7.out.trans (hm78.mono λk _ e=>.inr (.inr (.inl e))))
    have HR8:=hid hR8
    have hs7:w7.drew.cell? ⟨b,3,none⟩=some (.map (some iw))∧w7.drew.cell? ⟨w6.heap.size,0,none⟩=some (.int .u16 x)∧w7.drew.cell? ⟨w6.heap.size,1,none⟩=some (.int .u32 y)∧w7.drew.cell? ⟨w6.heap.size,2,none⟩=some (.int .u64 1):=⟨(HB7.out.ext (Below.refl _ _).drew).cell (j:=3) rfl,(HK7.out.ext (Below.refl _ _).drew).cell (j:=0) rfl,(HK7.out.ext (Below.refl _ _).drew).cell (j:=1) rfl,(HK7.out.ext (Below.refl _ _).drew).cell (j:=2) rfl⟩
    have hs8:w8.cell? ⟨b,3,none⟩=some (.map (some iw))∧w8.cell? ⟨w6.heap.size,0,none⟩=some (.int .u16 x)∧w8.cell? ⟨w6.heap.size,1,none⟩=some (.int .u32 y)∧w8.cell? ⟨w6.heap.size,2,none⟩=some (.int .u64 1):=⟨HB8.out.cell (j:=3) rfl,HK8.out.cell (j:=0) rfl,HK8.out.cell (j:=1) rfl,HK8.out.cell (j:=2) rfl⟩
    clear hw7 hb7 xK p0 p1 hplt hpe hen hR8 hbut8 hm78 HB6 HP6 HL6 HM6 HR6
    go_region_held3 (λW=>W.cell? ⟨b,3,none⟩=some (.map (some iw))∧W.cell? ⟨w6.heap.size,0,none⟩=some (.int .u16 x)∧W.cell? ⟨w6.heap.size,1,none⟩=some (.int .u32 y)∧W.cell? ⟨w6.heap.size,2,none⟩=some (.int .u64 1)) (first | exact hs7 | exact hs8) (fail)
    clear hs7 hs8 hrun
    go_wp2_with fail
    go_roundw
    case rel=>exact .inr ⟨HR8,HB8,HL8,HM8⟩
    case measure=>rw [HR8.out.left_eq,HLE.out];simp
  ·have b4:=HB9.out.cell (j:=4) rfl
   have fz:=HB9.out.frozen
   go_wp2_with (at_next;refine Yh HR9.out rfl rfl rfl ?_ ?_)
   ·intro hl
    go_wp2_with fail
    go_ret
    exact ⟨rfl,Zf (G:=λk=>k=b∨k=il∨k=iw∨w.heap.size≤k) HM9.out b _ _ (.inl rfl),HB9.out.set (j:=4) (v:=.int .i64 1),HL9.out.same ((Zf (G:=λk=>k=b) (Mut.refl _ _) b _ _ rfl).block il HL9.out.lt (λe=>HNE.out.1 e.symm)),HR9.out.map.same ((Zf (G:=λk=>k=b) (Mut.refl _ _) b _ _ rfl).block iw HR9.out.map.lt (λe=>HNE.out.2.1 e.symm))⟩
   ·intro x1 y1 n1 v1 s u w6 hl hR6 hbut hen
    exact absurd hl.out (by simp)
set_option maxRecDepth 100000 in
set_option maxHeartbeats 3200000 in
theorem tReport1 {V:Zs} {i:Nat} {A:VAd} {w:World} {b ta tl:Nat} {x y:Int} (hi:V.id=(i:Int)) (hB:Zc w b 277 (vcl V i A ++ [.map (some ta),.map (some tl)])) (hV:Zt w A.am A.al A.ad V) (hM:Zj w ta Yg n64 []) (hp:(x,y)∈V.ms) :
  Calls Tryz.prog 132 #[.pointer (some ⟨b,0,none⟩),.agg #[.int .u16 x,.int .u32 y],.int .u64 1] w λe w'=>e=.returned (.bool true)∧Mut (λk=>k=ta∨w.heap.size≤k) w w'∧Zj w' ta Yg n64 [((x,y),1)]:=by
 obtain ⟨am,al,ad,cm,cl,cd⟩:=A
 obtain ⟨n1,e1⟩:∃q,V.ms.length=q:=⟨_,rfl⟩
 obtain ⟨n2,e2⟩:∃q,V.ls.length=q:=⟨_,rfl⟩
 obtain ⟨n3,e3⟩:∃q,V.ds.length=q:=⟨_,rfl⟩
 have hB:Zc w b 277 [.int .u64 i,.slice am n1 cm,.slice al n2 cl,.slice ad n3 cd,.map (some ta),.map (some tl)]:=by
  have:=hB;unfold vcl at this;rw [e1,e2,e3] at this;exact this
 obtain ⟨W1,hW1⟩:∃W1,w.alloc (.cells #[.int .u16 x,.int .u32 y] 25)=W1:=⟨_,rfl⟩
 have hb1:Below w.heap.size w W1:=by rw [←hW1];exact bra
 have xP:Zc W1 w.heap.size 25 [.int .u16 x,.int .u32 y]:=by rw [←hW1];exact Zc.made _ _ _
 have HB1:=hid (hB.ext hb1)
 have HP1:=hid xP
 have HV1:=hid (hV.ext hb1)
 have HM1:=hid (hM.ext hb1)
 have HX1:=hid hb1
 have HPM:=hid hp
 have HE:=hid (And.intro e1 (And.intro e2 (And.intro e3 hi)))
 have HNE:Hid (b≠ta∧b<w.heap.size∧ta<w.heap.size):=hid ⟨hM.ne_cell (hB.cell (j:=0) rfl),hB.lt,hM.lt⟩
 clear hB hV hM hp hi hb1 xP e1 e2 e3
 go_enter Tryz.func132,Tryz.ntmps132
 go_upto_region 1 with fail
 try rw [hW1]
 clear hW1
 have s0:=Za (HB1.out.cell (j:=0) rfl)
 have s1:=Za (HB1.out.cell (j:=1) rfl)
 have s2:=Za (HB1.out.cell (j:=2) rfl)
 have s3:=Za (HB1.out.cell (j:=3) rfl)
 have s4:=Za (HB1.out.cell (j:=4) rfl)
 have p0:=Za (HP1.out.cell (j:=0) rfl)
 have p1:=Za (HP1.out.cell (j:=1) rfl)
 have hl:∀U:YB W1,(Instr.lookup 196 (.map (some ta)) (.agg #[.int .u16 x,.int .u32 y]) false).run Tryz.prog U.W=.ok (.int .u64 0) U.W:=λU=>(HM1.out.ext U.h).none64 x y
 have CH:∀U:YB W1,Calls Tryz.prog 27 #[.agg #[.int .u64 i,.slice am n1 cm,.slice al n2 cl,.slice ad n3 cd],.agg #[.int .u16 x,.int .u32 y]] U.W λe w'=>e=.returned (.bool true)∧∃U':YB W1,w'=U'.W:=λU=>by
  have h:=XO V am al ad cm cl cd x y U.W (HV1.out.ext U.h)
  rw [HE.out.1,HE.out.2.1,HE.out.2.2.1,HE.out.2.2.2,show decide ((x,y)∈V.ms)=true from decide_eq_true HPM.out] at h
  exact ZN h rfl
 refine Ze (w:=W1) (Below.refl _ _) (by kernel_rfl) (by kernel_rfl) ?_
 repeat (go_big_quiet_step (with_reducible exact CH _))
 refine wpQuiet_nil ?_
 rintro w3 ⟨⟨_,hb3⟩,rfl⟩
 have HB3:=hid (HB1.out.ext hb3)
 have HP3:=hid (HP1.out.ext hb3)
 have HM3:=hid (HM1.out.ext hb3)
 have HX3:=hid (HX1.out.trans (hb3.mono HX1.out.size))
 clear s0 s1 s2 s3 s4 p0 p1 hl CH hb3 HB1 HP1 HM1 HX1 HV1
 go_upto_region 3 with fail
 obtain ⟨w4,hrun,hM4,hbut⟩:=(HM3.out.ext (Below.refl _ _).drew).update Xa Tryz.underlying196 (x,y) 1
 have hrun:(Instr.mapUpdate 196 (.map (some ta)) (.agg #[.int .u16 x,.int .u32 y]) (.int .u64 1)).run Tryz.prog w3.drew=.ok () w4:=hrun
 have hm34:Mut (λk=>k=ta) w3 w4:=⟨hbut.os,hbut.tape,hbut.output,by rw [hbut.size];exact Nat.le_refl _,λk hk hf=>hbut.block k hf⟩
 have HB4:=hid (HB3.out.mut hm34 HNE.out.1)
 have HP4:=hid (HP3.out.mut hm34 (λe=>by have:=HNE.out;omega))
 have HL4:Hid (Zj w4 ta Yg n64 [((x,y),1)]):=hid hM4
 have HM4:Hid (Mut (λk=>k=ta∨w.heap.size≤k) w w4):=hid (((Mut.of_below HX3.out).mono λk _ e=>.inr e).trans (hm34.mono λk _ e=>.inl e))
 have hs3:w3.drew.cell? ⟨b,4,none⟩=some (.map (some ta))∧w3.drew.cell? ⟨w.heap.size,0,none⟩=some (.int .u16 x)∧w3.drew.cell? ⟨w.heap.size,1,none⟩=some (.int .u32 y):=⟨(HB3.out.ext (Below.refl _ _).drew).cell (j:=4) rfl,(HP3.out.ext (Below.refl _ _).drew).cell (j:=0) rfl,(HP3.out.ext (Below.refl _ _).drew).cell (j:=1) rfl⟩
 have hs4:w4.cell? ⟨b,4,none⟩=some (.map (some ta))∧w4.cell? ⟨w.heap.size,0,none⟩=some (.int .u16 x)∧w4.cell? ⟨w.heap.size,1,none⟩=some (.int .u32 y):=⟨HB4.out.cell (j:=4) rfl,HP4.out.cell (j:=0) rfl,HP4.out.cell (j:=1) rfl⟩
 clear hM4 hbut hm34 HB3 HP3 HM3 HX3
 go_region_held3 (λW=>W.cell? ⟨b,4,none⟩=some (.map (some ta))∧W.cell? ⟨w.heap.size,0,none⟩=some (.int .u16 x)∧W.cell? ⟨w.heap.size,1,none⟩=some (.int .u32 y)) (first | exact hs3 | exact hs4) (fail)
 clear hs3 hs4 hrun
 go_wp2_with fail
 go_ret
 exact ⟨rfl,HM4.out,HL4.out⟩
abbrev KS (r:Nat→Int):Array Value:=#[.int .u32 (r 0),.int .u32 (r 1),.int .u32 (r 2),.int .u32 (r 3),.int .u32 (r 4),.int .u32 (r 5),.int .u32 (r 6),.int .u32 (r 7),.int .u32 (r 8),.int .u32 (r 9),.int .u32 (r 10),.int .u32 (r 11),.int .u32 (r 12),.int .u32 (r 13),.int .u32 (r 14),.int .u32 (r 15)]
theorem FK (r:Nat→Int) {i:Nat} (h:i<16):(KS r)[i]?=some (.int .u32 (r i)):=by
 rcases (show i=0∨i=1∨i=2∨i=3∨i=4∨i=5∨i=6∨i=7∨i=8∨i=9∨i=10∨i=11∨i=12∨i=13∨i=14∨i=15 by omega) with rfl | rfl | rfl | rfl | rfl | rfl | rfl | rfl | rfl | rfl | rfl | rfl | rfl | rfl | rfl | rfl <;> rfl
def Zv (r:Nat→Int) (p:Pid):Bool:=KM p && decide (p.2≤r p.1.toNat)
theorem zdQ {x y:Int} {w0:World} {U:YB w0} {b:Bool} (h:Hid (KM (x,y)=b)):Calls Tryz.prog 159 #[.agg #[.int .u16 x,.int .u32 y]] U.W λe w'=>e=.returned (.bool b)∧∃U':YB w0,w'=U'.W :=
 ZN (zeB x y U.W) (by rw [h.out])
set_option maxRecDepth 100000 in
set_option maxHeartbeats 1600000 in
theorem zer (r:Nat→Int) (x y:Int) (w:World) (hx:0≤x):Calls Tryz.prog 185 #[.agg (KS r),.agg #[.int .u16 x,.int .u32 y]] w λe w'=>e=.returned (.bool (Zv r (x,y)))∧Below w.heap.size w w':=by
 obtain ⟨i,rfl⟩:∃i:Nat,x=(i:Int):=Int.eq_ofNat_of_zero_le hx
 have hB:Below w.heap.size w ((w.alloc (.cells (KS r) 92)).alloc (.cells #[.int .u16 i,.int .u32 y] 25)):=(bra).alloc (by simp) _
 have k0:((w.alloc (.cells (KS r) 92)).alloc (.cells #[.int .u16 i,.int .u32 y] 25)).cell? ⟨w.heap.size+1,0,none⟩=some (.int .u16 i):=by simp
 have k1:((w.alloc (.cells (KS r) 92)).alloc (.cells #[.int .u16 i,.int .u32 y] 25)).cell? ⟨w.heap.size+1,1,none⟩=some (.int .u32 y):=by simp
 have hz:w.heap.size≤((w.alloc (.cells (KS r) 92)).alloc (.cells #[.int .u16 i,.int .u32 y] 25)).heap.size:=by simp;omega
 have hr0:(w.alloc (.cells (KS r) 92)).heap[w.heap.size]?=some (.cells (KS r) 92):=by
  show (w.heap.push _)[w.heap.size]?=_
  simp only [Array.getElem?_push_size]
 have k2:∀h:i<16,((w.alloc (.cells (KS r) 92)).alloc (.cells #[.int .u16 i,.int .u32 y] 25)).cell? ⟨w.heap.size,i,none⟩=some (.int .u32 (r i)):=λh=>by
  refine (Below.cell (p:=⟨w.heap.size,i,none⟩) (bra) (by simp)).trans ?_
  simp only [World.cell?,hr0]
  exact FK r h
 clear hr0
 go_enter Tryz.func185,Tryz.ntmps185
 go_wp2
 revert hB hz k0 k1 k2
 generalize (w.alloc (.cells (KS r) 92)).alloc (.cells #[.int .u16 i,.int .u32 y] 25)=wr
 intro hB k0 k1 hz k2
 have f0:=Za k0
 have f1:=Za k1
 cases hm:KM ((i:Int),y)
 ·have HM:=hid hm
  have HD:Hid (Zv r ((i:Int),y)=false):=hid (by unfold Zv;rw [hm];rfl)
  clear hm k0 k1 k2
  refine Ze (w:=wr) (Below.refl _ _) (by kernel_rfl) (by kernel_rfl) ?_
  repeat (go_big_quiet_step (exact zdQ HM))
  refine wpQuiet_nil ?_
  rintro w9 ⟨⟨_,hb9⟩,rfl⟩
  go_wp2
  go_ret
  exact ⟨by rw [HD.out];rfl,hB.trans (hb9.mono hz)⟩
 ·have HM:=hid hm
  have hi:i<16:=by
   have:(i:Int)<16:=by simp [KM] at hm;omega
   omega
  have f2:=Za (k2 hi)
  obtain ⟨b,hb⟩:∃b,decide (y≤r i)=b:=⟨_,rfl⟩
  have HD:Hid (Zv r ((i:Int),y)=b):=hid (by unfold Zv;rw [hm,← hb];simp)
  have hi2:decide ((i:Int)<16)=true:=by simp;omega
  have hi0:(0:Int)≤(i:Int):=by omega
  have hi3:(i:Int)<16:=by omega
  clear hm k0 k1 k2
  refine Ze (w:=wr) (Below.refl _ _) (by kernel_rfl) (by kernel_rfl) ?_
  repeat (go_big_quiet_step (exact zdQ HM))
  refine wpQuiet_nil ?_
  rintro w9 ⟨⟨_,hb9⟩,rfl⟩
  go_wp2
  go_ret
  exact ⟨by rw [HD.out];rfl,hB.trans (hb9.mono hz)⟩
end Go.Proofs.YtcdpaflmofljaaaGreat
namespace Go.Proofs.YtcdpaflmofljaaaGreat
def zdp:Option Pid→Pid × Bool
 | none=>((0,0),false)
 | some p=>(p,true)
def XJ (S:Pid→Bool) (l:List Pid):List Pid:=l.filter λp=>!S p
def YR (S:Pid→Bool) (l:List Pid):Option Pid:=(XJ S l).head?
def Ji (V:Zs) (S:Pid→Bool):Option Pid:=YR S V.ds
def KK (V:Zs) (S:Pid→Bool) (k:Int):Option Pid:=if k<0 then none else match V.ls[k.toNat]? with | none=>none | some l=>YR S l
def Xg (V:Zs) (S:Pid→Bool) (p:Pid):Bool:=decide (KK V S (XV V.ls p)=some p)
def YW (V:Zs) (S:Pid→Bool) (p:Pid):Bool:=decide (Ji V S=some p)
def ZR (V:Zs) (S:Pid→Bool):List Pid:=V.ls.filterMap (YR S)
def XG (V:Zs) (p:Pid):List Pid:=if XV V.ls p<0 then [] else V.ls.getD (XV V.ls p).toNat []
def ZY (V:Zs) (p:Pid) (L:List (List Pid)):List Pid:=V.ms.filter λq=>decide (q∈L.flatten) && !decide (q=p)
def zdX (V:Zs) (S:Pid→Bool) (p:Pid):List (List Pid):=(if YW V S p=true then [ZR V S] else []) ++ (if Xg V S p=true then [XG V p] else [])
def Gj (V:Zs) (S:Pid→Bool) (p:Pid):List Pid:=ZY V p (zdX V S p)
def zdc (V:Zs) (p:Pid):List (List Pid):=[XG V p] ++ (if p∈V.ds then [V.ds] else [])
def ZI (V:Zs) (p:Pid):List Pid:=if p∈V.ms then ZY V p (zdc V p) else []
def zat (V:Zs) (S:Pid→Bool) (p:Pid):List (List Pid):=[ZI V p] ++ (if YW V S p=true then [ZR V S] else []) ++ (if Xg V S p=true then [V.ds] else [])
def Kj (V:Zs) (S:Pid→Bool) (p:Pid):List Pid:=ZY V p (zat V S p)
theorem Ea {V:Zs} {S:Pid→Bool} {q:Pid}:q∈ZR V S↔∃l∈V.ls,YR S l=some q:=by
 simp [ZR,List.mem_filterMap]
theorem zcB {S:Pid→Bool} {l:List Pid} {q:Pid} (h:YR S l=some q):q∈l∧S q=false:=by
 have:=List.mem_of_mem_head? (a:=q) (l:=XJ S l) (by rw [show (XJ S l).head?=_ from h];simp)
 simpa [XJ] using this
structure GoodV (V:Zs):Prop where
 nd:V.ms.Nodup
 one:∀p∈V.ms,V.ls.flatten.count p=1
 sub:∀l∈V.ls,∀p∈l,p∈V.ms
 dsub:∀p∈V.ds,p∈V.ms
 len:V.ms.length≤24
 llen:V.ls.length≤24
 le:∀l∈V.ls,l.length≤24
 ld:V.ds.length≤24
section
variable {V:Zs} {S:Pid→Bool} (hV:GoodV V)
include hV
end
end Go.Proofs.YtcdpaflmofljaaaGreat
