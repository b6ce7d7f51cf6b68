import Derived.Test.YtcdpaflmofljaaaGreatGNodeNil13
/- Parts of the proof of NodeNil: LY. -/
namespace Go.Proofs.YtcdpaflmofljaaaGreat
open Go.RowKit
structure N1 (cs:List Value) (x y:Int) (i:Nat) (A:VAd):Prop where
 c0:cs[0]?=some (.int .u16 x)
 c1:cs[1]?=some (.int .u32 y)
 c5:cs[5]?=some (.int .i64 1)
 c9:cs[9]?=some (.int .u64 i)
 c10:cs[10]?=some (.slice A.am 1 A.cm)
 c11:cs[11]?=some (.slice A.al 1 A.cl)
 c12:cs[12]?=some (.slice A.ad 1 A.cd)
 ru:∀j,j<16→cs[25+j]?=some (.int .u32 0)
structure V1 (V:Zs) (x y:Int) (i:Nat):Prop where
 id:V.id=(i:Int)
 ms:V.ms=[(x,y)]
 ls:V.ls=[[(x,y)]]
 ds:V.ds=[(x,y)]
 ok:okP (x,y)
 may:KM (x,y)=true
 pos:0<y
theorem V1.chief {V:Zs} {x y:Int} {i:Nat} (h:V1 V x y i):Ji V (Zv λ_=>0)=some (x,y):=by
 have hs:Zv (λ_=>0) (x,y)=false:=by
  unfold Zv
  have h1:=h.pos
  rw [decide_eq_false (by simp only;omega),Bool.and_false]
 unfold Ji
 rw [h.ds]
 simp [YR,XJ,hs]
section
variable {w:World} {nb:Nat} {cs:List Value} {x y:Int} {i:Nat} {A:VAd} {V:Zs}
theorem XR (hB:Zc w nb 98 cs) (hN:N1 cs x y i A):Calls Tryz.prog 34 #[.pointer (some ⟨nb,0,none⟩)] w λe w'=>e=.returned (.bool true)∧w'=w:=by
 have c5:=hB.cell hN.c5
 clear hB hN
 go_enter Tryz.func34,Tryz.ntmps34
 go_wp2_with fail
 go_ret
 exact ⟨rfl,rfl⟩
set_option maxRecDepth 100000 in
set_option maxHeartbeats 6400000 in
theorem EV (hB:Zc w nb 98 cs) (hN:N1 cs x y i A) (hV:Zt w A.am A.al A.ad V) (h1:V1 V x y i) (hf:Gb V):Calls Tryz.prog 92 #[.pointer (some ⟨nb,0,none⟩)] w λe w'=>e=.returned (.bool true)∧Below w.heap.size w w':=by
 have hch:∀W,Below w.heap.size w W→Calls Tryz.prog 189 #[.agg #[.int .u64 i,.slice A.am 1 A.cm,.slice A.al 1 A.cl,.slice A.ad 1 A.cd],.agg #[.int .u32 0,.int .u32 0,.int .u32 0,.int .u32 0,.int .u32 0,.int .u32 0,.int .u32 0,.int .u32 0,.int .u32 0,.int .u32 0,.int .u32 0,.int .u32 0,.int .u32 0,.int .u32 0,.int .u32 0,.int .u32 0]] W λe w'=>e=.returned (.tuple #[.agg #[.int .u16 x,.int .u32 y],.bool true])∧Below W.heap.size W w':=λW hb=>by
  have h:=KU (r:=λ_=>0) (cm:=A.cm) (cl:=A.cl) (cd:=A.cd) (hid h1.chief) (hV.ext hb) hf
  have e:YM V A.am A.al A.ad A.cm A.cl A.cd=.agg #[.int .u64 i,.slice A.am 1 A.cm,.slice A.al 1 A.cl,.slice A.ad 1 A.cd]:=by unfold YM;rw [h1.id,h1.ms,h1.ls,h1.ds];rfl
  rw [e] at h
  exact h
 have CC:Hid (∀W,Below w.heap.size w W→Calls Tryz.prog 189 #[.agg #[.int .u64 i,.slice A.am 1 A.cm,.slice A.al 1 A.cl,.slice A.ad 1 A.cd],.agg #[.int .u32 0,.int .u32 0,.int .u32 0,.int .u32 0,.int .u32 0,.int .u32 0,.int .u32 0,.int .u32 0,.int .u32 0,.int .u32 0,.int .u32 0,.int .u32 0,.int .u32 0,.int .u32 0,.int .u32 0,.int .u32 0]] W λe w'=>e=.returned (.tuple #[.agg #[.int .u16 x,.int .u32 y],.bool true])∧Below w.heap.size w w'):=hid λW hb=>(hch W hb).mono λe w' ⟨h1,h2⟩=>⟨h1,hb.trans (h2.mono hb.size)⟩
 have CC5:Hid (∀w5,Below w.heap.size w w5→∀W,Below w5.heap.size w5 W→Calls Tryz.prog 189 #[.agg #[.int .u64 i,.slice A.am 1 A.cm,.slice A.al 1 A.cl,.slice A.ad 1 A.cd],.agg #[.int .u32 0,.int .u32 0,.int .u32 0,.int .u32 0,.int .u32 0,.int .u32 0,.int .u32 0,.int .u32 0,.int .u32 0,.int .u32 0,.int .u32 0,.int .u32 0,.int .u32 0,.int .u32 0,.int .u32 0,.int .u32 0]] W λe w'=>e=.returned (.tuple #[.agg #[.int .u16 x,.int .u32 y],.bool true])∧Below w5.heap.size w5 w'):=hid λw5 h5 W hb=>(hch W (h5.trans (hb.mono h5.size))).mono λe w' ⟨h1,h2⟩=>⟨h1,hb.trans (h2.mono hb.size)⟩
 have HS:Hid (∀W,Below w.heap.size w W→W.cell? ⟨nb,9,none⟩=some (.int .u64 i)∧W.cell? ⟨nb,10,none⟩=some (.slice A.am 1 A.cm)∧W.cell? ⟨nb,11,none⟩=some (.slice A.al 1 A.cl)∧W.cell? ⟨nb,12,none⟩=some (.slice A.ad 1 A.cd)∧W.cell? ⟨nb,25,none⟩=some (.int .u32 0)∧W.cell? ⟨nb,26,none⟩=some (.int .u32 0)∧W.cell? ⟨nb,27,none⟩=some (.int .u32 0)∧W.cell? ⟨nb,28,none⟩=some (.int .u32 0)∧W.cell? ⟨nb,29,none⟩=some (.int .u32 0)∧W.cell? ⟨nb,30,none⟩=some (.int .u32 0)∧W.cell? ⟨nb,31,none⟩=some (.int .u32 0)∧W.cell? ⟨nb,32,none⟩=some (.int .u32 0)∧W.cell? ⟨nb,33,none⟩=some (.int .u32 0)∧W.cell? ⟨nb,34,none⟩=some (.int .u32 0)∧W.cell? ⟨nb,35,none⟩=some (.int .u32 0)∧W.cell? ⟨nb,36,none⟩=some (.int .u32 0)∧W.cell? ⟨nb,37,none⟩=some (.int .u32 0)∧W.cell? ⟨nb,38,none⟩=some (.int .u32 0)∧W.cell? ⟨nb,39,none⟩=some (.int .u32 0)∧W.cell? ⟨nb,40,none⟩=some (.int .u32 0)):=hid λW hb=>⟨(hB.ext hb).cell hN.c9,(hB.ext hb).cell hN.c10,(hB.ext hb).cell hN.c11,(hB.ext hb).cell hN.c12,(hB.ext hb).cell (hN.ru 0 (by decide)),(hB.ext hb).cell (hN.ru 1 (by decide)),(hB.ext hb).cell (hN.ru 2 (by decide)),(hB.ext hb).cell (hN.ru 3 (by decide)),(hB.ext hb).cell (hN.ru 4 (by decide)),(hB.ext hb).cell (hN.ru 5 (by decide)),(hB.ext hb).cell (hN.ru 6 (by decide)),(hB.ext hb).cell (hN.ru 7 (by decide)),(hB.ext hb).cell (hN.ru 8 (by decide)),(hB.ext hb).cell (hN.ru 9 (by decide)),(hB.ext hb).cell (hN.ru 10 (by decide)),(hB.ext hb).cell (hN.ru 11 (by decide)),(hB.ext hb).cell (hN.ru 12 (by decide)),(hB.ext hb).cell (hN.ru 13 (by decide)),(hB.ext hb).cell (hN.ru 14 (by decide)),(hB.ext hb).cell (hN.ru 15 (by decide))⟩
 have HB:=hid hB
 have HN:=hid hN
 clear hch hV h1 hf hB hN
 go_enter Tryz.func92,Tryz.ntmps92
 go_upto_region 1 with fail
 go_cut [3,4] (λu3 u4 wx=>u4=.bool true∧∃g,u3=.pointer (some ⟨g,0,none⟩)∧Hid (Below w.heap.size w wx)∧Hid (Zc wx g 25 [.int .u16 x,.int .u32 y]))
 case first =>
  refine rhd HS.out ((Below.refl _ _).drew) λhHeld=>?_
  refine tkv 0 (.pointer (some ⟨nb,0,none⟩)) rfl ?_
  refine tkv 1 (.pointer (some ⟨nb,0,none⟩)) rfl ?_
  refine tkv 2 (.pointer (some ⟨nb,9,none⟩)) rfl ?_
  refine tkv 3 (.pointer (some ⟨nb,9,none⟩)) rfl ?_
  refine tkv 4 (.agg #[.int .u64 i,.slice A.am 1 A.cm,.slice A.al 1 A.cl,.slice A.ad 1 A.cd]) rfl ?_
  refine tkv 5 (.pointer (some ⟨nb,0,none⟩)) rfl ?_
  refine tkv 6 (.pointer (some ⟨nb,0,none⟩)) rfl ?_
  refine tkv 7 (.pointer (some ⟨nb,25,none⟩)) rfl ?_
  refine tkv 8 (.agg #[.int .u32 0,.int .u32 0,.int .u32 0,.int .u32 0,.int .u32 0,.int .u32 0,.int .u32 0,.int .u32 0,.int .u32 0,.int .u32 0,.int .u32 0,.int .u32 0,.int .u32 0,.int .u32 0,.int .u32 0,.int .u32 0]) rfl ?_
  refine rd (rs:=[9,13]) ?_
  refine AllReadyH.cons (o:=_) rfl (λK hK=>?_) (AllReadyH.cons (o:=_) rfl (λK hK=>?_) AllReadyH.nil)
  ·go_simp
   refine (CC.out _ (Below.refl _ _).drew).mono ?_
   rintro e w6 ⟨rfl,hb6⟩
   refine hK.out _ _ (HS.out _ hb6) (λhHeld=>?_)
   clear hK K
   try simp only [lay]
   refine tkv 10 (.tuple #[.agg #[.int .u16 x,.int .u32 y],.bool true]) rfl ?_
   refine tkv 11 (.agg #[.int .u16 x,.int .u32 y]) rfl ?_
   refine tkv 12 (.bool true) rfl ?_
   refine rd1 13 rfl λK hK=>?_
   go_simp
   have hb7:Below w.heap.size w (w6.alloc (.cells #[.int .u16 0,.int .u32 0] 25)):=Zd hb6 _
   refine hK.out _ _ (HS.out _ hb7) (λhHeld=>?_)
   clear hK K
   try simp only [lay]
   refine rd1 14 rfl λK hK=>?_
   go_simp
   have hb8:Below w.heap.size w (w6.alloc (.cells #[.int .u16 x,.int .u32 y] 25)):=Zd hb6 _
   refine hK.out _ _ (HS.out _ hb8) (λhHeld=>?_)
   clear hK K
   try simp only [lay]
   refine rd1 15 rfl λK hK=>?_
   go_simp
   refine hK.out _ _ (HS.out _ hb8) (λhHeld=>?_)
   clear hK K
   try simp only [lay]
   refine dn ?_
   go_wp2_with fail
   go_meet
   exact ⟨rfl,_,rfl,hid hb8,hid (Zc.made w6 _ [.int .u16 x,.int .u32 y])⟩
  ·go_simp
   obtain ⟨w5,hw5⟩:∃z,(w.alloc (.cells #[.int .u16 0,.int .u32 0] 25)).drew=z:=⟨_,rfl⟩
   have hb5:Below w.heap.size w w5:=by rw [←hw5];exact (Zd (Below.refl _ _) _).drew
   have hx5:Zc w5 w.heap.size 25 [.int .u16 0,.int .u32 0]:=by rw [←hw5];exact (Zc.made w _ _).ext (Below.refl _ _).drew
   try rw [hw5]
   clear hw5
   refine hK.out _ _ (HS.out _ hb5) (λhHeld=>?_)
   clear hK K
   try simp only [lay]
   refine rd1 9 rfl λK hK=>?_
   go_simp
   refine (CC5.out _ hb5 _ (Below.refl _ _)).mono ?_
   rintro e w6 ⟨rfl,hb56⟩
   have hb6:=hb5.trans (hb56.mono hb5.size)
   have hx6:=hx5.ext hb56
   refine hK.out _ _ (HS.out _ hb6) (λhHeld=>?_)
   clear hK K
   try simp only [lay]
   refine tkv 10 (.tuple #[.agg #[.int .u16 x,.int .u32 y],.bool true]) rfl ?_
   refine tkv 11 (.agg #[.int .u16 x,.int .u32 y]) rfl ?_
   refine tkv 12 (.bool true) rfl ?_
   refine rd1 14 rfl λK hK=>?_
   have d0:=hx6.cell (j:=0) rfl
   have d1:=hx6.cell (j:=1) rfl
   have df:=hx6.frozen
   go_simp
   obtain ⟨w7,hw7⟩:∃z,((w6.setCell ⟨w.heap.size,0,none⟩ (.int .u16 x)).setCell ⟨w.heap.size,1,none⟩ (.int .u32 y))=z:=⟨_,rfl⟩
   have hx7:Zc w7 w.heap.size 25 [.int .u16 x,.int .u32 y]:=by rw [←hw7];exact (hx6.set (j:=0) (v:=.int .u16 x)).set (j:=1) (v:=.int .u32 y)
   have hb7:Below w.heap.size w w7:=by rw [←hw7];exact Zi (Zi hb6 (Nat.le_refl _)) (Nat.le_refl _)
   rw [hw7]
   clear hw7 d0 d1 df
   refine hK.out _ _ (HS.out _ hb7) (λhHeld=>?_)
   clear hK K
   try simp only [lay]
   refine rd1 15 rfl λK hK=>?_
   go_simp
   refine hK.out _ _ (HS.out _ hb7) (λhHeld=>?_)
   clear hK K
   try simp only [lay]
   refine dn ?_
   go_wp2_with fail
   go_meet
   exact ⟨rfl,_,rfl,hid hb7,hid hx7⟩
 case rest =>
  obtain ⟨rfl,g,rfl,HW4,HG4⟩:=hcut
  rename World=>w4
  have HB4:=hid (HB.out.ext HW4.out)
  clear HS CC CC5 HB
  go_upto_region 2 with fail
  have c0:=Za (HB4.out.cell HN.out.c0)
  have c1:=Za (HB4.out.cell HN.out.c1)
  have g0:=Za (HG4.out.cell (j:=0) rfl)
  have g1:=Za (HG4.out.cell (j:=1) rfl)
  have hpe:∀W,(binOp .eql 25 (.agg #[.int .u16 x,.int .u32 y]) (.agg #[.int .u16 x,.int .u32 y])).run Tryz.prog W=.ok (.bool true) W:=λW=>by have:=VK x y x y W;simpa using this
  have CI:∀U:YB w4,Calls Tryz.prog 34 #[.pointer (some ⟨nb,0,none⟩)] U.W λe w'=>e=.returned (.bool true)∧∃U':YB w4,w'=U'.W:=λU=>ZN ((XR (HB4.out.ext U.h) HN.out).mono λe w' ⟨h1,h2⟩=>⟨h1,by rw [h2];exact Below.refl _ _⟩) rfl
  refine Ze (w:=w4) (Below.refl _ _) (by kernel_rfl) (by kernel_rfl) ?_
  repeat (go_big_quiet_step (with_reducible exact CI _))
  refine wpQuiet_nil ?_
  rintro w5 ⟨⟨_,hb5⟩,rfl⟩
  go_wp2_with fail
  go_ret
  exact ⟨rfl,HW4.out.trans (hb5.mono HW4.out.size)⟩
end
end Go.Proofs.YtcdpaflmofljaaaGreat
