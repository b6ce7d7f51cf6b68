import Derived.Test.YtcdpaflmofljaaaGreatGNodeNil23
/- Parts of the proof of NodeNil: MH. -/
namespace Go.Proofs.YtcdpaflmofljaaaGreat
open Go.RowKit
theorem V1.sound {V:Zs} {x y:Int} {i:Nat} (h:V1 V x y i):Zv (λ_=>0) (x,y)=false:=by
 unfold Zv
 have h1:=h.pos
 rw [decide_eq_false (by simp only;omega),Bool.and_false]
set_option maxRecDepth 100000 in
set_option maxHeartbeats 3200000 in
theorem QU (r:Nat→Int) (a:Option Addr) (c:Nat) (xs:List Pid) (w:World) (hwf:XC xs) (hn:xs.length≤549755813888) (hrow:Zb w a xs) (hno:∀p∈xs,Zv r p=false) :
  Calls Tryz.prog 85 #[.agg (KS r),.slice a xs.length c] w λe w'=>∃u,e=.returned (.tuple #[.slice none 0 0,u])∧(xs.length=0→u=.slice none 0 0)∧Below w.heap.size w w':=by
 have hB1:Below w.heap.size w (w.alloc (.cells (KS r) 92)):=bra
 have hR1:=Yb.made w r
 have hx1:=hrow.ext hB1
 have hz1:w.heap.size<(w.alloc (.cells (KS r) 92)).heap.size:=by simp
 go_enter Tryz.func85,Tryz.ntmps85
 go_wp2
 generalize w.alloc (.cells (KS r) 92)=w1 at *
 go_loopw [4,5,10] (λv u i wr=>∃(k:Nat) (B:List Pid),k≤xs.length∧i=.int .i64 k∧v=.slice none 0 0∧B.length≤k∧Hid (k=0→u=.slice none 0 0)∧Zy wr w1.heap.size u B∧Below w1.heap.size w1 wr) (λ_ _ i _=>xs.length - (intOf i).toNat)
 case atStart=>exact ⟨0,[],Nat.zero_le _,rfl,rfl,Nat.le_refl _,hid λ_=>rfl,Zy.nil _ _,Below.refl _ _⟩
 case round =>
  obtain ⟨k,B,hk,rfl,rfl,hBl,hu0,huB,hb⟩:=hrel
  have hs0:=hb.size
  by_cases hlt:k<xs.length
  ·obtain ⟨pb,po,x,y,rfl,hpx,d1,d2⟩:=hx1.at hb rfl hlt
   have hmem:(x,y)∈xs:=by rw [hpx];exact List.getElem_mem _
   have hx0:0≤x:=by have:=hwf (x,y) hmem;exact this.1
   have hB2:Below w1.heap.size w1 (wr.alloc (.cells #[.int .u16 x,.int .u32 y] 25)):=hb.alloc hb.size _
   have hR2:=(hR1.ext hb hz1).ext (B:=wr.heap.size) ((Below.refl wr.heap.size wr).alloc (Nat.le_refl _) (.cells #[.int .u16 x,.int .u32 y] 25)) (by omega)
   obtain ⟨q0,q1,q2,q3,q4,q5,q6,q7,q8,q9,q10,q11,q12,q13,q14,q15⟩:=hR2.all
   have p0:(wr.alloc (.cells #[.int .u16 x,.int .u32 y] 25)).cell? ⟨wr.heap.size,0,none⟩=some (.int .u16 x):=by simp
   have p1:(wr.alloc (.cells #[.int .u16 x,.int .u32 y] 25)).cell? ⟨wr.heap.size,1,none⟩=some (.int .u32 y):=by simp
   have HX1:=hid hx1
   have HR1:=hid hR1
   have HR2:=hid hR2
   have HS:=hid (hno _ hmem)
   clear hpx hrow hwf hx1 hR1 hR2 hno hmem
   go_wp2_with (first
    | (go_at_call 185;refine (FS hx0 HS).mono ?_;rintro e w3 ⟨rfl,hb3⟩;have z0:=ZG p0 hb3;have z1:=ZG p1 hb3)
    | (at_builtin;refine XH (((huB.alloc _).ext hb3).alloc _) (Zb.one _ x y) ?cb ?cz rfl rfl rfl rfl ?_;rotate_right;intro v4 w4 hown4 hg4 hat4))
   case cb=>omega
   case cz=>have:=hb3.size;simp at this;simp;omega
   have hz3:=hb3.size
   simp at hz3
   have hB3:=hB2.trans (hb3.mono hB2.size)
   have hB4:Below w1.heap.size w1 w4:=(hB3.alloc hB3.size _).grown hg4 (by simp;omega) (λg hg=>(World.ownsRow.lt huB g hg).1)
   have HAT:=hid hat4
   clear hat4
   go_roundw
   case rel=>exact ⟨k+1,B ++ [(x,y)],by omega,by go_num,rfl,by simp;omega,hid (λe=>by omega),hown4,hB4⟩
   case measure=>simp [intOf];omega
  ·go_wp2
   exact bodyPost_ret (v:=.tuple #[_,_]) (by simp [results,Tryz.results85,go_sem]) rfl ⟨_,rfl,λe=>hu0.out (by omega),hB1.trans (hb.mono (by omega))⟩
theorem zaz (w:World):Calls Tryz.prog 197 #[.agg #[.int .u32 0,.int .u32 0,.int .u32 0,.int .u32 0,.int .u32 0,.int .u32 0,.int .u32 0,.int .u32 0,.int .u32 0,.int .u32 0,.int .u32 0,.int .u32 0,.int .u32 0,.int .u32 0,.int .u32 0,.int .u32 0],.slice none 0 0] w λe w'=>e=.returned (.slice none 0 0)∧Below w.heap.size w w':=by
 have hB1:Below w.heap.size w (w.alloc (.cells (KS λ_=>0) 92)):=bra
 obtain ⟨q0,q1,q2,q3,q4,q5,q6,q7,q8,q9,q10,q11,q12,q13,q14,q15⟩:=(Yb.made w λ_=>0).all
 go_enter Tryz.func197,Tryz.ntmps197
 go_wp2_with (go_at_call 85;refine (QU (λ_=>0) none 0 [] _ (λ_ h=>by cases h) (by decide) (.inl rfl) (λ_ h=>by cases h)).mono ?_;rintro e w3 ⟨u,rfl,hu,hb3⟩;have hu:=hu rfl;subst hu)
 go_ret
 exact ⟨rfl,hB1.trans (hb3.mono hB1.size)⟩
theorem Qv {a:Option Addr} {c:Nat} {x y:Int} {w:World} (hk:okP (x,y)) (hrow:Zb w a [(x,y)]) (hno:Zv (λ_=>0) (x,y)=false):Calls Tryz.prog 36 #[.agg #[.int .u32 0,.int .u32 0,.int .u32 0,.int .u32 0,.int .u32 0,.int .u32 0,.int .u32 0,.int .u32 0,.int .u32 0,.int .u32 0,.int .u32 0,.int .u32 0,.int .u32 0,.int .u32 0,.int .u32 0,.int .u32 0],.slice a 1 c] w λe w'=>e=.returned (.slice none 0 0)∧Below w.heap.size w w':=by
 have hB1:Below w.heap.size w (w.alloc (.cells (KS λ_=>0) 92)):=bra
 obtain ⟨q0,q1,q2,q3,q4,q5,q6,q7,q8,q9,q10,q11,q12,q13,q14,q15⟩:=(Yb.made w λ_=>0).all
 have hx1:=hrow.ext hB1
 go_enter Tryz.func36,Tryz.ntmps36
 go_wp2_with (go_at_call 85;refine (QU (λ_=>0) a c [(x,y)] _ (λp h=>by simp only [List.mem_singleton] at h;subst h;exact hk) (by simp) hx1 (λp h=>by simp only [List.mem_singleton] at h;subst h;exact hno)).mono ?_;rintro e w3 ⟨u,rfl,hu,hb3⟩)
 go_ret
 exact ⟨rfl,hB1.trans (hb3.mono hB1.size)⟩
section
variable {w:World} {nb vb vr i:Nat} {cs:List Value} {x y:Int} {A:VAd} {V:Zs}
set_option maxRecDepth 100000 in
set_option maxHeartbeats 3200000 in
theorem nGone0 (hB:Zc w nb 98 cs) (hN:N1 cs x y i A) (c45:cs[45]?=some (.pointer (some ⟨vb,0,none⟩))) (hV:Zt w A.am A.al A.ad V) (h1:V1 V x y i) (hS:ZP w vb vr []) :
  Calls Tryz.prog 198 #[.pointer (some ⟨nb,0,none⟩)] w λe w'=>∃ga gc,e=.returned (.slice ga 0 gc)∧Below w.heap.size w w':=by
 have hms:=hV.ms
 rw [h1.ms] at hms
 have CWI:Hid (∀W,Below w.heap.size w W→Calls Tryz.prog 36 #[.agg #[.int .u32 0,.int .u32 0,.int .u32 0,.int .u32 0,.int .u32 0,.int .u32 0,.int .u32 0,.int .u32 0,.int .u32 0,.int .u32 0,.int .u32 0,.int .u32 0,.int .u32 0,.int .u32 0,.int .u32 0,.int .u32 0],.slice A.am 1 A.cm] W λe w'=>e=.returned (.slice none 0 0)∧Below w.heap.size w w'):=hid λW hb=>(Qv h1.ok (hms.ext hb) h1.sound).mono λe w' ⟨h1,h2⟩=>⟨h1,hb.trans (h2.mono hb.size)⟩
 have CLI:Hid (∀W,Below w.heap.size w W→Calls Tryz.prog 262 #[.pointer (some ⟨vb,0,none⟩)] W λe w'=>∃da dc,e=.returned (.slice da 0 dc)∧Zb w' da []∧Below w.heap.size w w'):=hid λW hb=>(Qm vb vr [] W (hS.ext hb) (by simp [keys]) (by simp [keys]) (by simp)).mono λe w' ⟨v,h1,h2,h3⟩=>by
  have h4:YS (keys ([]:List (Pid × Unit)))=[]:=by simp [keys,YS]
  rw [h4] at h2
  obtain ⟨a,c,rfl,hr⟩:=Xm h2
  exact ⟨a,c,h1,hr,hb.trans (h3.mono hb.size)⟩
 have CCT:Hid (∀(q:Nat) (da:Option Addr) (dc:Nat) (W:World),Below w.heap.size w W→W.cell? ⟨q,0,none⟩=some (.slice none 0 0)→W.cell? ⟨q,1,none⟩=some (.slice da 0 dc)→Zb W da []→Calls Tryz.prog 161 #[.slice (some ⟨q,0,none⟩) 2 2] W λe w'=>∃ca cc,e=.returned (.slice ca 0 cc)∧Below w.heap.size w w'):=hid λq da dc W hb h0 h1 h2=>by
  refine (zaI (SN:=0) (C:=0) (stay:=[]) (come:=[]) (ms:=[]) (hid rfl) (hid rfl) (hid rfl) (by decide) (by decide) h0 h1 (.inl rfl) h2).mono λe w' ⟨v,h1,h2,h3⟩=>?_
  obtain ⟨a,c,rfl,hr⟩:=Xm h2
  exact ⟨a,c,h1,hb.trans (h3.mono hb.size)⟩
 have HB:=hid hB
 have HN:=hid hN
 have HC45:=hid c45
 have HS:Hid (∀W,Below w.heap.size w W→W.cell? ⟨nb,10,none⟩=some (.slice A.am 1 A.cm)∧W.cell? ⟨nb,45,none⟩=some (.pointer (some ⟨vb,0,none⟩))∧W.cell? ⟨nb,25,none⟩=some (.int .u32 0)∧W.cell? ⟨nb,26,none⟩=some (.int .u32 0)∧W.cell? ⟨nb,27,none⟩=some (.int .u32 0)∧W.cell? ⟨nb,28,none⟩=some (.int .u32 0)∧W.cell? ⟨nb,29,none⟩=some (.int .u32 0)∧W.cell? ⟨nb,30,none⟩=some (.int .u32 0)∧W.cell? ⟨nb,31,none⟩=some (.int .u32 0)∧W.cell? ⟨nb,32,none⟩=some (.int .u32 0)∧W.cell? ⟨nb,33,none⟩=some (.int .u32 0)∧W.cell? ⟨nb,34,none⟩=some (.int .u32 0)∧W.cell? ⟨nb,35,none⟩=some (.int .u32 0)∧W.cell? ⟨nb,36,none⟩=some (.int .u32 0)∧W.cell? ⟨nb,37,none⟩=some (.int .u32 0)∧W.cell? ⟨nb,38,none⟩=some (.int .u32 0)∧W.cell? ⟨nb,39,none⟩=some (.int .u32 0)∧W.cell? ⟨nb,40,none⟩=some (.int .u32 0)):=hid λW hb=>⟨(HB.out.ext hb).cell HN.out.c10,(HB.out.ext hb).cell HC45.out,(HB.out.ext hb).cell (HN.out.ru 0 (by decide)),(HB.out.ext hb).cell (HN.out.ru 1 (by decide)),(HB.out.ext hb).cell (HN.out.ru 2 (by decide)),(HB.out.ext hb).cell (HN.out.ru 3 (by decide)),(HB.out.ext hb).cell (HN.out.ru 4 (by decide)),(HB.out.ext hb).cell (HN.out.ru 5 (by decide)),(HB.out.ext hb).cell (HN.out.ru 6 (by decide)),(HB.out.ext hb).cell (HN.out.ru 7 (by decide)),(HB.out.ext hb).cell (HN.out.ru 8 (by decide)),(HB.out.ext hb).cell (HN.out.ru 9 (by decide)),(HB.out.ext hb).cell (HN.out.ru 10 (by decide)),(HB.out.ext hb).cell (HN.out.ru 11 (by decide)),(HB.out.ext hb).cell (HN.out.ru 12 (by decide)),(HB.out.ext hb).cell (HN.out.ru 13 (by decide)),(HB.out.ext hb).cell (HN.out.ru 14 (by decide)),(HB.out.ext hb).cell (HN.out.ru 15 (by decide))⟩
 clear hB hN c45 hV h1 hS hms
 go_enter Tryz.func198,Tryz.ntmps198
 go_upto_region 1 with fail
 refine rhd HS.out ((Below.refl _ _).drew) λhHeld=>?_
 refine tkv 0 (.pointer (some ⟨nb,0,none⟩)) rfl ?_
 refine tkv 1 (.pointer (some ⟨nb,0,none⟩)) rfl ?_
 refine tkv 2 (.pointer (some ⟨nb,25,none⟩)) rfl ?_
 refine tkv 3 (.agg #[.int .u32 0,.int .u32 0,.int .u32 0,.int .u32 0,.int .u32 0,.int .u32 0,.int .u32 0,.int .u32 0,.int .u32 0,.int .u32 0,.int .u32 0,.int .u32 0,.int .u32 0,.int .u32 0,.int .u32 0,.int .u32 0]) rfl ?_
 refine tkv 4 (.pointer (some ⟨nb,0,none⟩)) rfl ?_
 refine tkv 5 (.pointer (some ⟨nb,0,none⟩)) rfl ?_
 refine tkv 6 (.pointer (some ⟨nb,9,none⟩)) rfl ?_
 refine tkv 7 (.pointer (some ⟨nb,9,none⟩)) rfl ?_
 refine tkv 8 (.pointer (some ⟨nb,10,none⟩)) rfl ?_
 refine tkv 9 (.slice A.am 1 A.cm) rfl ?_
 refine tkv 11 (.pointer (some ⟨nb,0,none⟩)) rfl ?_
 refine tkv 12 (.pointer (some ⟨nb,0,none⟩)) rfl ?_
 refine tkv 13 (.pointer (some ⟨nb,45,none⟩)) rfl ?_
 refine tkv 14 (.pointer (some ⟨vb,0,none⟩)) rfl ?_
 refine rd1 10 rfl λK hK=>?_
 go_simp
 refine (CWI.out _ (Below.refl _ _).drew).mono ?_
 rintro e w1 ⟨rfl,hb1⟩
 refine hK.out _ _ (HS.out _ hb1) (λhHeld=>?_)
 clear hK K
 try simp only [lay]
 refine rd1 15 rfl λK hK=>?_
 go_simp
 refine (CLI.out _ hb1).mono ?_
 rintro e w2 ⟨da,dc,rfl,hrd,hb2⟩
 refine hK.out _ _ (HS.out _ hb2) (λhHeld=>?_)
 clear hK K
 try simp only [lay]
 refine rd1 16 rfl λK hK=>?_
 go_simp
 obtain ⟨w3,hw3⟩:∃z,w2.alloc (.cells #[.slice none 0 0,.slice da 0 dc] 26)=z:=⟨_,rfl⟩
 have hx3:Zc w3 w2.heap.size 26 [.slice none 0 0,.slice da 0 dc]:=by rw [←hw3];exact Zc.made _ _ _
 have hb23:Below w2.heap.size w2 w3:=by rw [←hw3];exact bra
 have hb3:=hb2.trans (hb23.mono hb2.size)
 rw [hw3]
 have hrd:=hrd.ext hb23
 clear hw3
 refine hK.out _ _ (HS.out _ hb3) (λhHeld=>?_)
 clear hK K
 try simp only [lay]
 refine rd1 17 rfl λK hK=>?_
 go_simp
 refine (CCT.out w2.heap.size da dc w3 hb3 (hx3.cell (j:=0) rfl) (hx3.cell (j:=1) rfl) hrd).mono ?_
 rintro e w4 ⟨ca,cc,rfl,hb4⟩
 clear hx3 hb23 hrd
 refine hK.out _ _ (HS.out _ hb4) (λhHeld=>?_)
 clear hK K
 try simp only [lay]
 refine rd1 18 rfl λK hK=>?_
 go_simp
 refine hK.out _ _ (HS.out _ hb4) (λhHeld=>?_)
 clear hK K
 try simp only [lay]
 refine dn ?_
 go_wp2_with fail
 go_ret
 exact ⟨_,_,rfl,hb4⟩
end
def VH (x y:Int) (i:Nat):Xu:=⟨2,(x,y),1,i,[109],ZS⟩
theorem Ku (B:MA) (x y:Int) (i:Nat):Yd B (VH x y i)=#[.int .i64 2,.int .u16 x,.int .u32 y,.int .u64 1,.int .u64 i,.slice B.da 1 B.dc,.int .u64 0,.slice B.am 0 B.cm,.slice B.al 0 B.cl,.slice B.ad 0 B.cd]:=rfl
theorem Jp {B b:Nat} {w0 w:World} {n0 n1 n2 n3 n4 n5 n6 n7 n8 n9:Value} (h:Below B w0 w) (hb:B≤b):Below B w0 (((((((((((w).setCell ⟨b,0,none⟩ (n0)).setCell ⟨b,1,none⟩ (n1)).setCell ⟨b,2,none⟩ (n2)).setCell ⟨b,3,none⟩ (n3)).setCell ⟨b,4,none⟩ (n4)).setCell ⟨b,5,none⟩ (n5)).setCell ⟨b,6,none⟩ (n6)).setCell ⟨b,7,none⟩ (n7)).setCell ⟨b,8,none⟩ (n8)).setCell ⟨b,9,none⟩ (n9)) :=
 Zi (Zi (Zi (Zi (Zi (Zi (Zi (Zi (Zi (Zi (h) hb) hb) hb) hb) hb) hb) hb) hb) hb) hb
theorem VD {fn:Func} {p:Tmp} (h:fn.results=#[.cell p 126]) (tmps:Array Value) {w:World} {b:Nat} {n0 n1 n2 n3 n4 n5 n6 n7 n8 n9:Value} (hp:tmps.getD p undef=.pointer (some ⟨b,0,none⟩)) (hx:Zc w b 126 [n0,n1,n2,n3,n4,n5,n6,n7,n8,n9]):(results fn tmps).run Tryz.prog w=.ok (.agg #[n0,n1,n2,n3,n4,n5,n6,n7,n8,n9]) w :=
 YX h tmps w b 0 [n0,n1,n2,n3,n4,n5,n6,n7,n8,n9] _ hp hx.range Tryz.underlying126 rfl Gv
section
variable {w:World} {nb xb il iw lb i mc:Nat} {cs:List Value} {x y:Int} {A:VAd} {ma:Option Addr}
set_option maxRecDepth 100000 in
set_option maxHeartbeats 3200000 in
theorem nSeq0 (hB:Zc w nb 98 cs) (c16:cs[16]?=some (.pointer (some ⟨xb,0,none⟩))) (hX:Zc w xb 199 (ibC i ma mc il iw 1)) (hr:Zb w ma [(x,y)]) (hl:Zj w il Yg n64 [((x,y),1)]) (hw:Zj w iw KQ sv []) :
  Calls Tryz.prog 201 #[.pointer (some ⟨nb,0,none⟩)] w λe w'=>e=.returned (.agg #[.int .i64 0,.int .u16 0,.int .u32 0,.int .u64 0,.int .u64 0,.slice none 0 0,.int .u64 0,.slice none 0 0,.slice none 0 0,.slice none 0 0])∧Below w.heap.size w w':=by
 obtain ⟨W1,hW1⟩:∃W1,w.alloc (.cells #[.int .i64 0,.int .u16 0,.int .u32 0,.int .u64 0,.int .u64 0,.slice none 0 0,.int .u64 0,.slice none 0 0,.slice none 0 0,.slice none 0 0] 126)=W1:=⟨_,rfl⟩
 have hb1:Below w.heap.size w W1:=by rw [←hW1];exact bra
 have xR:Zc W1 w.heap.size 126 [.int .i64 0,.int .u16 0,.int .u32 0,.int .u64 0,.int .u64 0,.slice none 0 0,.int .u64 0,.slice none 0 0,.slice none 0 0,.slice none 0 0]:=by rw [←hW1];exact Zc.made _ _ _
 have hz1:w.heap.size<W1.heap.size:=xR.lt
 have n16:=(hB.ext hb1).cell c16
 have CX:=hid (xNext0 (hX.ext hb1) (hr.ext hb1) (hl.ext hb1) (hw.ext hb1))
 have HX1:=hid xR
 have HB1:=hid hb1
 have HZ1:=hid hz1
 clear hB c16 hX hr hl hw hb1 xR hz1
 go_enter Tryz.func201,Tryz.ntmps201
 go_upto_region 1 with fail
 try rw [hW1]
 clear hW1
 go_wp2_with fail
 refine CX.out.mono ?_
 rintro e w2 ⟨rfl,hb2⟩
 clear n16 CX
 go_upto_region 2 with fail
 obtain ⟨w3,hw3⟩:∃z,w2.alloc (.cells #[.int .u16 0,.int .u32 0] 25)=z:=⟨_,rfl⟩
 have hb3:Below w2.heap.size w2 w3:=by rw [←hw3];exact bra
 try rw [hw3]
 clear hw3
 have hb13:=hb2.trans (hb3.mono hb2.size)
 have hx3:=HX1.out.ext hb13
 have HX3:=hid hx3
 have HB3:Hid (Below w.heap.size w w3):=hid (HB1.out.trans (hb13.mono HB1.out.size))
 clear hb2 hb3 hb13
 have fz:=hx3.frozen
 have e0:=hx3.cell (j:=0) rfl
 have e1:=hx3.cell (j:=1) rfl
 have e2:=hx3.cell (j:=2) rfl
 have e3:=hx3.cell (j:=3) rfl
 have e4:=hx3.cell (j:=4) rfl
 have e5:=hx3.cell (j:=5) rfl
 have e6:=hx3.cell (j:=6) rfl
 have e7:=hx3.cell (j:=7) rfl
 have e8:=hx3.cell (j:=8) rfl
 have e9:=hx3.cell (j:=9) rfl
 clear hx3
 go_wp2_with fail
 have hxr:=YF (n0:=.int .i64 0) (n1:=.int .u16 0) (n2:=.int .u32 0) (n3:=.int .u64 0) (n4:=.int .u64 0) (n5:=.slice none 0 0) (n6:=.int .u64 0) (n7:=.slice none 0 0) (n8:=.slice none 0 0) (n9:=.slice none 0 0) HX3.out
 refine bodyPost_ret (v:=.agg #[.int .i64 0,.int .u16 0,.int .u32 0,.int .u64 0,.int .u64 0,.slice none 0 0,.int .u64 0,.slice none 0 0,.slice none 0 0,.slice none 0 0]) (VD (p:=2) rfl _ rfl hxr) rfl ⟨rfl,?_⟩
 exact Jp HB3.out (Nat.le_refl _)
end
end Go.Proofs.YtcdpaflmofljaaaGreat
