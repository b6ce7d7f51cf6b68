import Derived.Test.YtcdpaflmofljaaaGreatGNodeNil17
/- Parts of the proof of NodeNil: X102 X103. -/
namespace Go.Proofs.YtcdpaflmofljaaaGreat
open Go.RowKit
theorem Xc.safe {w w':World} {v v':Value} {cs cs':List Sl} (hk:Xc w v cs w' v' cs') {q:Nat} (hq:q<w.heap.size) (hn:¬ QM v cs q):¬ QM v' cs' q:=λe=>by
 rcases hk.blk q e with e | e
 ·exact hn e
 ·omega
theorem Xc.cell {w w':World} {v v':Value} {cs cs':List Sl} (hk:Xc w v cs w' v' cs') {p:Addr} (hq:p.block<w.heap.size) (hn:¬ QM v cs p.block):w'.cell? p=w.cell? p:=hk.mt.cell hq hn
theorem LLs.notIn {w:World} {base:Nat} {v:Value} {cs:List Sl} {ls:LL} (h:LLs w base v cs ls) {q:Nat} (hq:w.heap.size≤q):¬ QM v cs q:=λe=>by have:=(h.inB e).2;omega
theorem Zy.made1 (w:World) (x y:Int) {base:Nat} (hb:base≤w.heap.size):Zy (w.alloc (.cells #[.int .u16 x,.int .u32 y] 25)) base (.slice (some ⟨w.heap.size,0,none⟩) 1 1) [(x,y)] :=
 ⟨rfl,.inr ⟨w.heap.size,1,#[.int .u16 x,.int .u32 y],rfl,hb,heap_alloc_new w _,Nat.le_refl _,by unfold maxLen;omega,rfl,rfl⟩⟩
theorem KC {w:World} {o:Oper} {a:Go.Act} {K:Go.Act→World→Prop} {Q:Exit→Go.Act→World→Prop} {y:Nat→Option Bool} {s x:Operand} {base:Nat} {v:Value} {xs ys:List Pid} {ad:Option Addr} {n c:Nat} (hw:Region.wanted o y=true) (hown:Zy w base v xs) (hy:Zb w ad ys) (hn:Hid (ys.length=n))
  (hlen:xs.length+n≤1099511627776) (hbase:base≤w.heap.size)
  (ho:o.op=.call { callee:=.builtin .append,args:=#[s,x],argTypes:=#[26,26] }) (hs:a.eval s=v) (hx:a.eval x=.slice ad n c)
  (h:∀v' w',Zy w' base v' (xs ++ ys)→w.grownBy w' v.ownBlock→(v'.ownBlock=v.ownBlock∨v'.ownBlock=some w.heap.size)→K (a.put o.dst v') w'):if Region.wanted o y=true then Oper.wp Tryz.prog o a w K Q else K (a.put o.dst undef) w:=by
 have hn:=hn.out;subst hn
 rw [if_pos hw]
 obtain ⟨v',w',hr,h2,h3,h4⟩:=Ja hown (c:=c) hy hlen hbase o.type
 exact Lib.wp_append_run w s x 26 26 ho _ _ hs hx v' w' hr (h v' w' h2 h3 h4)
theorem app_put {W0 W:World} {base g cap j N:Nat} {v0:Value} {cs0 cs:List Sl} {L:LL} {p:Pid} (h:LLs W base (.slice (some ⟨g,0,none⟩) N cap) cs L) (hN:L.length=N) (hj:j<N) (hk:Xc W0 v0 cs0 W (.slice (some ⟨g,0,none⟩) N cap) cs) :
  ∃a m c y,L[j]?=some y∧y.length=m∧W.cell? ⟨g,j,none⟩=some (.slice a m c)∧Zy W base (.slice a m c) y∧g<W.heap.size ∧
   ∀W7,Below W.heap.size W W7→∀v8 w8,Zy w8 base v8 (y ++ [p])→W7.grownBy w8 (Value.slice a m c).ownBlock→(v8.ownBlock=(Value.slice a m c).ownBlock∨v8.ownBlock=some W7.heap.size) →
    ∃a8 n8 c8 cs',v8=.slice a8 n8 c8∧w8.cell? ⟨g,j,none⟩=some (.slice a m c)∧w8.frozen? ⟨g,j,none⟩=false∧LLs (w8.setCell ⟨g,j,none⟩ (.slice a8 n8 c8)) base (.slice (some ⟨g,0,none⟩) N cap) cs' (L.set j (y ++ [p]))∧Xc W0 v0 cs0 (w8.setCell ⟨g,j,none⟩ (.slice a8 n8 c8)) (.slice (some ⟨g,0,none⟩) N cap) cs' ∧
     ∀q:Addr,q.block<W.heap.size→¬ QM (.slice (some ⟨g,0,none⟩) N cap) cs q.block→w8.cell? q=W.cell? q∧(w8.setCell ⟨g,j,none⟩ (.slice a8 n8 c8)).cell? q=W.cell? q:=by
 subst hN
 obtain ⟨g',cap',s,e0,hcap,hbg,hgw,hcs,hcell,hfr,hown,hsg⟩:=h.get hj
 cases e0
 obtain ⟨a,c,he,he2,hrow,hlc,hblk⟩:=hown.sl
 rw [he] at hcell
 refine ⟨a,L[j].length,c,L[j],List.getElem?_eq_getElem hj,rfl,hcell,by rw [←he];exact hown,hgw,?_⟩
 intro W7 hb7 v8 w8 hown8 hg8 hat8
 obtain ⟨a8,c8,e8,e8s,-,-,hblk8⟩:=hown8.sl
 have hsb:∀b,(Value.slice a L[j].length c).ownBlock=some b→Vd s=some b:=λb e=>by rw [←ZH,he];exact e
 have hm78:=Kp hg8
 have hm8:Mut (λb=>Vd s=some b) W w8:=(Mut.of_below hb7).trans (by
  refine ⟨hm78.os,hm78.tape,hm78.output,hm78.size,λk hk hf=>hm78.block k hk λe=>hf (hsb k e)⟩)
 have hsm:s∈cs:=List.mem_of_getElem? hcs
 have hput:=h.put (s':=(a8,(L[j] ++ [p]).length,c8)) (l':=L[j] ++ [p]) hj hcs hm8 (by rw [←e8s];exact hown8) (λq hq=>by
  have hq:v8.ownBlock=some q:=by rw [←hq,e8];exact ZH (a8,(L[j] ++ [p]).length,c8)
  rcases hat8 with e | e
  ·exact .inl (hsb q (by rw [←e];exact hq))
  ·rw [hq] at e;cases e;exact .inr hb7.size)
 have hkk:Xc W (.slice (some ⟨g,0,none⟩) L.length cap) cs (w8.setCell ⟨g,j,none⟩ (.slice a8 (L[j] ++ [p]).length c8)) (.slice (some ⟨g,0,none⟩) L.length cap) (cs.set j (a8,(L[j] ++ [p]).length,c8)):=by
  refine ⟨(hm8.mono λb _ e=>.inr ⟨s,hsm,e⟩).trans (Xk.mono λb _ e=>.inl (by have e:b=g:=e;rw [e];rfl)),?_⟩
  rintro b (hb | ⟨s',hs',hb⟩)
  ·exact .inl (.inl hb)
  ·rcases List.mem_or_eq_of_mem_set hs' with hs' | rfl
   ·exact .inl (.inr ⟨s',hs',hb⟩)
   ·have hq:v8.ownBlock=some b:=by rw [←hb,e8];exact ZH (a8,(L[j] ++ [p]).length,c8)
    rcases hat8 with e | e
    ·exact .inl (.inr ⟨s,hsm,hsb b (by rw [←e];exact hq)⟩)
    ·rw [hq] at e;cases e;exact .inr hb7.size
 have hsg':¬ Vd s=some g:=hsg
 refine ⟨a8,(L[j] ++ [p]).length,c8,_,e8,(hm8.cell (p:=⟨g,j,none⟩) hgw hsg').trans hcell,(hm8.frozen (p:=⟨g,j,none⟩) hgw hsg').trans hfr,hput,hk.trans hkk,?_⟩
 intro q hq hn
 exact ⟨hm8.cell hq λe=>hn (.inr ⟨s,hsm,e⟩),hkk.mt.cell hq hn⟩
theorem app_leaf {W0 W:World} {base:Nat} {v0 v v':Value} {cs0 cs:List Sl} {w':World} {L:LL} {x y:Int} {q:Nat} (h:LLs W base v cs L) (hk:Xc W0 v0 cs0 W v cs) (hq:W0.heap.size≤q) (hs:W0.heap.size≤W.heap.size) (hown:LLs w' base v' (cs ++ [(some ⟨q,0,none⟩,1,1)]) (L ++ [[(x,y)]])) (hg:W.grownBy w' v.ownBlock) (hat:v'.ownBlock=v.ownBlock∨v'.ownBlock=some W.heap.size) :
  Xc W0 v0 cs0 w' v' (cs ++ [(some ⟨q,0,none⟩,1,1)]):=by
 have hm:=Kp hg
 refine ⟨⟨hm.os.trans hk.mt.os,hm.tape.trans hk.mt.tape,hm.output.trans hk.mt.output,Nat.le_trans hs hm.size,λk hk2 hn=>?_⟩,?_⟩
 ·refine (hm.block k (by omega) λe=>?_).trans (hk.mt.block k hk2 hn)
  rcases hk.blk k (.inl e) with e | e
  ·exact hn e
  ·omega
 ·rintro b (hb | ⟨s',hs',hb⟩)
  ·rcases hat with e | e
   ·exact hk.blk b (.inl (by rw [←e];exact hb))
   ·rw [hb] at e;cases e;exact .inr hs
  ·rcases List.mem_append.1 hs' with hs' | hs'
   ·exact hk.blk b (.inr ⟨s',hs',hb⟩)
   ·rw [List.mem_singleton.1 hs'] at hb
    have:q=b:=by simpa [Vd] using hb
    exact .inr (by omega)
theorem zbu {ls:LL} {come:List Pid} {k:Nat} (h:k<come.length) {p:Pid} (hp:p=come[k]):Vo ls (come.take (k+1))=addL (Vo ls (come.take k)) p:=by
 unfold Vo
 rw [List.take_succ_eq_append_getElem h,List.foldl_append,← hp];rfl
theorem zdG {ls:LL} {p:Pid} {j:Nat} (h:zcR ls (-1)=(j:Int)) {y:List Pid} (hy:ls[j]?=some y):addL ls p=ls.set j (y ++ [p]):=by
 unfold addL
 rw [h,if_neg (by omega),Int.toNat_natCast]
 have:ls.getD j []=y:=by simp [List.getD,hy]
 rw [this]
theorem zeu {p:Pid}:addL [] p=[[p]]:=rfl
theorem zbQ {a:Option Addr} {c n:Nat} {ls:LL} {F:Int} {w:World} (hF:Hid (zcR ls (-1)=F)) (hN:Hid (ls.length=n)) (hn:n≤1000000) (hrow:Zp w a ls) :
  Calls Tryz.prog 162 #[.slice a n c] w λe w'=>e=.returned (.int .i64 F)∧w=w':=by
 have hN:=hN.out
 subst hN
 rw [←hF.out]
 exact GH (by omega) hrow
theorem zaI {w:World} {g ks kc SN C:Nat} {ay ac:Option Addr} {stay come ms:List Pid} (hms:Hid (stay ++ come=ms)) (hSn:Hid (stay.length=SN)) (hCn:Hid (come.length=C)) (hS:SN≤1000) (hC:C≤1000) (c0:w.cell? ⟨g,0,none⟩=some (.slice ay SN ks)) (c1:w.cell? ⟨g,1,none⟩=some (.slice ac C kc)) (hrs:Zb w ay stay) (hrc:Zb w ac come) :
  Calls Tryz.prog 161 #[.slice (some ⟨g,0,none⟩) 2 2] w λe w'=>∃v,e=.returned v∧Zy w' w.heap.size v ms∧Below w.heap.size w w':=by
 have h1:=hSn.out
 have h2:=hCn.out
 have hlt:=World.block_lt_of_cell? w _ c0
 have hrow:Zp w (some ⟨g,0,none⟩) [stay,come]:=.inr ⟨g,0,rfl,hlt,λi hi=>by
  match i,hi with
  | 0,_=>exact ⟨ay,ks,by rw [←h1] at c0;simpa using c0,hrs⟩
  | 1,_=>exact ⟨ac,kc,by rw [←h2] at c1;simpa using c1,hrc⟩⟩
 have:=GZ (some ⟨g,0,none⟩) 2 [stay,come] w (by simp) (by rw [←XD];simp;omega) hrow
 have e:[stay,come].flatten=ms:=by rw [←hms.out];simp
 rw [e] at this
 exact this
theorem Mut.far {F G:Nat→Prop} {w w1 w2:World} (h1:Mut F w w1) (h2:Mut G w1 w2) (hG:∀k,k<w.heap.size→¬ G k):Mut F w w2 :=
 ⟨h2.os.trans h1.os,h2.tape.trans h1.tape,h2.output.trans h1.output,Nat.le_trans h1.size h2.size,λk hk hn=>(h2.block k (Nat.lt_of_lt_of_le hk h1.size) (hG k hk)).trans (h1.block k hk hn)⟩
def YV (V:Zs) (er:Int) (base:Nat) (G:Nat→Prop) (w:World) (e:Ending) (w':World):Prop:=∃(qm ql qd:Option Addr) (km kl kd:Nat),e=.returned (.tuple #[.agg #[.int .u64 V.id,.slice qm V.ms.length km,.slice ql V.ls.length kl,.slice qd V.ds.length kd],.int .i64 er])∧Gn base w' qm ql qd V∧Mut G w w'
theorem YV.zero {er:Int} {base:Nat} {G:Nat→Prop} {w w':World} (h:Mut G w w'):YV ZS er base G w (.returned (.tuple #[.agg #[.int .u64 0,.slice none 0 0,.slice none 0 0,.slice none 0 0],.int .i64 er])) w' :=
 ⟨none,none,none,0,0,0,rfl,Gn.zero _ _,h⟩
set_option maxRecDepth 100000 in
set_option maxHeartbeats 12800000 in
theorem zeA {w:World} {base:Nat} {id:Int} {stay come:List Pid} {ls:LL} {b:Bnd} {ay ac al:Option Addr} {ks kc kl SN C N:Nat} {cs:List Sl} {V:Zs} {er:Int} (hV:Hid (Qy id stay ls come b=(V,er))) (hSn:Hid (stay.length=SN)) (hCn:Hid (come.length=C)) (hNn:Hid (ls.length=N)) (hS:SN≤1000) (hC:C≤1000) (hrs:Zb w ay stay) (hrc:Zb w ac come) (hLL:LLs w base (.slice al N kl) cs ls) (hbase:base≤w.heap.size) (hp:ZU stay ls) (hids:stay.Pairwise λp q=>p.1≠q.1) (hok:∀p∈stay ++ come,ok p) (hb:GS b=true) (hac:∀g off,ac=some ⟨g,off,none⟩→come≠[]→¬ QM (.slice al N kl) cs g) :
  Calls Tryz.prog 65 #[.int .u64 id,.slice ay SN ks,.slice al N kl,.slice ac C kc,.agg #[.int .i64 b.least,.int .i64 b.most,.int .i64 b.tmo]] w λe w'=>YV V er base (QM (.slice al N kl) cs) w e w':=by
 obtain ⟨W2,hW2⟩:∃W2,((w.alloc (.cells #[.int .i64 b.least,.int .i64 b.most,.int .i64 b.tmo] 28)).alloc (.cells #[.int .u64 0,.slice none 0 0,.slice none 0 0,.slice none 0 0] 35))=W2:=⟨_,rfl⟩
 have hB2:Below w.heap.size w W2:=by rw [←hW2];exact (bra).alloc (by simp) _
 have hz2:W2.heap.size=w.heap.size+1+1:=by rw [←hW2];simp
 have hbx:Yx W2 w.heap.size b:=by rw [←hW2];exact (Yx.made w).ext (bra) (by simp)
 have hvx:VQ W2 (w.heap.size+1) (.int .u64 0) (.slice none 0 0) (.slice none 0 0) (.slice none 0 0):=by
  rw [←hW2]
  have:=VQ.made (w.alloc (.cells #[.int .i64 b.least,.int .i64 b.most,.int .i64 b.tmo] 28)) 35 (.int .u64 0) (.slice none 0 0) (.slice none 0 0) (.slice none 0 0)
  simpa using this
 have HB2:=hid hB2
 have HZ2:=hid hz2
 have HVX:=hid hvx
 by_cases h9:Vr (stay.map (·.1)) come=false
 ·have hv:(ZS,(9:Int))=(V,er):=by rw [←hV.out];unfold Qy;rw [if_pos h9]
  obtain ⟨rfl,rfl⟩:ZS=V∧9=er:=by simpa using hv
  have CM:=hid (GR (c:=ks) (d:=kc) (R:=9) (hid (by rw [h9];rfl)) hSn hCn (by omega) (by omega) (hrs.ext hB2) (hrc.ext hB2))
  have t1:((9:Int) != 0)=true:=by decide
  clear hV h9 hrs hrc hLL hp hids hok hb hac hbx hvx hB2 hz2 hbase hS hC hv
  go_enter Tryz.func65,Tryz.ntmps65
  go_wp2_with fail
  (with_reducible refine CM.out.mono ?_)
  rintro e w3 ⟨rfl,hb3⟩
  obtain ⟨d0,d1,d2,d3,g0,g1,g2,g3⟩:=HVX.out.ext hb3
  have DD:=hid ((HVX.out.ext hb3).put (.int .u64 0) (.slice none 0 0) (.slice none 0 0) (.slice none 0 0))
  have HB3:=hid hb3
  clear hb3 CM
  go_wp2_with fail
  obtain ⟨q0,q1,q2,q3,-,-,-,-⟩:=DD.out
  exact bodyPost_ret (v:=.tuple #[.agg #[.int .u64 0,.slice none 0 0,.slice none 0 0,.slice none 0 0],.int .i64 9]) (by simp [results,Tryz.results65,go_sem,q0,q1,q2,q3]) rfl
   (YV.zero (Mut.of_below (Yy (HB2.out.trans (HB3.out.mono HB2.out.size)) (by omega))))
 have hco:Vr (stay.map (·.1)) come=true:=by simpa using h9
 have CM:=hid (GR (c:=ks) (d:=kc) (R:=0) (hid (by rw [hco];rfl)) hSn hCn (by omega) (by omega) (hrs.ext hB2) (hrc.ext hB2))
 have t1:((0:Int) != 0)=false:=by decide
 obtain ⟨ms,hms⟩:∃ms,stay ++ come=ms:=⟨_,rfl⟩
 obtain ⟨M,hM⟩:∃M,ms.length=M:=⟨_,rfl⟩
 have hMS:SN+C=M:=by rw [←hM,← hms,List.length_append,hSn.out,hCn.out]
 have HMS:=hid hms
 have HM:=hid hM
 have HRS:=hid hrs
 have HRC:=hid hrc
 have HLL:=hid hLL
 have HAC:=hid hac
 have HBX:=hid hbx
 have HPA:=hid (zaY hp hids hco)
 have HFULL:=hid hp.full
 have HTOTS:Hid (Ym ls≤1000∧come.length≤1000):=hid ⟨by have:=hp.perm.length_eq;rw [Yn] at this;have:=hSn.out;omega,by have:=hCn.out;omega⟩
 have HOK:=hid hok
 have HBC:=hid hb
 have HCO:=hid hco
 have HBASE:=hid hbase
 clear hrs hrc hLL hp hids hok hb hac hbx hvx hB2 hz2 hbase hms hM
 go_enter Tryz.func65,Tryz.ntmps65
 go_wp2_with fail
 (with_reducible refine CM.out.mono ?_)
 rintro e w3 ⟨rfl,hb3⟩
 have HB3:=hid (HB2.out.trans (hb3.mono HB2.out.size))
 have HVX3:=hid (HVX.out.ext hb3)
 have HBX3:=hid (HBX.out.ext hb3 HBX.out.lt)
 have HZ3:Hid (w.heap.size+1<w3.heap.size):=hid (by have:=hb3.size;have:=HZ2.out;omega)
 have hq4:Below w.heap.size w (w3.alloc (.cells #[.slice ay SN ks,.slice ac C kc] 26)):=HB3.out.alloc HB3.out.size _
 have CC:=hid (zaI (w:=w3.alloc (.cells #[.slice ay SN ks,.slice ac C kc] 26)) (g:=w3.heap.size) (ks:=ks) (kc:=kc) HMS hSn hCn hS hC (by simp) (by simp) (HRS.out.ext hq4) (HRC.out.ext hq4))
 have HQ4:=hid hq4
 clear hb3 CM hq4 hW2
 go_wp2_with fail
 (with_reducible refine CC.out.mono ?_)
 rintro e w5 ⟨v5,rfl,hown5,hb5⟩
 obtain ⟨am,km,e5,-,hrm,hkm,hblkm⟩:=hown5.sl
 rw [HM.out] at e5 hblkm
 subst e5
 have hvx5:=(HVX3.out.ext ((Below.refl _ _).alloc (Nat.le_refl _) (.cells #[.slice ay SN ks,.slice ac C kc] 26))).ext hb5
 have HB5:=hid (HQ4.out.trans (hb5.mono HQ4.out.size))
 have HVX5:=hid hvx5
 have HBX5:=hid ((HBX3.out.ext ((Below.refl _ _).alloc (Nat.le_refl _) (.cells #[.slice ay SN ks,.slice ac C kc] 26)) HBX3.out.lt).ext hb5 (by have:=HZ3.out;simp;omega))
 have HRM:=hid hrm
 have hz5:w3.heap.size<w5.heap.size:=by have:=hb5.size;simp at this;omega
 have HZ5:=hid hz5
 have HBM:Hid (∀g off,am=some ⟨g,off,none⟩→w.heap.size≤g∧g<w5.heap.size∧g≠w.heap.size+1):=hid λg off e=>by
  have:=hblkm g (by rw [e];rfl)
  have h2:=HZ3.out
  try simp at this
  omega
 clear hvx5 hrm hown5 hb5 hkm hblkm hz5 CC
 have hDD:∀(vm vl vd:Value) (id':Int),VQ ((((w5.setCell ⟨w.heap.size+1,0,none⟩ (.int .u64 id')).setCell ⟨w.heap.size+1,1,none⟩ vm).setCell ⟨w.heap.size+1,2,none⟩ vl).setCell ⟨w.heap.size+1,3,none⟩ vd) (w.heap.size+1) (.int .u64 id') vm vl vd:=λvm vl vd id'=>HVX5.out.put _ _ _ _
 by_cases h0:M=0
 ·have hv:(ZS,(8:Int))=(V,er):=by rw [←hV.out];unfold Qy;rw [if_neg h9,if_pos (by rw [HMS.out,HM.out];exact h0)]
  obtain ⟨rfl,rfl⟩:ZS=V∧8=er:=by simpa using hv
  have u1:((M:Int) == 0)=true:=by rw [h0];rfl
  have u2:decide (M=0)=true:=decide_eq_true h0
  have DD:=hid (hDD (.slice none 0 0) (.slice none 0 0) (.slice none 0 0) 0)
  obtain ⟨d0,d1,d2,d3,g0,g1,g2,g3⟩:=HVX5.out
  have H0:=hid h0
  clear hV h9 hDD h0 hMS hv
  go_wp2_with fail
  obtain ⟨q0,q1,q2,q3,-,-,-,-⟩:=DD.out
  exact bodyPost_ret (v:=.tuple #[.agg #[.int .u64 0,.slice none 0 0,.slice none 0 0,.slice none 0 0],.int .i64 8]) (by simp [results,Tryz.results65,go_sem,q0,q1,q2,q3]) rfl
   (YV.zero (Mut.of_below (Yy HB5.out (by omega))))
 have u1:((M:Int) == 0)=false:=by simp;omega
 have u2:decide (M=0)=false:=decide_eq_false h0
 by_cases h24:24<M
 ·have hv:(ZS,(3:Int))=(V,er):=by rw [←hV.out];unfold Qy;rw [if_neg h9,if_neg (by rw [HMS.out,HM.out];exact h0),if_pos (by rw [HMS.out,HM.out];exact h24)]
  obtain ⟨rfl,rfl⟩:ZS=V∧3=er:=by simpa using hv
  have x1:decide ((M:Int) > 24)=true:=decide_eq_true (by omega)
  have x2:decide (24<M)=true:=decide_eq_true h24
  have x3:decide ((24:Int)<(M:Int))=true:=decide_eq_true (by omega)
  have DD:=hid (hDD (.slice none 0 0) (.slice none 0 0) (.slice none 0 0) 0)
  obtain ⟨d0,d1,d2,d3,g0,g1,g2,g3⟩:=HVX5.out
  have H0:=hid h0
  have H24:=hid h24
  clear hV h9 hDD h0 hMS hv h24
  go_wp2_with fail
  obtain ⟨q0,q1,q2,q3,-,-,-,-⟩:=DD.out
  exact bodyPost_ret (v:=.tuple #[.agg #[.int .u64 0,.slice none 0 0,.slice none 0 0,.slice none 0 0],.int .i64 3]) (by simp [results,Tryz.results65,go_sem,q0,q1,q2,q3]) rfl
   (YV.zero (Mut.of_below (Yy HB5.out (by omega))))
 have x1:decide ((M:Int) > 24)=false:=decide_eq_false (by omega)
 have x2:decide (24<M)=false:=decide_eq_false h24
 have x3:decide ((24:Int)<(M:Int))=false:=decide_eq_false (by omega)
 obtain ⟨hids2,hpa⟩:=HPA.out
 rw [HMS.out] at hids2 hpa
 have htot:Ym (Vo ls come)=M:=by rw [←Yn,hpa.perm.length_eq];exact HM.out
 obtain ⟨f1,f2,f3⟩:=fitV_ok HBC.out hpa.full (by omega)
 obtain ⟨F,hF⟩:∃F,fitV b (Vo ls come)=F:=⟨_,rfl⟩
 rw [hF] at f1 f2 f3
 have hpf:ZU ms F:=⟨hpa.nd,f1,f2.trans hpa.perm⟩
 obtain ⟨OR,hOR⟩:∃OR,FW ms F=OR:=⟨_,rfl⟩
 obtain ⟨DS,hDS⟩:∃DS,Kt ms (Yj OR)=DS:=⟨_,rfl⟩
 have hv:((⟨id,ms,OR,DS⟩:Zs),(0:Int))=(V,er):=by
  rw [←hV.out];unfold Qy
  rw [if_neg h9,if_neg (by rw [HMS.out,HM.out];exact h0),if_neg (by rw [HMS.out,HM.out];exact h24),HMS.out,hF,hOR,hDS]
 obtain ⟨rfl,rfl⟩:(⟨id,ms,OR,DS⟩:Zs)=V∧0=er:=by simpa using hv
 have hF0:0<F.length:=by
  refine Nat.pos_of_ne_zero λe=>?_
  have:F=[]:=List.length_eq_zero_iff.1 e
  have h2:=hpf.perm.length_eq
  rw [this,List.flatten_nil,List.length_nil] at h2
  have:=HM.out
  omega
 have hFl:F.length≤24:=by
  have a1:=Xs f1
  have a2:=Jz f2
  omega
 have hor:=hpf.ord_parts
 have horl:OR.length=F.length:=by rw [←hOR];have:=hpf.ord_perm.length_eq;simpa using this
 have horm:∀l∈OR,l.length≤24:=λl hl=>by
  have a1:=Vw OR l hl
  have a2:=hor.perm.length_eq
  rw [hOR,Yn] at a2
  have:=HM.out
  omega
 have hhd:(Yj OR).Nodup:=by rw [←hOR];exact hpf.heads_nd
 have hhs:∀p∈Yj OR,p∈ms:=by rw [←hOR];exact hpf.ord_parts.heads_sub
 have hfo:Qj OR:=by rw [←hOR];exact hpf.ord_full
 have hdl:DS.length≤24:=by
  rw [←hDS]
  have:=List.length_filter_le (λp=>decide (p∈Xl ms (Yj OR))) ms
  have e:=HM.out
  unfold Kt
  omega
 have hokm:∀p∈ms,ok p:=λp hp=>HOK.out p (by rw [HMS.out];exact hp)
 have HPAR:=hid hpa
 have HTOT:=hid htot
 have HPF:=hid hpf
 have HF:=hid hF
 have HOR:=hid hOR
 have HDS:=hid hDS
 have HF0:=hid hF0
 have HFL:=hid hFl
 have HORL:=hid horl
 have HORM:=hid horm
 have HHD:=hid hhd
 have HHS:=hid hhs
 have HFO:=hid hfo
 have HDL:=hid hdl
 have HOKM:=hid hokm
 have H0:=hid h0
 have H24:=hid h24
 have HSUMM:=hid hMS
 have HNS0:Hid (¬ QM (.slice al N kl) cs w.heap.size∧¬ QM (.slice al N kl) cs (w.heap.size+1)):=hid ⟨HLL.out.notIn (Nat.le_refl _),HLL.out.notIn (by omega)⟩
 have HLL5:=hid (HLL.out.ext HB5.out)
 have HRC5:=hid (HRC.out.ext HB5.out)
 have HS5:Hid (base≤w5.heap.size):=hid (by have:=HBASE.out;have:=HB5.out.size;omega)
 have HPM:Hid (∀g off,am=some ⟨g,off,none⟩→¬ QM (.slice al N kl) cs g):=hid λg off e=>HLL.out.notIn (HBM.out g off e).1
 have HC:=hid hC
 clear hv hids2 hpa htot f1 f2 f3 hpf hF hOR hDS hF0 hFl hor horl horm hhd hhs hfo hdl hokm hV h9 hco h0 h24 hMS hDD HVX HVX3 HBX HBX3 hS
 go_wp2
 go_loopw [2,40] (λv i wr=>∃(k:Nat) (cs':List Sl),i=.int .i64 k∧k≤C∧LLs wr base v cs' (Vo ls (come.take k))∧Xc w5 (.slice al N kl) cs wr v cs') (λ_ i _=>C - (intOf i).toNat)
 case atStart=>exact ⟨0,cs,rfl,Nat.zero_le _,HLL5.out,Xc.refl _ _ _⟩
 case round =>
  obtain ⟨k,cs',rfl,hk,hown,hkp⟩:=hrel
  obtain ⟨a',c',hv,hrow⟩:=hown.row
  obtain ⟨L,hL⟩:∃L,Vo ls (come.take k)=L:=⟨_,rfl⟩
  rw [hL] at hown hv hrow
  obtain ⟨n1,hn1⟩:∃n1,L.length=n1:=⟨_,rfl⟩
  rw [hn1] at hv
  subst hv
  by_cases hlt:k<C
  ·have hkl:k<come.length:=by rw [hCn.out];exact hlt
   have hrc:=HRC5.out.mutT hkp.mt (λg off e hne=>HAC.out g off e hne)
   obtain ⟨b',off,x,y,he,hx,d1,d2⟩:=hrc.at (Below.refl _ _) rfl hkl
   subst he
   have hsucc:=zbu (ls:=ls) hkl hx
   rw [hL] at hsucc
   have hL24:n1≤1000000:=by
    have h1:=(VY (come.take k) (ls:=ls) HFULL.out).1
    rw [hL] at h1
    have h2:=Xs h1
    have h3:=(VY (come.take k) (ls:=ls) HFULL.out).2.length_eq
    rw [hL,Yn,List.length_append,Yn,List.length_take] at h3
    have:=HTOTS.out
    omega
   have hB6:Below wr.heap.size wr (wr.alloc (.cells #[.int .u16 x,.int .u32 y] 25)):=bra
   have hown6:=hown.ext hB6
   have hkp6:=hkp.ext hB6
   have hnoB:¬ QM (.slice a' n1 c') cs' wr.heap.size:=hown.notIn (Nat.le_refl _)
   rcases QN L with ⟨hLn,hf⟩ | ⟨j,hj,hf⟩
   ·subst hLn
    have C6:=hid (zbQ (c:=c') (hid hf) (hid hn1) hL24 (hrow.ext hB6))
    have v1:decide ((-1:Int) ≥ 0)=false:=by decide
    have v2:decide ((0:Int)≤-1)=false:=by decide
    rw [zeu] at hsucc
    have hs5:=hkp.mt.size
    have hB8:Below (wr.alloc (.cells #[.int .u16 x,.int .u32 y] 25)).heap.size (wr.alloc (.cells #[.int .u16 x,.int .u32 y] 25)) (((wr.alloc (.cells #[.int .u16 x,.int .u32 y] 25)).alloc (.cells #[.int .u16 x,.int .u32 y] 25)).alloc (.cells #[.slice (some ⟨wr.heap.size+1,0,none⟩) 1 1] 26)):=(bra).alloc (by simp) _
    have hown8:=hown6.ext hB8
    have hkp8:=hkp6.ext hB8
    have hbs5:=HS5.out
    have ho8:Zy (((wr.alloc (.cells #[.int .u16 x,.int .u32 y] 25)).alloc (.cells #[.int .u16 x,.int .u32 y] 25)).alloc (.cells #[.slice (some ⟨wr.heap.size+1,0,none⟩) 1 1] 26)) base (Vq (some ⟨wr.heap.size+1,0,none⟩,1,1)) [(x,y)]:=by
     have:=(Zy.made1 (wr.alloc (.cells #[.int .u16 x,.int .u32 y] 25)) x y (base:=base) (by simp;omega)).ext ((Below.refl _ _).alloc (Nat.le_refl _) (.cells #[.slice (some ⟨wr.heap.size+1,0,none⟩) 1 1] 26))
     simpa [Vq] using this
    have hc8:(((wr.alloc (.cells #[.int .u16 x,.int .u32 y] 25)).alloc (.cells #[.int .u16 x,.int .u32 y] 25)).alloc (.cells #[.slice (some ⟨wr.heap.size+1,0,none⟩) 1 1] 26)).cell? ⟨wr.heap.size+1+1,0,none⟩=some (Vq (some ⟨wr.heap.size+1,0,none⟩,1,1)):=by
     have h:∀W:World,(W.alloc (.cells #[.slice (some ⟨wr.heap.size+1,0,none⟩) 1 1] 26)).cell? ⟨W.heap.size,0,none⟩=some (Vq (some ⟨wr.heap.size+1,0,none⟩,1,1)):=λW=>by simp [Vq]
     have h2:=h ((wr.alloc (.cells #[.int .u16 x,.int .u32 y] 25)).alloc (.cells #[.int .u16 x,.int .u32 y] 25))
     have hz:((wr.alloc (.cells #[.int .u16 x,.int .u32 y] 25)).alloc (.cells #[.int .u16 x,.int .u32 y] 25)).heap.size=wr.heap.size+1+1:=by simp
     rw [hz] at h2
     exact h2
    have hv8:∀p,Vd (some ⟨wr.heap.size+1,0,none⟩,1,1)=some p→(Value.slice a' n1 c').ownBlock≠some p:=λp hp e=>by
     have:wr.heap.size+1=p:=by simpa [Vd] using hp
     have:=(hown.blk e).2;omega
    have hu8:∀u∈cs',∀p,Vd u=some p→Vd (some ⟨wr.heap.size+1,0,none⟩,1,1)≠some p:=λu hu p hp e=>by
     have:wr.heap.size+1=p:=by simpa [Vd] using e
     have:=(hown.elB hu hp).2;omega
    have HO8:=hid hown8
    have HK8:=hid hkp8
    have HP8:=hid ho8
    have HC8:=hid hc8
    have HV8:=hid hv8
    have HU8:=hid hu8
    have HSU:=hid hsucc
    have HZ8:Hid (base≤(((wr.alloc (.cells #[.int .u16 x,.int .u32 y] 25)).alloc (.cells #[.int .u16 x,.int .u32 y] 25)).alloc (.cells #[.slice (some ⟨wr.heap.size+1,0,none⟩) 1 1] 26)).heap.size):=hid (by simp;omega)
    have HZ9:Hid (w5.heap.size≤(((wr.alloc (.cells #[.int .u16 x,.int .u32 y] 25)).alloc (.cells #[.int .u16 x,.int .u32 y] 25)).alloc (.cells #[.slice (some ⟨wr.heap.size+1,0,none⟩) 1 1] 26)).heap.size∧w5.heap.size≤wr.heap.size+1):=hid (by simp;omega)
    have HHK:=hid hk
    clear hown hkp hrow hL hrc hx hsucc hL24 hB6 hown6 hkp6 hnoB hf hB8 hown8 hkp8 ho8 hc8 hv8 hu8 hs5 hbs5 hkl hk
    go_wp2_with fail
    (with_reducible refine C6.out.mono ?_)
    rintro e w7 ⟨rfl,rfl⟩
    clear C6
    go_wp2_with (at_builtin;go_loud (refine Kh HO8.out HC8.out HP8.out HV8.out HU8.out (by simp) HZ8.out rfl rfl rfl rfl ?_;intro v9 w9 hls9 hg9 hat9;have hkp9:=app_leaf HO8.out HK8.out (x:=x) (y:=y) HZ9.out.2 HZ9.out.1 hls9 hg9 hat9;have HL9:=hid hls9;have HK9:=hid hkp9;clear hls9 hg9 hat9 hkp9))
    go_roundw
    case rel=>exact ⟨k+1,_,by go_num,by omega,by rw [HSU.out];exact HL9.out,HK9.out⟩
    case measure=>simp [intOf];omega
   ·have hjn:j<n1:=by rw [←hn1];exact hj
    obtain ⟨g,cap,hlit,hcap⟩:=hown.lit (by omega)
    rw [hn1] at hlit
    injection hlit with ha' _ hc'
    subst ha'
    have hc2:=hc'.symm
    subst hc2
    obtain ⟨a2,m2,c2,yl,hy,hyl,hcell,hownl,hgw,hap⟩:=app_put (p:=(x,y)) hown6 hn1 hjn hkp6
    have C6:=hid (zbQ (c:=cap) (hid hf) (hid hn1) hL24 (hrow.ext hB6))
    have v1:decide ((j:Int) ≥ 0)=true:=decide_eq_true (by omega)
    have v2:decide ((0:Int)≤(j:Int))=true:=decide_eq_true (by omega)
    obtain ⟨W6,hW6⟩:∃W6,wr.alloc (.cells #[.int .u16 x,.int .u32 y] 25)=W6:=⟨_,rfl⟩
    obtain ⟨B,hB⟩:∃B,wr.heap.size=B:=⟨_,rfl⟩
    have x0:W6.cell? ⟨B,0,none⟩=some (.int .u16 x):=by rw [←hW6,← hB];simp
    have x1':W6.cell? ⟨B,1,none⟩=some (.int .u32 y):=by rw [←hW6,← hB];simp
    have hbq:B<W6.heap.size∧¬ QM (.slice (some ⟨g,0,none⟩) n1 cap) cs' B:=⟨by rw [←hW6,← hB];simp,by rw [←hB];exact hnoB⟩
    rw [hW6] at hcell hownl hgw hap C6
    have hbw7:Below W6.heap.size W6 (W6.drew.alloc (.cells #[.int .u16 x,.int .u32 y] 25)):=(Below.refl _ _).drew.alloc (by simp) _
    have hcell7:(W6.drew.alloc (.cells #[.int .u16 x,.int .u32 y] 25)).cell? ⟨g,j,none⟩=some (.slice a2 m2 c2):=(hbw7.cell (by exact hgw)).trans hcell
    have hcella:(W6.alloc (.cells #[.int .u16 x,.int .u32 y] 25)).cell? ⟨g,j,none⟩=some (.slice a2 m2 c2):=((bra:Below W6.heap.size W6 _).cell (by exact hgw)).trans hcell
    have hcelld:W6.drew.cell? ⟨g,j,none⟩=some (.slice a2 m2 c2):=hcell
    have HO7:=hid (hownl.ext hbw7)
    have HR7:Hid (Zb (W6.drew.alloc (.cells #[.int .u16 x,.int .u32 y] 25)) (some ⟨W6.heap.size,0,none⟩) [(x,y)]):=hid (Zb.one W6.drew x y)
    have HLEN:Hid (yl.length+[(x,y)].length≤1099511627776):=hid (by
     have h1:=Vw L yl (List.mem_of_getElem? hy)
     have h3:=(VY (come.take k) (ls:=ls) HFULL.out).2.length_eq
     rw [hL,Yn,List.length_append,Yn,List.length_take] at h3
     have:=HTOTS.out
     simp
     omega)
    have hs5:=hkp.mt.size
    have hbs5:=HS5.out
    have HB7:Hid (base≤(W6.drew.alloc (.cells #[.int .u16 x,.int .u32 y] 25)).heap.size):=hid (by have:=hbw7.size;rw [←hW6] at this ⊢;simp at this ⊢;omega)
    have HAP:=hid hap
    have HBW7:=hid hbw7
    have HBQ:=hid hbq
    have HX0:Hid (W6.drew.cell? ⟨B,0,none⟩=some (.int .u16 x)):=hid x0
    have HX1:Hid (W6.drew.cell? ⟨B,1,none⟩=some (.int .u32 y)):=hid x1'
    have HS7:Hid ((W6.drew.alloc (.cells #[.int .u16 x,.int .u32 y] 25)).cell? ⟨B,0,none⟩=some (.int .u16 x)∧(W6.drew.alloc (.cells #[.int .u16 x,.int .u32 y] 25)).cell? ⟨B,1,none⟩=some (.int .u32 y)):=hid ⟨(hbw7.cell (by exact hbq.1)).trans x0,(hbw7.cell (by exact hbq.1)).trans x1'⟩
    have HSUCC:=hid (hsucc.trans (zdG hf hy))
    have HHK:=hid hk
    clear hown hkp hrow hL hrc hx hsucc hL24 hB6 hown6 hkp6 hnoB hf hy hyl hcell hownl hgw hap hbw7 hbq hs5 hbs5 hkl hk hj hcap x0 x1'
    go_wp2_with fail
    (with_reducible refine C6.out.mono ?_)
    rintro e w7 ⟨rfl,rfl⟩
    clear C6
    go_wp2_with fail
    refine wp_region_held_drew (S:=λW=>W.cell? ⟨B,0,none⟩=some (.int .u16 x)∧W.cell? ⟨B,1,none⟩=some (.int .u32 y)) (by kernel_rfl) (by exact ⟨HX0.out,HX1.out⟩) (λhHeld=>?_)
    refine tkv 0 (.slice (some ⟨g,0,none⟩) n1 cap) rfl ?_
    refine tkv 1 (.int .i64 (j:Int)) rfl ?_
    refine tkv 2 (.slice (some ⟨g,0,none⟩) n1 cap) rfl ?_
    refine tkv 3 (.int .i64 (j:Int)) rfl ?_
    refine tkv 4 (.pointer (some ⟨g,j,none⟩)) rfl ?_
    refine tkP 6 (.agg #[.int .u16 x,.int .u32 y]) rfl ?_ ?_
    ·intro W hSw
     try dsimp only at hSw
     obtain ⟨hSw1,hSw2⟩:=hSw
     go_simp
    try simp only [lay]
    refine rd (rs:=[5,7]) ?_
    refine AllReadyH.cons (o:=_) rfl (λK hK=>?_) (AllReadyH.cons (o:=_) rfl (λK hK=>?_) AllReadyH.nil)
    ·go_simp
     refine hK.out _ _ (⟨HX0.out,HX1.out⟩) (λhHeld=>?_)
     clear hK K
     try simp only [lay]
     refine rd1 7 rfl λK hK=>?_
     go_simp
     refine hK.out _ _ (HS7.out) (λhHeld=>?_)
     clear hK K
     try simp only [lay]
     refine rd1 8 rfl λK hK=>?_
     refine KC (by rfl) HO7.out HR7.out (hid rfl) HLEN.out HB7.out rfl rfl rfl ?_
     intro v8 w8 hown8 hg8 hat8
     obtain ⟨a8,n8,c8,cs8,e8,k8,f8,hL8,hK8,hq8⟩:=HAP.out _ HBW7.out v8 w8 hown8 hg8 hat8
     subst e8
     have HS8:Hid (w8.cell? ⟨B,0,none⟩=some (.int .u16 x)∧w8.cell? ⟨B,1,none⟩=some (.int .u32 y)):=hid ⟨((hq8 ⟨B,0,none⟩ HBQ.out.1 HBQ.out.2).1).trans HX0.out,((hq8 ⟨B,1,none⟩ HBQ.out.1 HBQ.out.2).1).trans HX1.out⟩
     have HS9:Hid ((w8.setCell ⟨g,j,none⟩ (.slice a8 n8 c8)).cell? ⟨B,0,none⟩=some (.int .u16 x)∧(w8.setCell ⟨g,j,none⟩ (.slice a8 n8 c8)).cell? ⟨B,1,none⟩=some (.int .u32 y)):=hid ⟨((hq8 ⟨B,0,none⟩ HBQ.out.1 HBQ.out.2).2).trans HX0.out,((hq8 ⟨B,1,none⟩ HBQ.out.1 HBQ.out.2).2).trans HX1.out⟩
     have HL8:=hid hL8
     have HK8:=hid hK8
     clear hown8 hg8 hat8 hL8 hK8 hq8
     refine hK.out _ _ (HS8.out) (λhHeld=>?_)
     clear hK K
     try simp only [lay]
     refine rd1 9 rfl λK hK=>?_
     go_simp
     refine hK.out _ _ (HS8.out) (λhHeld=>?_)
     clear hK K
     try simp only [lay]
     refine rd1 10 rfl λK hK=>?_
     go_simp
     refine hK.out _ _ (HS9.out) (λhHeld=>?_)
     clear hK K
     try simp only [lay]
     refine dn ?_
     go_wp2
     go_roundw
     case rel=>exact ⟨k+1,cs8,by go_num,by omega,by rw [HSUCC.out];exact HL8.out,HK8.out⟩
     case measure=>simp [intOf];omega
    ·go_simp
     refine hK.out _ _ (HS7.out) (λhHeld=>?_)
     clear hK K
     try simp only [lay]
     refine rd1 5 rfl λK hK=>?_
     go_simp
     refine hK.out _ _ (HS7.out) (λhHeld=>?_)
     clear hK K
     try simp only [lay]
     refine rd1 8 rfl λK hK=>?_
     refine KC (by rfl) HO7.out HR7.out (hid rfl) HLEN.out HB7.out rfl rfl rfl ?_
     intro v8 w8 hown8 hg8 hat8
     obtain ⟨a8,n8,c8,cs8,e8,k8,f8,hL8,hK8,hq8⟩:=HAP.out _ HBW7.out v8 w8 hown8 hg8 hat8
     subst e8
     have HS8:Hid (w8.cell? ⟨B,0,none⟩=some (.int .u16 x)∧w8.cell? ⟨B,1,none⟩=some (.int .u32 y)):=hid ⟨((hq8 ⟨B,0,none⟩ HBQ.out.1 HBQ.out.2).1).trans HX0.out,((hq8 ⟨B,1,none⟩ HBQ.out.1 HBQ.out.2).1).trans HX1.out⟩
     have HS9:Hid ((w8.setCell ⟨g,j,none⟩ (.slice a8 n8 c8)).cell? ⟨B,0,none⟩=some (.int .u16 x)∧(w8.setCell ⟨g,j,none⟩ (.slice a8 n8 c8)).cell? ⟨B,1,none⟩=some (.int .u32 y)):=hid ⟨((hq8 ⟨B,0,none⟩ HBQ.out.1 HBQ.out.2).2).trans HX0.out,((hq8 ⟨B,1,none⟩ HBQ.out.1 HBQ.out.2).2).trans HX1.out⟩
     have HL8:=hid hL8
     have HK8:=hid hK8
     clear hown8 hg8 hat8 hL8 hK8 hq8
     refine hK.out _ _ (HS8.out) (λhHeld=>?_)
     clear hK K
     try simp only [lay]
     refine rd1 9 rfl λK hK=>?_
     go_simp
     refine hK.out _ _ (HS8.out) (λhHeld=>?_)
     clear hK K
     try simp only [lay]
     refine rd1 10 rfl λK hK=>?_
     go_simp
     refine hK.out _ _ (HS9.out) (λhHeld=>?_)
     clear hK K
     try simp only [lay]
     refine dn ?_
     go_wp2
     go_roundw
     case rel=>exact ⟨k+1,cs8,by go_num,by omega,by rw [HSUCC.out];exact HL8.out,HK8.out⟩
     case measure=>simp [intOf];omega
  ·have htake:come.take k=come:=List.take_of_length_le (by rw [hCn.out];omega)
   rw [htake] at hL
   have hFa:fitV b L=F:=by rw [←hL];exact HF.out
   have hfullL:Qj L:=by rw [←hL];exact HPAR.out.full
   have htotL:Ym L≤60:=by rw [←hL];have:=HTOT.out;have:=H24.out;omega
   have hw5s:w.heap.size<w5.heap.size∧w.heap.size+1<w5.heap.size:=by have:=HZ3.out;have:=HZ5.out;omega
   have z0:wr.cell? ⟨w.heap.size,0,none⟩=some (.int .i64 b.least):=(hkp.cell (p:=⟨w.heap.size,0,none⟩) hw5s.1 HNS0.out.1).trans HBX5.out.c0
   have z1:wr.cell? ⟨w.heap.size,1,none⟩=some (.int .i64 b.most):=(hkp.cell (p:=⟨w.heap.size,1,none⟩) hw5s.1 HNS0.out.1).trans HBX5.out.c1
   have z2:wr.cell? ⟨w.heap.size,2,none⟩=some (.int .i64 b.tmo):=(hkp.cell (p:=⟨w.heap.size,2,none⟩) hw5s.1 HNS0.out.1).trans HBX5.out.c2
   have hs5:=hkp.mt.size
   have hbs5:=HS5.out
   have C6:=fit_any (b:=b) (hid hn1) HBC.out hown hfullL htotL (by omega)
   rw [hFa] at C6
   have C6:=hid C6
   have HKP:=hid hkp
   have HW5:=hid hw5s
   have HSR:Hid (base≤wr.heap.size):=hid (by omega)
   clear hown hkp hrow hL htake hFa hfullL htotL hw5s hs5 hbs5
   go_wp2_with fail
   (with_reducible refine C6.out.mono ?_)
   rintro e w6 ⟨v6,cs6,rfl,hs6,hk6⟩
   obtain ⟨g6,cap6,e6,hcap6⟩:=hs6.lit HF0.out
   obtain ⟨NF,hNF⟩:∃NF,F.length=NF:=⟨_,rfl⟩
   rw [hNF] at e6
   subst e6
   have hkp6:=HKP.out.trans hk6
   have hrm6:Zb w6 am ms:=HRM.out.mutN hkp6.mt (λg off e=>HPM.out g off e)
   have hsz6:=hk6.mt.size
   have hsr:=HSR.out
   have hsz5:=HKP.out.mt.size
   have hf0:=HF0.out
   have hm24:=H24.out
   have hfl:=HFL.out
   have C7:=za6 (cm:=km) HPF.out (hid hNF) hs6 (by omega) (by omega) HM (by omega) hrm6 (λg off e=>⟨hkp6.safe (HBM.out g off e).2.1 (HPM.out g off e),by have:=(HBM.out g off e).2.1;omega⟩)
   rw [HOR.out] at C7
   have C7:=hid C7
   have HKP6:=hid hkp6
   have HRM6:=hid hrm6
   have HNF:=hid hNF
   have HB6:Hid (base≤w6.heap.size∧w5.heap.size≤w6.heap.size∧NF≤24):=hid (by omega)
   clear hs6 hk6 hkp6 hrm6 hNF hcap6 hsz6 hsr hsz5 hf0 hm24 hfl C6 z0 z1 z2
   go_wp2_with fail
   (with_reducible refine C7.out.mono ?_)
   rintro e w7 ⟨cs7,rfl,hs7,hk7⟩
   have hkp7:=HKP6.out.trans hk7
   have hrm7:Zb w7 am ms:=HRM.out.mutN hkp7.mt (λg off e=>HPM.out g off e)
   have hro7:Zp w7 (some ⟨g6,0,none⟩) OR:=by
    obtain ⟨x,y,e,hr⟩:=hs7.row
    injection e with e1 e2 e3
    rw [e1];exact hr
   have horn:OR.length=NF:=HORL.out.trans HNF.out
   have C8:=zaJ (cm:=km) (cl:=cap6) HM (by have:=H24.out;omega) (hid horn) (by have:=HB6.out;omega) hrm7 hro7 HFO.out HHD.out HHS.out HPF.out.nd HOKM.out
   rw [HDS.out] at C8
   have C8:=hid C8
   have HKP7:=hid hkp7
   have HRM7:=hid hrm7
   have HS7:=hid hs7
   have HORN:=hid horn
   have HSZ7:Hid (w5.heap.size≤w7.heap.size):=hid (by have:=hkp7.mt.size;omega)
   clear hs7 hk7 hkp7 hrm7 hro7 horn C7
   go_wp2_with fail
   (with_reducible refine C8.out.mono ?_)
   rintro e w8 ⟨v8,rfl,hown8,hb8⟩
   obtain ⟨a8,c8,e8,-,hr8,-,hblk8⟩:=hown8.sl
   obtain ⟨n8,hn8⟩:∃n8,DS.length=n8:=⟨_,rfl⟩
   rw [hn8] at e8 hblk8
   subst e8
   have hvx8:=(HVX5.out.mutT HKP7.out.mt HNS0.out.2).ext hb8
   obtain ⟨d0,d1,d2,d3,g0,g1,g2,g3⟩:=_root_.id hvx8
   have DD:=hid (hvx8.put (.int .u64 id) (.slice am M km) (.slice (some ⟨g6,0,none⟩) NF cap6) (.slice a8 n8 c8))
   have HN8:=hid hn8
   have HR8:=hid hr8
   have HBLK8:=hid hblk8
   have HB8:=hid hb8
   clear hvx8 hn8 hr8 hblk8 hb8 hown8 C8
   go_wp2_with fail
   obtain ⟨q0,q1,q2,q3,-,-,-,-⟩:=DD.out
   have hmt9:Mut (λk=>k=w.heap.size+1) w8 ((((w8.setCell ⟨w.heap.size+1,0,none⟩ (.int .u64 id)).setCell ⟨w.heap.size+1,1,none⟩ (.slice am M km)).setCell ⟨w.heap.size+1,2,none⟩ (.slice (some ⟨g6,0,none⟩) NF cap6)).setCell ⟨w.heap.size+1,3,none⟩ (.slice a8 n8 c8)):=((Xk.trans Xk).trans Xk).trans Xk
   have hno9:¬ QM (.slice (some ⟨g6,0,none⟩) NF cap6) cs7 (w.heap.size+1):=HKP7.out.safe HW5.out.2 HNS0.out.2
   refine bodyPost_ret (v:=.tuple #[.agg #[.int .u64 id,.slice am M km,.slice (some ⟨g6,0,none⟩) NF cap6,.slice a8 n8 c8],.int .i64 0]) (by simp [results,Tryz.results65,go_sem,q0,q1,q2,q3]) rfl ?_
   unfold YV
   have hm9:=(HRM7.out.ext HB8.out).mutN hmt9 (λg off e=>(HBM.out g off e).2.2)
   have hl9:=(HS7.out.ext HB8.out).mutN hmt9 (λg hg e=>hno9 (.inl (by have e:g=w.heap.size+1:=e;rw [←e];exact hg))) (λs hs g hg e=>hno9 (.inr ⟨s,hs,by have e:g=w.heap.size+1:=e;rw [←e];exact hg⟩))
   have hblk8:∀g off,a8=some ⟨g,off,none⟩→w.heap.size+1<g:=λg off e=>by
    have:=(HBLK8.out g (by rw [e];rfl)).1
    have:=HSZ7.out
    have:=HW5.out
    omega
   have hd9:=HR8.out.mutN hmt9 (λg off e eq=>by
    have:=hblk8 g off e
    have eq:g=w.heap.size+1:=eq
    omega)
   refine ⟨am,some ⟨g6,0,none⟩,a8,km,cap6,c8,?_,λG hG W' hmG=>⟨?_,?_,?_,?_,?_,?_,?_⟩,?_⟩
   ·show _=Ending.returned (.tuple #[.agg #[.int .u64 id,.slice am ms.length km,.slice (some ⟨g6,0,none⟩) OR.length cap6,.slice a8 DS.length c8],.int .i64 0])
    rw [HM.out,HORN.out,HN8.out]
   ·exact hm9.mutN hmG (λg off e hg=>by have:=(HBM.out g off e).1;have:=hG g hg;have:=HBASE.out;omega)
   ·obtain ⟨x,y,e,hr⟩:=(hl9.mutT hmG hG).row
    injection e with e1 e2 e3
    show Zp _ (some ⟨g6,0,none⟩) OR
    subst e1
    exact hr
   ·exact hd9.mutN hmG (λg off e hg=>by have:=hblk8 g off e;have:=hG g hg;have:=HBASE.out;omega)
   ·show ms.length≤70368744177664
    have:=HM.out;have:=H24.out;omega
   ·show OR.length≤70368744177664
    have:=HORN.out;have:=HB6.out;omega
   ·show DS.length≤70368744177664
    have:=HDL.out;omega
   ·intro l hl
    have:=HORM.out l hl;omega
   ·exact Mut.far ((Mut.of_below HB5.out).trans (HKP7.out.ext HB8.out).mt) hmt9 (λk hk e=>by have e:k=w.heap.size+1:=e;omega)
theorem zb2 {b:Nat}:¬ QM (.slice none 0 0) [] b:=by
 rintro (h | ⟨s,hs,-⟩)
 ·cases h
 ·cases hs
theorem ZU.none:ZU [] []:=⟨List.Pairwise.nil,λ_ hl=>(by cases hl),List.Perm.refl _⟩
theorem Gn.mono {base b':Nat} {w:World} {am al ad:Option Addr} {V:Zs} (h:Gn base w am al ad V) (hb:b'≤base):Gn b' w am al ad V :=
 λG hG W' hm=>h G (λk hk=>by have:=hG k hk;omega) W' hm
theorem Gn.mut {base:Nat} {G:Nat→Prop} {w w':World} {am al ad:Option Addr} {V:Zs} (h:Gn base w am al ad V) (hm:Mut G w w') (hG:∀k,G k→k<base):Gn base w' am al ad V :=
 λG2 hG2 W' hm2=>h (λk=>G k∨G2 k) (λk hk=>hk.elim (hG k) (hG2 k)) W' ((hm.mono λ_ _ e=>.inl e).trans (hm2.mono λ_ _ e=>.inr e))
theorem ER {b:Bnd} {w:World} {r:Bool} {k:Int} (hr:Hid (GS b=r)) (hk:chkL r=k) (hb:zem b) :
  Calls Tryz.prog 63 #[.agg #[.int .i64 b.least,.int .i64 b.most,.int .i64 b.tmo]] w λe w'=>e=.returned (.int .i64 k)∧Below w.heap.size w w':=by
 have:=zcl (w:=w) hb
 rw [hr.out,hk] at this
 exact this
structure zbZ (W2 w:World) (b:Bnd):Prop where
 bl:Below w.heap.size w W2
 sz:W2.heap.size=w.heap.size+1+1
 bx:Yx W2 w.heap.size b
 vx:VQ W2 (w.heap.size+1) (.int .u64 0) (.slice none 0 0) (.slice none 0 0) (.slice none 0 0)
theorem zbZ.made (w:World) (b:Bnd):zbZ ((w.alloc (.cells #[.int .i64 b.least,.int .i64 b.most,.int .i64 b.tmo] 28)).alloc (.cells #[.int .u64 0,.slice none 0 0,.slice none 0 0,.slice none 0 0] 35)) w b:=by
 refine ⟨(bra).alloc (by simp) _,by simp,(Yx.made w).ext (bra) (by simp),?_⟩
 have:=VQ.made (w.alloc (.cells #[.int .i64 b.least,.int .i64 b.most,.int .i64 b.tmo] 28)) 35 (.int .u64 0) (.slice none 0 0) (.slice none 0 0) (.slice none 0 0)
 simpa using this
theorem mut4 {w:World} {b:Nat} {v0 v1 v2 v3:Value}:Mut (λk=>k=b) w ((((w.setCell ⟨b,0,none⟩ v0).setCell ⟨b,1,none⟩ v1).setCell ⟨b,2,none⟩ v2).setCell ⟨b,3,none⟩ v3):=((Xk.trans Xk).trans Xk).trans Xk
set_option maxRecDepth 100000 in
set_option maxHeartbeats 3200000 in
theorem zak {w:World} {l:List Pid} {b:Bnd} {a:Option Addr} {c n:Nat} {V:Zs} {er:Int} (hV:Hid (GK l b=(V,er))) (hn:Hid (l.length=n)) (hnl:n≤1000) (hrow:Zb w a l) (hok:∀p∈l,ok p) (hbo:zem b) :
  Calls Tryz.prog 26 #[.slice a n c,.agg #[.int .i64 b.least,.int .i64 b.most,.int .i64 b.tmo]] w λe w'=>YV V er w.heap.size (λ_=>False) w e w':=by
 obtain ⟨W2,hW2⟩:∃W2,((w.alloc (.cells #[.int .i64 b.least,.int .i64 b.most,.int .i64 b.tmo] 28)).alloc (.cells #[.int .u64 0,.slice none 0 0,.slice none 0 0,.slice none 0 0] 35))=W2:=⟨_,rfl⟩
 have hT:zbZ W2 w b:=by rw [←hW2];exact zbZ.made w b
 have HT:=hid hT
 obtain ⟨rb,hrb⟩:∃r,GS b=r:=⟨_,rfl⟩
 obtain ⟨rm,hrm⟩:∃r,Ex l=r:=⟨_,rfl⟩
 obtain ⟨c0,c1,c2⟩:=id hT.bx
 have HOK:=hid hok
 have HROW:=hid hrow
 clear hT hok hrow
 cases rb
 case false =>
  have hv:(ZS,(1:Int))=(V,er):=by rw [←hV.out];unfold GK;rw [if_pos (.inl hrb)]
  obtain ⟨rfl,rfl⟩:ZS=V∧1=er:=by simpa using hv
  have C1:=hid (ER (w:=W2) (k:=1) (hid hrb) rfl hbo)
  have t1:((1:Int) != 0)=true:=by decide
  clear hV hv hrb hrm
  go_enter Tryz.func26,Tryz.ntmps26
  go_wp2_with fail
  (with_reducible refine C1.out.mono ?_)
  rintro e w3 ⟨rfl,hb3⟩
  obtain ⟨d0,d1,d2,d3,g0,g1,g2,g3⟩:=HT.out.vx.ext hb3
  have DD:=hid ((HT.out.vx.ext hb3).put (.int .u64 0) (.slice none 0 0) (.slice none 0 0) (.slice none 0 0))
  have HB3:=hid (HT.out.bl.trans (hb3.mono HT.out.bl.size))
  clear hb3 C1 c0 c1 c2 hW2
  go_wp2_with fail
  obtain ⟨q0,q1,q2,q3,-,-,-,-⟩:=DD.out
  exact bodyPost_ret (v:=.tuple #[.agg #[.int .u64 0,.slice none 0 0,.slice none 0 0,.slice none 0 0],.int .i64 1]) (by simp [results,Tryz.results26,go_sem,q0,q1,q2,q3]) rfl
   (YV.zero (Mut.of_below (Yy HB3.out (by omega))))
 case true =>
  have C1:=hid (ER (w:=W2) (k:=0) (hid hrb) rfl hbo)
  have CM:Hid (∀W,Below W2.heap.size W2 W→Calls Tryz.prog 64 #[.slice a n c] W λe w'=>e=.returned (.bool rm)∧Below W.heap.size W w'):=hid λW h=>lmay_any (hid hrm) hn (by omega) ((HROW.out.ext HT.out.bl).ext h)
  have t1:((0:Int) != 0)=false:=by decide
  cases rm
  case false =>
   have hv:(ZS,(1:Int))=(V,er):=by rw [←hV.out];unfold GK;rw [if_pos (.inr hrm)]
   obtain ⟨rfl,rfl⟩:ZS=V∧1=er:=by simpa using hv
   clear hV hv hrb hrm
   go_enter Tryz.func26,Tryz.ntmps26
   go_wp2_with fail
   (with_reducible refine C1.out.mono ?_)
   rintro e w3 ⟨rfl,hb3⟩
   have CMw:=CM.out _ hb3
   clear c0 c1 c2 C1 CM
   go_wp2_with fail
   (with_reducible refine CMw.mono ?_)
   rintro e w4 ⟨rfl,hb4⟩
   have hb24:=hb3.trans (hb4.mono hb3.size)
   obtain ⟨d0,d1,d2,d3,g0,g1,g2,g3⟩:=HT.out.vx.ext hb24
   have DD:=hid ((HT.out.vx.ext hb24).put (.int .u64 0) (.slice none 0 0) (.slice none 0 0) (.slice none 0 0))
   have HB3:=hid (HT.out.bl.trans (hb24.mono HT.out.bl.size))
   clear hb3 hb4 hb24 CMw hW2
   go_wp2_with fail
   obtain ⟨q0,q1,q2,q3,-,-,-,-⟩:=DD.out
   exact bodyPost_ret (v:=.tuple #[.agg #[.int .u64 0,.slice none 0 0,.slice none 0 0,.slice none 0 0],.int .i64 1]) (by simp [results,Tryz.results26,go_sem,q0,q1,q2,q3]) rfl
    (YV.zero (Mut.of_below (Yy HB3.out (by omega))))
  case true =>
   have hv:Qy 1 [] [] l b=(V,er):=by rw [←hV.out];unfold GK;rw [if_neg (by rw [hrb,hrm];simp)]
   have HV:=hid hv
   have HRB:=hid hrb
   clear hV hv hrb hrm
   go_enter Tryz.func26,Tryz.ntmps26
   go_wp2_with fail
   (with_reducible refine C1.out.mono ?_)
   rintro e w3 ⟨rfl,hb3⟩
   have CMw:=CM.out _ hb3
   clear c0 c1 c2 C1 CM
   go_wp2_with fail
   (with_reducible refine CMw.mono ?_)
   rintro e w4 ⟨rfl,hb4⟩
   have hb24:=hb3.trans (hb4.mono hb3.size)
   obtain ⟨c0,c1,c2⟩:=HT.out.bx.ext hb24 HT.out.bx.lt
   have HVX4:=hid (HT.out.vx.ext hb24)
   have HB3:=hid (HT.out.bl.trans (hb24.mono HT.out.bl.size))
   have HSZ4:Hid (w.heap.size+1<w4.heap.size):=hid (by have:=hb24.size;have:=HT.out.sz;omega)
   have C3:=hid (zeA (w:=w4) (base:=w4.heap.size) (SN:=0) (N:=0) (ks:=0) (kc:=c) (ay:=none) (ac:=a) HV rfl hn rfl (by omega) hnl (.inl rfl) (HROW.out.ext HB3.out) (LLs.nil _ _) (Nat.le_refl _) ZU.none List.Pairwise.nil (by simpa using HOK.out) HRB.out (λ_ _ _ _=>zb2))
   clear hb3 hb4 hb24 CMw hW2
   go_wp2_with fail
   (with_reducible refine C3.out.mono ?_)
   rintro e w5 hres
   unfold YV at hres
   obtain ⟨qm,ql,qd,km,kl,kd,rfl,hst,hm⟩:=hres
   have hb5:Below w4.heap.size w4 w5:=hm.below (Nat.le_refl _) (λk e=>absurd e zb2)
   have hvx5:=HVX4.out.ext hb5
   obtain ⟨d0,d1,d2,d3,g0,g1,g2,g3⟩:=id hvx5
   have DD:=hid (hvx5.put (.int .u64 V.id) (.slice qm V.ms.length km) (.slice ql V.ls.length kl) (.slice qd V.ds.length kd))
   have HB5:=hid (HB3.out.trans (hb5.mono HB3.out.size))
   have HST:=hid hst
   clear hvx5 hb5 hm hst C3 c0 c1 c2
   go_wp2_with fail
   obtain ⟨q0,q1,q2,q3,-,-,-,-⟩:=DD.out
   refine bodyPost_ret (v:=.tuple #[.agg #[.int .u64 V.id,.slice qm V.ms.length km,.slice ql V.ls.length kl,.slice qd V.ds.length kd],.int .i64 er]) (by simp [results,Tryz.results26,go_sem,q0,q1,q2,q3]) rfl ?_
   unfold YV
   exact ⟨qm,ql,qd,km,kl,kd,rfl,(HST.out.mut mut4 (λk e=>by have:=HSZ4.out;omega)).mono (by have:=HSZ4.out;omega),Mut.of_below (Yy HB5.out (by omega))⟩
end Go.Proofs.YtcdpaflmofljaaaGreat
