import Derived.Test.YtcdpaflmofljaaaGreatGNodeNil16
import Derived.Deep.LoopGhost
import Derived.WalkMore
/- Parts of the proof of NodeNil: X96 X98 X97 X99 ShelfL X100 X101. -/
namespace Go.Proofs.YtcdpaflmofljaaaGreat
open Go.RowKit
theorem Kp {w w':World} {v:Value} (hg:w.grownBy w' v.ownBlock):Mut (λb=>v.ownBlock=some b) w w' :=
 ⟨hg.os,hg.tape,hg.output,hg.size,λk hk hf=>hg.block k hk (λe=>hf e.symm)⟩
theorem Mut.frozen {F:Nat→Prop} {w w':World} (h:Mut F w w') {p:Addr} (hp:p.block<w.heap.size) (hf:¬ F p.block):w'.frozen? p=w.frozen? p:=by
 simp only [World.frozen?,h.block p.block hp hf]
def QM (v:Value) (cs:List Sl) (b:Nat):Prop:=v.ownBlock=some b∨∃s∈cs,Vd s=some b
structure Xc (w:World) (v:Value) (cs:List Sl) (w':World) (v':Value) (cs':List Sl):Prop where
 mt:Mut (QM v cs) w w'
 blk:∀b,QM v' cs' b→QM v cs b∨w.heap.size≤b
theorem Xc.refl (w:World) (v:Value) (cs:List Sl):Xc w v cs w v cs:=⟨Mut.refl _ _,λ_ h=>.inl h⟩
theorem Xc.trans {w w1 w2:World} {v v1 v2:Value} {cs cs1 cs2:List Sl} (h1:Xc w v cs w1 v1 cs1) (h2:Xc w1 v1 cs1 w2 v2 cs2):Xc w v cs w2 v2 cs2:=by
 have hs:=h1.mt.size
 refine ⟨⟨h2.mt.os.trans h1.mt.os,h2.mt.tape.trans h1.mt.tape,h2.mt.output.trans h1.mt.output,Nat.le_trans hs h2.mt.size,λk hk hn=>?_⟩,λb hb=>?_⟩
 ·refine (h2.mt.block k (by omega) λe=>?_).trans (h1.mt.block k hk hn)
  rcases h1.blk k e with e | e
  ·exact hn e
  ·omega
 ·rcases h2.blk b hb with e | e
  ·exact h1.blk b e
  ·exact .inr (by omega)
theorem Xc.ext {w w1 w2:World} {v v1:Value} {cs cs1:List Sl} (h1:Xc w v cs w1 v1 cs1) (hb:Below w1.heap.size w1 w2):Xc w v cs w2 v1 cs1:=⟨h1.mt.trans (Mut.of_below hb),h1.blk⟩
theorem LLs.inB {w:World} {base:Nat} {v:Value} {cs:List Sl} {ls:LL} (h:LLs w base v cs ls) {b:Nat} (hb:QM v cs b):base≤b∧b<w.heap.size:=by
 rcases hb with e | ⟨s,hs,e⟩
 ·exact h.blk e
 ·exact h.elB hs e
theorem zdy {a:Option Addr} {n c k:Nat} (h:k≤c) (W:World):(Instr.slice 26 (.slice a n c) none (some (.int .i64 k)) none).run Tryz.prog W=.ok (.slice (if c=0 then a else a.map (·.add (0 * 2))) (k - 0) (c - 0)) W:=by
 have hs:∀W,(sizeOf 25).run Tryz.prog W=.ok 2 W:=λW=>Tryz.sizeOf25 W
 simp [Instr.slice,run_underlying Tryz.underlying26,Instr.sliceBounds,run_sliceBound,hs,Result.andThen,h]
theorem zez {a:Option Addr} {n c k:Nat} (h:k≤n) (W:World):(Instr.slice 26 (.slice a n c) (some (.int .i64 k)) none none).run Tryz.prog W=.ok (.slice (if c=k then a else a.map (·.add (k * 2))) (n - k) (c - k)) W:=by
 have hs:∀W,(sizeOf 25).run Tryz.prog W=.ok 2 W:=λW=>Tryz.sizeOf25 W
 simp [Instr.slice,run_underlying Tryz.underlying26,Instr.sliceBounds,run_sliceBound,hs,Result.andThen,h]
theorem Zb.from {w:World} {a:Option Addr} {xs:List Pid} (h:Zb w a xs) {k c:Nat} (hc:xs.length≤c):Zb w (if c=k then a else a.map (·.add (k * 2))) (xs.drop k):=by
 by_cases hk:k<xs.length
 ·rw [if_neg (by omega)]
  obtain ⟨b,off,rfl,hb,hcell⟩:=h.get (by omega)
  refine .inr ⟨b,off+k * 2,by simp [YN],hb,λi hi=>?_⟩
  simp only [List.length_drop] at hi
  have:=hcell (k+i) (by omega)
  rw [List.getElem_drop,show off+k * 2+i * 2=off+(k+i) * 2 by omega]
  exact this
 ·rw [List.drop_eq_nil_of_le (by omega)];exact .inl rfl
theorem Zb.uptoC {w:World} {a:Option Addr} {xs:List Pid} (h:Zb w a xs) (k c:Nat):Zb w (if c=0 then a else a.map (·.add (0 * 2))) (xs.take k):=by
 have up:∀{a:Option Addr},Zb w a xs→Zb w a (xs.take k):=by
  intro a h
  rcases h with rfl | ⟨b,off,rfl,hb,hcell⟩
  ·exact .inl (by simp)
  ·refine .inr ⟨b,off,rfl,hb,λi hi=>?_⟩
   simp only [List.length_take] at hi
   have:=hcell i (by omega)
   simpa using this
 split
 ·exact up h
 ·rcases h with rfl | ⟨b,off,rfl,hb,hcell⟩
  ·exact .inl (by simp)
  ·have e:(some (⟨b,off,none⟩:Addr)).map (·.add (0 * 2))=some ⟨b,off,none⟩:=by simp [YN]
   rw [e];exact up (.inr ⟨b,off,rfl,hb,hcell⟩)
theorem Zy.rowc {w:World} {base:Nat} {v:Value} {xs:List Pid} (h:Zy w base v xs):∃a c,v=.slice a xs.length c∧Zb w a xs∧xs.length≤c:=by
 obtain ⟨a,c,rfl,hr,-⟩:=h.row
 refine ⟨a,c,rfl,hr,?_⟩
 rcases h.2 with ⟨h1,h2⟩ | ⟨g,cap,cur,h1,_,_,h2,_⟩
 ·omega
 ·injection h1 with _ _ h1;omega
theorem Zy.sl {w:World} {base:Nat} {v:Value} {xs:List Pid} (h:Zy w base v xs):∃a c,v=.slice a xs.length c∧v=Vq (a,xs.length,c)∧Zb w a xs∧xs.length≤c∧∀q,Vd (a,xs.length,c)=some q→base≤q∧q<w.heap.size:=by
 obtain ⟨a,c,e,hr,hc⟩:=h.rowc
 refine ⟨a,c,e,e,hr,hc,λq hq=>?_⟩
 have e2:v.ownBlock=Vd (a,xs.length,c):=by rw [e];exact ZH (a,xs.length,c)
 exact h.blk (by rw [e2];exact hq)
theorem Ja {w:World} {base:Nat} {v:Value} {xs ys:List Pid} (hown:Zy w base v xs) {a:Option Addr} {c:Nat} (hy:Zb w a ys) (hlen:xs.length+ys.length≤1099511627776) (hbase:base≤w.heap.size) (ty:TypeId) :
  ∃v' w',(Builtin.append_ #[26,26] ty #[v,.slice a ys.length c]).run Tryz.prog w=.ok v' w'∧Zy w' base v' (xs ++ ys)∧w.grownBy w' v.ownBlock∧(v'.ownBlock=v.ownBlock∨v'.ownBlock=some w.heap.size):=by
 obtain ⟨i0,hi,hz0,hz1,hz2⟩:=info_parts EE
 rcases hy with rfl | ⟨b,off,rfl,hlt,hc⟩
 ·refine ⟨v,w,?_,by simpa using hown,⟨rfl,rfl,rfl,Nat.le_refl _,λ_ _ _=>rfl⟩,.inl rfl⟩
  rcases hown.2 with ⟨rfl,hn⟩ | ⟨g,cap,cur,rfl,hb,hg,hnc,hcm,hcs,htake⟩
  ·cases a <;> simp [Builtin.append_,run_underlying Tryz.underlying26,sizeOf,typeInfo,hi,Builtin.lenOf,Builtin.firstCells,loadCells,loadCellsFrom]
  ·cases a <;> simp [Builtin.append_,run_underlying Tryz.underlying26,sizeOf,typeInfo,hi,Builtin.lenOf,Builtin.firstCells,loadCells,loadCellsFrom,hnc,storeCells]
 ·obtain ⟨v',w',hr,h2,h3,h4,h5⟩:=run_append_own_at (P:=Tryz.prog) w base 26 ty 25 i0 _ 2 8 Tryz.underlying26 hi hz0 hz1 hz2 rfl (by decide) v xs.length (ZD xs) hown ⟨b,off,none⟩ ys.length c (ZD ys) (ZZ ys) (Zb.cells hc) (Kc ys) (by unfold maxLen;omega) (by omega) hbase
  refine ⟨v',w',hr,?_,h3,h5⟩
  unfold Zy;rw [List.length_append,Xi];exact h2
theorem JE {w:World} {ops:Array Oper} {rest:List Oper} {o:Oper} {a:Act} {Q:Exit→Act→World→Prop} {s x:Operand} {base:Nat} {v:Value} {xs ys:List Pid} (hown:Zy w base v xs) {ad:Option Addr} {c n:Nat} (hy:Zb w ad ys) (hn:Hid (ys.length=n))
  (hlen:xs.length+n≤1099511627776) (hbase:base≤w.heap.size)
  (hg:o.guard=none) (ho:o.op=.call { callee:=.builtin .append,args:=#[s,x],argTypes:=#[26,26] }) (hs:a.eval s=v) (hx:a.eval x=.slice ad n c)
  (h:∀v' w',Zy w' base v' (xs ++ ys)→w.grownBy w' v.ownBlock→(v'.ownBlock=v.ownBlock∨v'.ownBlock=some w.heap.size)→wpList Tryz.prog ops Q rest (a.put o.dst v') w'):wpList Tryz.prog ops Q (o :: rest) a w:=by
 have hn:=hn.out;subst hn
 obtain ⟨v',w',hr,h2,h3,h4⟩:=Ja hown (c:=c) hy hlen hbase o.type
 exact Lib.wpList_append_run w hg s x 26 26 ho _ _ hs hx v' w' hr (h v' w' h2 h3 h4)
theorem half_run (n:Nat) (h:n≤70368744177664):IntKind.i64.wrap (((n:Int)+1).tdiv 2)=(((n+1) / 2:Nat):Int):=by
 have e:((n:Int)+1).tdiv 2=(((n+1) / 2:Nat):Int):=by
  rw [Int.tdiv_eq_ediv_of_nonneg (by omega)];omega
 rw [e,IntKind.wrap_i64] <;> omega
set_option maxRecDepth 100000 in
set_option maxHeartbeats 6400000 in
theorem part_any {w:World} {base g cap k:Nat} {cs:List Sl} {ls:LL} {N:Nat} (hN:Hid (ls.length=N)) (h:LLs w base (.slice (some ⟨g,0,none⟩) N cap) cs ls) (hbase:base≤w.heap.size) (hk:k<N) (hl:(ls.getD k []).length≤1000000) (hNl:N≤1000000) :
  Calls Tryz.prog 259 #[.slice (some ⟨g,0,none⟩) N cap,.int .i64 k] w λe w'=>∃v' cs',e=.returned v'∧LLs w' base v' cs' (Ft ls k)∧Xc w (.slice (some ⟨g,0,none⟩) N cap) cs w' v' cs':=by
 have hN':=hN.out
 subst hN'
 obtain ⟨g',cap',s,e0,hcap,hbg,hgw,hcs,hcell,hfr,hown,hsg⟩:=h.get hk
 cases e0
 have hgd:ls.getD k []=ls[k]:=by simp [List.getD,hk]
 obtain ⟨l,hl'⟩:∃l,ls[k]=l:=⟨_,rfl⟩
 rw [hgd,hl'] at hl
 rw [hl'] at hown
 obtain ⟨a,c,he,he2,hrow,hlc,hblk⟩:=hown.sl
 rw [he] at hcell
 have hsS:s=(a,l.length,c):=by
  obtain ⟨x,y,z⟩:=s
  have:Value.slice x y z=Value.slice a l.length c:=he
  injection this with e1 e2 e3
  rw [e1,e2,e3]
 obtain ⟨n,hn⟩:∃n,l.length=n:=⟨_,rfl⟩
 obtain ⟨q,hq⟩:∃q,GG l=q:=⟨_,rfl⟩
 have hqn:q=(n+1) / 2:=by rw [←hq,← hn];rfl
 have hw2:=half_run n (by omega)
 rw [←hqn] at hw2
 have hw1:IntKind.i64.wrap ((n:Int)+1)=(n:Int)+1:=by rw [IntKind.wrap_i64] <;> omega
 have h20:((2:Int) == 0)=false:=rfl
 rw [hn] at hcell hlc hsS
 obtain ⟨a1,ha1⟩:∃a1,(if c=0 then a else a.map (·.add (0 * 2)))=a1:=⟨_,rfl⟩
 obtain ⟨a2,ha2⟩:∃a2,(if c=q then a else a.map (·.add (q * 2)))=a2:=⟨_,rfl⟩
 obtain ⟨n2,hn2⟩:∃n2,n - q=n2:=⟨_,rfl⟩
 obtain ⟨c2,hc2⟩:∃c2,c - q=c2:=⟨_,rfl⟩
 have hqle:q≤n:=by omega
 have U1:∀W,(Instr.slice 26 (.slice a n c) none (some (.int .i64 q)) none).run Tryz.prog W=.ok (.slice a1 q c) W:=λW=>by rw [zdy (by omega) W,ha1];rfl
 have U2:∀W,(Instr.slice 26 (.slice a n c) (some (.int .i64 q)) none none).run Tryz.prog W=.ok (.slice a2 n2 c2) W:=λW=>by rw [zez hqle W,ha2,hn2,hc2]
 have r1:Zb w a1 (l.take q):=by rw [←ha1];exact hrow.uptoC q c
 have C1:=hid (Qe (c:=c) (hid (show (l.take q).length=q by rw [List.length_take];omega)) (by omega) r1)
 have HROW:=hid hrow
 have HH:=hid h
 have HQ:=hid hq
 have HL:=hid hl'
 have HLN:=hid hn
 have HS:=hid hsS
 have HGW:=hid hgw
 have HBG:=hid hbg
 have HHW:=hid (And.intro hqn hw2)
 have HCS:=hid hcs
 have HSG:=hid hsg
 have HCAP:=hid hcap
 have HA2:=hid ha2
 have HN2:=hid hn2
 have HLC:=hid hlc
 have HGD:=hid hgd
 have HBLK:=hid hblk
 clear hrow h hq hl' hn hsS hbg hqn hcs hsg hcap ha1 ha2 hn2 hc2 hlc r1 hgd he he2 hown hblk
 go_enter Tryz.func259,Tryz.ntmps259
 go_wp2_with fail
 (with_reducible refine C1.out.mono ?_)
 rintro e w2 ⟨v2,rfl,hown2,hb2⟩
 obtain ⟨b2,k2,e2,e2s,-,-,hblk2⟩:=hown2.sl
 have hl2:(l.take q).length=q:=by rw [List.length_take,HLN.out];omega
 rw [hl2] at e2 e2s hblk2
 have hs2:LLs (w2.setCell ⟨g,k,none⟩ (Vq (b2,q,k2))) base (.slice (some ⟨g,0,none⟩) ls.length cap) (cs.set k (b2,q,k2)) (ls.set k (l.take q)) :=
  HH.out.put hk HCS.out (Mut.of_below hb2) (by rw [←e2s];exact hown2.mono2 hbase) (λp hp=>.inr (hblk2 p hp).1)
 subst e2
 obtain ⟨w3,hw3⟩:∃w3,w2.setCell ⟨g,k,none⟩ (.slice b2 q k2)=w3:=⟨_,rfl⟩
 have hs3:LLs w3 base (.slice (some ⟨g,0,none⟩) ls.length cap) (cs.set k (b2,q,k2)) (ls.set k (l.take q)):=by rw [←hw3];exact hs2
 have hm23:Mut (λb=>b=g) w2 w3:=by rw [←hw3];exact Xk
 have hrow3:Zb w3 a l:=(HROW.out.ext hb2).mutT hm23 (λb off e _ hk=>HSG.out (by have hk:b=g:=hk;rw [HS.out,e,hk];rfl))
 have r2:Zb w3 a2 (l.drop q):=by rw [←HA2.out];exact hrow3.from (by rw [HLN.out];exact HLC.out)
 have C2:=hid (Qe (c:=c2) (hid (show (l.drop q).length=n2 by rw [List.length_drop,HLN.out];exact HN2.out)) (by have:=HN2.out;have:=HLN.out;omega) r2)
 have hcell2:∃u,w2.cell? ⟨g,k,none⟩=some u:=⟨_,(hb2.cell (by exact HGW.out)).trans hcell⟩
 obtain ⟨u2,hu2⟩:=hcell2
 have hfr2:w2.frozen? ⟨g,k,none⟩=false:=(hb2.frozen (by exact HGW.out)).trans hfr
 have hm2:Mut (λb=>b=g) w w3:=(Mut.of_below hb2).trans hm23
 have HK2:Hid (∀p,Vd (b2,q,k2)=some p→w.heap.size≤p):=hid λp hp=>(hblk2 p hp).1
 have HS3:=hid hs3
 have HM2:=hid hm2
 have HZ3:Hid (w.heap.size≤w3.heap.size∧g<w3.heap.size):=hid ⟨hm2.size,by have:=HGW.out;have:=hm2.size;omega⟩
 have HB2:Hid (∀p,Vd (b2,q,k2)=some p→p<w3.heap.size):=hid λp hp=>by have:=(hblk2 p hp).2;have:=hm23.size;omega
 clear hs2 hs3 hm23 hrow3 r2 hb2 hown2 hm2 C1 e2s hblk2 HROW hcell hfr
 go_wp2_with fail
 (with_reducible refine C2.out.mono ?_)
 rintro e w4 ⟨v4,rfl,hown4,hb4⟩
 obtain ⟨b4,k4,e4,e4s,-,-,hblk4⟩:=hown4.sl
 have hl4:(l.drop q).length=n2:=by rw [List.length_drop,HLN.out];exact HN2.out
 rw [hl4] at e4 e4s hblk4
 subst e4
 have hq5:Below w4.heap.size w4 (w4.alloc (.cells #[.slice b4 n2 k4] 26)):=bra
 have hs5:=(HS3.out.ext hb4).ext hq5
 have ho5:Zy (w4.alloc (.cells #[.slice b4 n2 k4] 26)) base (Vq (b4,n2,k4)) (l.drop q):=(hown4.ext hq5).mono2 (by have:=HZ3.out;omega)
 have hc5:(w4.alloc (.cells #[.slice b4 n2 k4] 26)).cell? ⟨w4.heap.size,0,none⟩=some (Vq (b4,n2,k4)):=by simp [Vq]
 have hv5:∀p,Vd (b4,n2,k4)=some p→(Value.slice (some ⟨g,0,none⟩) ls.length cap).ownBlock≠some p:=λp hp e=>by
  have:=(hblk4 p hp).1;have:=HZ3.out.2;simp [Value.ownBlock] at e;omega
 have hu5:∀u∈cs.set k (b2,q,k2),∀p,Vd u=some p→Vd (b4,n2,k4)≠some p:=λu hu p hp e=>by
  have h1:=(hblk4 p e).1
  have h2:=(HS3.out.elB hu hp).2
  omega
 have HK4:Hid (∀p,Vd (b4,n2,k4)=some p→w.heap.size≤p):=hid λp hp=>by have:=(hblk4 p hp).1;have:=HZ3.out.1;omega
 have HO5:=hid ho5
 have HS5:=hid hs5
 have HC5:=hid hc5
 have HV5:=hid hv5
 have HU5:=hid hu5
 have HM4:=hid (HM2.out.trans (Mut.of_below (hb4.trans (hq5.mono hb4.size))))
 have HZ5:Hid (base≤(w4.alloc (.cells #[.slice b4 n2 k4] 26)).heap.size):=hid (by have:=HM4.out.size;omega)
 have HZ6:Hid (w.heap.size≤(w4.alloc (.cells #[.slice b4 n2 k4] 26)).heap.size):=hid HM4.out.size
 clear hq5 hs5 ho5 hc5 hv5 hu5 hown4 hb4 e4s hblk4 hw3 hu2 hfr2
 go_wp2_with (at_builtin;go_loud (refine Kh HS5.out HC5.out HO5.out HV5.out HU5.out (by simp;omega) HZ5.out rfl rfl (by simp [Act.eval,Act.put];try rfl) rfl ?_;intro v6 w6 hls6 hg6 hat6;have hmg:=(Kp hg6).mono (G:=λb=>b=g) (λb _ e=>by simp [Value.ownBlock] at e;exact e.symm);have HL6:=hid hls6;have HM6:=hid (HM4.out.trans hmg);have HAT6:=hid hat6;clear hls6 hg6 hat6 hmg))
 go_ret
 refine ⟨v6,cs.set k (b2,q,k2) ++ [(b4,n2,k4)],rfl,?_,HM6.out.mono λb _ e=>.inl (by rw [e];rfl),?_⟩
 ·unfold Ft
  rw [HGD.out,HL.out,HQ.out]
  exact HL6.out
 ·rintro b (hb | ⟨s',hs',hb⟩)
  ·rcases HAT6.out with e | e
   ·exact .inl (.inl (by rw [←e];exact hb))
   ·rw [hb] at e;cases e;exact .inr HZ6.out
  ·rcases List.mem_append.1 hs' with hs' | hs'
   ·rcases List.mem_or_eq_of_mem_set hs' with hs' | rfl
    ·exact .inl (.inr ⟨s',hs',hb⟩)
    ·exact .inr (HK2.out b hb)
   ·rw [List.mem_singleton.1 hs'] at hb;exact .inr (HK4.out b hb)
theorem Zb.mutN {G:Nat→Prop} {w w':World} {a:Option Addr} {xs:List Pid} (h:Zb w a xs) (hm:Mut G w w') (hG:∀b off,a=some ⟨b,off,none⟩→¬ G b):Zb w' a xs :=
 h.mutT hm (λb off e _=>hG b off e)
theorem Vw (ls:LL) (l:List Pid) (h:l∈ls):l.length≤Ym ls:=by
 induction ls with
 | nil=>cases h
 | cons x r ih =>
  rw [YA]
  rcases List.mem_cons.1 h with rfl | h
  ·omega
  ·have:=ih h;omega
theorem Gc:∀{ls:LL} {k:Nat} (h:k<ls.length),Ym (ls.eraseIdx k)+ls[k].length=Ym ls
 | x :: r,0,_=>by rw [YA];simp;omega
 | x :: r,k+1,h=>by
  have ih:=Gc (ls:=r) (k:=k) (by simpa using h)
  simp only [List.eraseIdx_cons_succ,YA,List.getElem_cons_succ]
  omega
set_option maxRecDepth 100000 in
set_option maxHeartbeats 6400000 in
theorem join_any {w:World} {base g cap k:Nat} {cs:List Sl} {ls:LL} {N:Nat} (hN:Hid (ls.length=N)) (h:LLs w base (.slice (some ⟨g,0,none⟩) N cap) cs ls) (hbase:base≤w.heap.size) (hk:k<N) (h2:2≤N) (hl:Ym ls≤1000000) (hNl:N≤1000000) (hm:cap≤9223372036854775807) :
  Calls Tryz.prog 260 #[.slice (some ⟨g,0,none⟩) N cap,.int .i64 k] w λe w'=>∃v' cs',e=.returned v'∧LLs w' base v' cs' (Fs ls k)∧Xc w (.slice (some ⟨g,0,none⟩) N cap) cs w' v' cs':=by
 have hN':=hN.out
 subst hN'
 obtain ⟨g',cap',s,e0,hcap,hbg,hgw,hcs,hcell,hfr,hown,hsg⟩:=h.get hk
 cases e0
 have hgd:ls.getD k []=ls[k]:=by simp [List.getD,hk]
 have htot:=Gc hk
 obtain ⟨l,hl'⟩:∃l,ls[k]=l:=⟨_,rfl⟩
 rw [hl'] at hown hgd htot
 obtain ⟨a,c,he,he2,hrow,hlc,hblk⟩:=hown.sl
 rw [he] at hcell
 have hsa:∀b off,a=some ⟨b,off,none⟩→b≠g:=by
  intro b off e eb
  refine hsg ?_
  have:Vq s=.slice a l.length c:=he
  rw [←ZH,this,e,eb];rfl
 obtain ⟨n,hn⟩:∃n,l.length=n:=⟨_,rfl⟩
 rw [hn] at hcell
 obtain ⟨z,hz⟩:∃z,(k:Int)+1=z:=⟨_,rfl⟩
 have hw1:IntKind.i64.wrap ((k:Int)+1)=z:=by rw [IntKind.wrap_i64] <;> omega
 have C1:=zcG (z:=z) hz.symm h hk hcap hm
 obtain ⟨D,hD⟩:∃D,ls.eraseIdx k=D:=⟨_,rfl⟩
 obtain ⟨M,hM⟩:∃M,D.length=M:=⟨_,rfl⟩
 have hDl:D.length=ls.length - 1:=by rw [←hD,List.length_eraseIdx];simp [hk]
 rw [hD,hM] at C1
 rw [hD] at htot
 have h0D:0<D.length:=by omega
 obtain ⟨j,hj,hfew⟩:=QC h0D
 have C1:=hid C1
 have HROW:=hid hrow
 have HL:=hid hl'
 have HLN:=hid hn
 have HGD:=hid hgd
 have HD:=hid hD
 have HM:=hid hM
 have HJ:=hid hj
 have HF:=hid hfew
 have HTOT:=hid (And.intro htot hl)
 have HZ0:=hid (And.intro hgw hbg)
 have HSA:=hid hsa
 have HDL:=hid hDl
 have hD6:D.length≤70368744177664:=by omega
 have HD6:=hid hD6
 clear hrow hl' hn hgd hD hM hj hfew htot hl hbg hsa hDl h0D he he2 hown hblk hsg hcs hfr hlc hD6 hcap hz
 go_enter Tryz.func260,Tryz.ntmps260
 go_wp2_with fail
 (with_reducible refine C1.out.mono ?_)
 rintro e w2 ⟨rfl,hs2,hm2⟩
 have hr2:Zp w2 (some ⟨g,0,none⟩) D:=by
  obtain ⟨x,y,e,hr⟩:=(show LLs w2 base (.slice (some ⟨g,0,none⟩) D.length cap) (cs.eraseIdx k) D by rw [HM.out];exact hs2).row
  cases e;exact hr
 have C2:=GH (c:=cap) HD6.out hr2
 rw [HM.out,HF.out] at C2
 have hrow2:=HROW.out.mutN hm2 (λb off e hb=>HSA.out b off e hb)
 obtain ⟨g',cap',s2,e0,hcap2,hbg2,hgw2,hcs2,hcell2,hfr2,hown2,hsg2⟩:=(show LLs w2 base (.slice (some ⟨g,0,none⟩) D.length cap) (cs.eraseIdx k) D by rw [HM.out];exact hs2).get HJ.out
 cases e0
 obtain ⟨y,hy⟩:∃y,D[j]'HJ.out=y:=⟨_,rfl⟩
 rw [hy] at hown2
 have hyl:y.length≤Ym D:=by rw [←hy];exact Vw D _ (List.getElem_mem HJ.out)
 obtain ⟨a2,c2,he2,he22,hrow22,hlc2,hblk2⟩:=hown2.sl
 rw [he2] at hcell2
 obtain ⟨m2,hm22⟩:∃m2,y.length=m2:=⟨_,rfl⟩
 rw [hm22] at hcell2 he2
 rw [he2] at hown2
 have C2:=hid C2
 have HS2:=hid hs2
 have HM2:=hid hm2
 have HY:=hid hy
 have HYL:=hid (And.intro hm22 hyl)
 have HCS2:=hid hcs2
 have HE2:=hid he2
 have HB2:Hid (base≤w2.heap.size):=hid (by have:=hm2.size;omega)
 have HG2:=hid (And.intro hgw2 hbg2)
 have HSG2:=hid hsg2
 have HOWN2:=hid hown2
 have HROW2:=hid hrow2
 have HFR2:=hid hfr2
 have HCELL2:=hid hcell2
 have HLL:Hid (y.length+n≤1099511627776):=hid (by have:=HTOT.out;have:=HLN.out;omega)
 clear hs2 hm2 hy hyl hm22 hcs2 he2 hgw2 hbg2 hsg2 hown2 hrow2 hfr2 hr2 hblk2 hrow22 hlc2 hcap2 C1 he22
 go_wp2_with fail
 (with_reducible refine C2.out.mono ?_)
 rintro e w3 ⟨rfl,rfl⟩
 clear C2
 have hcell3:=HCELL2.out
 have hjM:j<M:=by rw [←HM.out];exact HJ.out
 go_wp2_with (at_builtin;refine JE HOWN2.out HROW2.out HLN HLL.out HB2.out rfl rfl (by simp [Act.eval,Act.put];try rfl) rfl ?_;intro v6 w6 hown6 hg6 hat6;obtain ⟨a6,c6,e6,e6s,hr6,hl6,hblk6⟩:=hown6.sl;obtain ⟨m6,hm6⟩:∃m6,(y ++ l).length=m6:=⟨_,rfl⟩;rw [hm6] at e6 e6s;subst e6;have hmS:=Kp hg6;have hne6:¬ (Value.slice a2 m2 c2).ownBlock=some g:=(λe=>HSG2.out (by rw [←ZH,HE2.out];exact e));have hcc:w6.cell? ⟨g,j,none⟩=some (.slice a2 m2 c2):=(hmS.cell (p:=⟨g,j,none⟩) HG2.out.1 hne6).trans HCELL2.out;have hff:w6.frozen? ⟨g,j,none⟩=false:=(hmS.frozen (p:=⟨g,j,none⟩) HG2.out.1 hne6).trans HFR2.out;have HOWN6:=hid hown6;have HMS:=hid hmS;have HAT:=hid hat6;have HE6:=hid e6s;clear hown6 hmS hat6 hg6 hr6 hl6 hblk6 hne6 e6s hm6 hcell3)
 go_ret
 have hput:=(show LLs w2 base (.slice (some ⟨g,0,none⟩) D.length cap) (cs.eraseIdx k) D by rw [HM.out];exact HS2.out).put (s':=(a6,m6,c6)) (l':=y ++ l) HJ.out HCS2.out (w1:=w6) (HMS.out.mono λb _ e=>by rw [←ZH,HE2.out];exact e) HOWN6.out (λq hq=>by
  have hq:(Value.slice a6 m6 c6).ownBlock=some q:=by rw [←hq];exact ZH (a6,m6,c6)
  rcases HAT.out with e | e
  ·exact .inl (by rw [←ZH,HE2.out,← e];exact hq)
  ·refine .inr ?_
   rw [hq] at e;cases e;exact Nat.le_refl _)
 rw [HM.out] at hput
 have hs2m:s2∈cs:=List.mem_of_mem_eraseIdx (List.mem_of_getElem? HCS2.out)
 have hs2b:∀b,(Value.slice a2 m2 c2).ownBlock=some b→Vd s2=some b:=λb e=>by rw [←ZH,HE2.out];exact e
 refine ⟨_,(cs.eraseIdx k).set j (a6,m6,c6),rfl,?_,?_,?_⟩
 ·unfold Fs
  rw [HD.out,HF.out,Int.toNat_natCast,HGD.out]
  have:D.getD j []=y:=by rw [←HY.out];simp [List.getD,HJ.out]
  rw [this]
  exact hput
 ·exact ((HM2.out.mono λb _ e=>.inl (by have e:b=g:=e;rw [e];rfl)).trans (HMS.out.mono λb _ e=>.inr ⟨s2,hs2m,hs2b b e⟩)).trans (Xk.mono λb _ e=>.inl (by have e:b=g:=e;rw [e];rfl))
 ·rintro b (hb | ⟨s',hs',hb⟩)
  ·exact .inl (.inl hb)
  ·rcases List.mem_or_eq_of_mem_set hs' with hs' | rfl
   ·exact .inl (.inr ⟨s',List.mem_of_mem_eraseIdx hs',hb⟩)
   ·have hb:(Value.slice a6 m6 c6).ownBlock=some b:=by rw [←hb];exact ZH (a6,m6,c6)
    rcases HAT.out with e | e
    ·exact .inl (.inr ⟨s2,hs2m,hs2b b (by rw [←e];exact hb)⟩)
    ·rw [hb] at e;cases e;exact .inr HM2.out.size
def addL (ls:LL) (p:Pid):LL:=if zcR ls (-1)<0 then ls ++ [[p]] else ls.set (zcR ls (-1)).toNat (ls.getD (zcR ls (-1)).toNat [] ++ [p])
def Vo (ls:LL) (come:List Pid):LL:=come.foldl addL ls
theorem QN (ls:LL):(ls=[]∧zcR ls (-1)=-1)∨∃j:Nat,j<ls.length∧zcR ls (-1)=(j:Int):=by
 cases ls with
 | nil=>exact .inl ⟨rfl,rfl⟩
 | cons l r=>exact .inr (QC (by simp))
theorem zdj (ls:LL) (p:Pid):(addL ls p).flatten.Perm (ls.flatten ++ [p]):=by
 unfold addL
 rcases QN ls with ⟨rfl,h⟩ | ⟨j,hj,h⟩
 ·rw [h,if_pos (by decide)];simp
 ·rw [h,if_neg (by omega),Int.toNat_natCast]
  obtain ⟨A,x,B,rfl,rfl,hx⟩:=Qd (d:=([]:List Pid)) hj
  rw [hx,QS]
  simp only [List.flatten_append,List.flatten_cons,List.append_assoc]
  exact List.Perm.append_left _ (List.Perm.append_left _ List.perm_append_comm)
theorem zes {ls:LL} (h:Qj ls) (p:Pid):Qj (addL ls p):=by
 unfold addL
 rcases QN ls with ⟨rfl,e⟩ | ⟨j,hj,e⟩
 ·rw [e,if_pos (by decide)];intro l hl;simp at hl;subst hl;simp
 ·rw [e,if_neg (by omega),Int.toNat_natCast]
  intro l hl
  rcases List.mem_or_eq_of_mem_set hl with hl | rfl
  ·exact h l hl
  ·simp
theorem VY:∀(come:List Pid) {ls:LL},Qj ls→Qj (Vo ls come)∧(Vo ls come).flatten.Perm (ls.flatten ++ come)
 | [],ls,h=>⟨h,by simp [Vo]⟩
 | p :: r,ls,h=>by
  obtain ⟨h1,h2⟩:=VY r (zes h p)
  refine ⟨h1,List.Perm.trans h2 ?_⟩
  have:=(zdj ls p).append_right r
  simpa using this
def fitV (b:Bnd) (ls:LL):LL:=EW b 200 ls
theorem fitV_ok {b:Bnd} (hb:GS b=true) {ls:LL} (hf:Qj ls) (ht:Ym ls≤60):Qj (fitV b ls)∧(fitV b ls).flatten.Perm ls.flatten∧EI b (fitV b ls)=true :=
 zdZ hb 200 ls hf (by have:=phi_le (b:=b) hf;omega)
def Vr:List Int→List Pid→Bool
 | _,[]=>true
 | S,p :: r=>if p.1∈S then false else Vr (S ++ [p.1]) r
theorem GE:∀{come:List Pid} {S:List Int},Vr S come=true↔(∀p∈come,p.1 ∉ S)∧come.Pairwise λp q=>p.1≠q.1
 | [],S=>by simp [Vr]
 | p :: r,S=>by
  unfold Vr
  by_cases h:p.1∈S
  ·rw [if_pos h]
   exact ⟨λe=>(by cases e),λe=>absurd h (e.1 p (List.mem_cons_self ..))⟩
  ·rw [if_neg h,GE]
   simp only [List.mem_append,not_or,List.mem_cons,forall_eq_or_imp,List.pairwise_cons,List.not_mem_nil,not_false_eq_true,and_true,or_false]
   constructor
   ·rintro ⟨a,b⟩;exact ⟨⟨h,λq hq=>(a q hq).1⟩,λq hq e=>(a q hq).2 e.symm,b⟩
   ·rintro ⟨⟨_,a⟩,c,b⟩;exact ⟨λq hq=>⟨a q hq,λe=>c q hq e.symm⟩,b⟩
def Ex (l:List Pid):Bool:=l.all KM
def Qy (id:Int) (stay:List Pid) (ls:LL) (come:List Pid) (b:Bnd):Zs × Int :=
 if Vr (stay.map (·.1)) come=false then (ZS,9)
 else if (stay ++ come).length=0 then (ZS,8)
 else if 24<(stay ++ come).length then (ZS,3)
 else (⟨id,stay ++ come,FW (stay ++ come) (fitV b (Vo ls come)),Kt (stay ++ come) (Yj (FW (stay ++ come) (fitV b (Vo ls come))))⟩,0)
def GK (l:List Pid) (b:Bnd):Zs × Int :=
 if GS b=false∨Ex l=false then (ZS,1) else Qy 1 [] [] l b
theorem Ef {l:List Pid} (h:l.Nodup) {a:Pid} (ha:a∈l):l.count a=1:=(Qq h (λ_ hx=>hx)).2 ⟨rfl,h⟩ a ha
theorem perm_of {a b:List Pid} (ha:a.Nodup) (hb:b.Nodup) (h:∀x,x∈a↔x∈b):a.Perm b:=by
 rw [List.perm_iff_count];intro x
 by_cases hx:x∈a
 ·rw [Ef ha hx,Ef hb ((h x).1 hx)]
 ·rw [List.count_eq_zero.2 hx,List.count_eq_zero.2 (λe=>hx ((h x).2 e))]
theorem Jh {f:List Pid→List Pid}:∀{ls:LL},(∀l∈ls,(f l).Perm l)→(ls.map f).flatten.Perm ls.flatten
 | [],_=>List.Perm.refl _
 | l :: r,h=>by
  simp only [List.map_cons,List.flatten_cons]
  exact (h l (List.mem_cons_self ..)).append (Jh λx hx=>h x (List.mem_cons_of_mem _ hx))
section
variable {ms:List Pid} {ls:LL}
theorem ZU.leaf_nd (h:ZU ms ls) {l:List Pid} (hl:l∈ls):l.Nodup:=(List.pairwise_flatten.1 (h.perm.nodup_iff.2 h.nd)).1 l hl
theorem ZU.leaf_sub (h:ZU ms ls) {l:List Pid} (hl:l∈ls) {p:Pid} (hp:p∈l):p∈ms:=h.perm.mem_iff.1 (List.mem_flatten.2 ⟨l,hl,hp⟩)
theorem ZU.common_perm (h:ZU ms ls) {l:List Pid} (hl:l∈ls):(ZA ms l).Perm l :=
 perm_of (List.Pairwise.sublist List.filter_sublist h.nd) (h.leaf_nd hl) λx=>by
  unfold ZA
  rw [List.mem_filter]
  exact ⟨λe=>by simpa using e.2,λe=>⟨h.leaf_sub hl e,by simpa using e⟩⟩
theorem ZU.ord_flat (h:ZU ms ls):(FW ms ls).flatten.Perm ms :=
 h.ord_perm.flatten.trans ((Jh λ_ hl=>h.common_perm hl).trans h.perm)
theorem ZU.ord_mem (h:ZU ms ls) {c:List Pid} (hc:c∈FW ms ls):∃l∈ls,c=ZA ms l:=by
 obtain ⟨l,hl,rfl⟩:=List.mem_map.1 (h.ord_perm.mem_iff.1 hc);exact ⟨l,hl,rfl⟩
theorem ZU.ord_full (h:ZU ms ls):Qj (FW ms ls):=λc hc e=>by
 obtain ⟨l,hl,rfl⟩:=h.ord_mem hc
 have:=h.head hl
 rw [e] at this
 cases this
theorem ZU.ord_parts (h:ZU ms ls):ZU ms (FW ms ls):=⟨h.nd,h.ord_full,h.ord_flat⟩
theorem ZU.ord_strict (h:ZU ms ls):(FW ms ls).Pairwise λa b=>Go.Proofs.YtcdpaflmofljaaaGreat.hdIx ms a<Go.Proofs.YtcdpaflmofljaaaGreat.hdIx ms b:=by
 have hk:∀i,∀a∈(ls.filter λl=>decide (FV ms l=i)).map (ZA ms),Go.Proofs.YtcdpaflmofljaaaGreat.hdIx ms a=(i:Int):=by
  intro i a ha
  obtain ⟨l,hl,rfl⟩:=List.mem_map.1 ha
  obtain ⟨h1,h2⟩:=List.mem_filter.1 hl
  rw [h.hdIx h1]
  have:FV ms l=i:=by simpa using h2
  rw [this]
 unfold FW
 rw [List.pairwise_flatMap]
 refine ⟨λi _=>?_,?_⟩
 ·rw [List.pairwise_map]
  refine List.Pairwise.imp_of_mem ?_ (h.keys.sublist List.filter_sublist)
  intro a b ha hb hab
  have e1:FV ms a=i:=by simpa using (List.mem_filter.1 ha).2
  have e2:FV ms b=i:=by simpa using (List.mem_filter.1 hb).2
  exact absurd (e1.trans e2.symm) hab
 ·refine List.Pairwise.imp ?_ List.pairwise_lt_range
  intro i j hij a ha b hb
  rw [hk i a ha,hk j b hb];omega
theorem VF:∀ls:LL,Yj ls=ls.filterMap List.head?
 | []=>rfl
 | l :: r=>by cases l <;> simp [Yj,VF r,List.filterMap_cons]
theorem ZU.heads_pw (h:ZU ms ls):(Yj (FW ms ls)).Pairwise λp q=>Ks ms p<Ks ms q:=by
 rw [VF,List.pairwise_filterMap]
 refine h.ord_strict.imp ?_
 intro a b hab p hp q hq
 unfold Go.Proofs.YtcdpaflmofljaaaGreat.hdIx at hab
 rw [List.headD_eq_head?_getD,hp,List.headD_eq_head?_getD,hq] at hab
 simpa using hab
theorem zd8 {p:Pid} (h:p∈Yj ls):∃l∈ls,l.head?=some p:=by rw [VF,List.mem_filterMap] at h;exact h
theorem ZU.heads_sub (h:ZU ms ls):∀p∈Yj ls,p∈ms:=λp hp=>by
 obtain ⟨l,hl,e⟩:=zd8 hp
 exact h.leaf_sub hl (List.mem_of_head? e)
theorem ZU.heads_nd (h:ZU ms ls):(Yj (FW ms ls)).Nodup:=h.heads_pw.imp λhlt e=>by rw [e] at hlt;omega
end
theorem Fv:∀(r:List Pid) {ms S:List Pid},(∀p∈r,p∈ms)→S.Nodup→(∀p∈S,p∈ms)→(Xl r S).Nodup∧(∀p∈Xl r S,p∈ms)∧(∀p∈S,p∈Xl r S)∧(3≤(Xl r S).length∨∀p∈r,p∈Xl r S)
 | [],ms,S,_,hn,hs=>⟨hn,hs,λ_ h=>h,.inr (by simp)⟩
 | p :: r,ms,S,hr,hn,hs=>by
  by_cases h3:3≤S.length
  ·rw [Jy _ h3]
   exact ⟨hn,hs,λ_ h=>h,.inl h3⟩
  ·have e0:Xl (p :: r) S=Xl r (Xf S p):=rfl
   rw [e0]
   by_cases hp:p∈S
   ·have e:Xf S p=S:=by unfold Xf;rw [if_neg h3,if_pos hp]
    rw [e]
    obtain ⟨a,b,c,d⟩:=Fv r (λq hq=>hr q (List.mem_cons_of_mem _ hq)) hn hs
    refine ⟨a,b,c,d.imp id λd q hq=>?_⟩
    rcases List.mem_cons.1 hq with rfl | hq
    ·exact c _ hp
    ·exact d q hq
   ·have e:Xf S p=S ++ [p]:=by unfold Xf;rw [if_neg h3,if_neg hp]
    rw [e]
    obtain ⟨a,b,c,d⟩:=Fv (ms:=ms) r (λq hq=>hr q (List.mem_cons_of_mem _ hq)) (S:=S ++ [p]) (by
     rw [List.nodup_append]
     refine ⟨hn,by simp,λx hx y hy e=>?_⟩
     rw [List.mem_singleton.1 hy] at e
     exact hp (e ▸ hx)) (λq hq=>by
     rcases List.mem_append.1 hq with hq | hq
     ·exact hs q hq
     ·rw [List.mem_singleton.1 hq];exact hr p (List.mem_cons_self ..))
    refine ⟨a,b,λq hq=>c q (List.mem_append_left _ hq),d.imp id λd q hq=>?_⟩
    rcases List.mem_cons.1 hq with rfl | hq
    ·exact c _ (by simp)
    ·exact d q hq
theorem zaY {stay come:List Pid} {ls:LL} (hp:ZU stay ls) (hi:stay.Pairwise λp q=>p.1≠q.1) (hc:Vr (stay.map (·.1)) come=true):(stay ++ come).Pairwise (λp q=>p.1≠q.1)∧ZU (stay ++ come) (Vo ls come):=by
 obtain ⟨c1,c2⟩:=GE.1 hc
 have hids:(stay ++ come).Pairwise (λp q=>p.1≠q.1):=by
  rw [List.pairwise_append]
  refine ⟨hi,c2,λp hp q hq e=>c1 q hq (List.mem_map.2 ⟨p,hp,e⟩)⟩
 obtain ⟨a1,a2⟩:=VY come hp.full
 exact ⟨hids,Ke hids,a1,a2.trans (hp.perm.append_right come)⟩
theorem zej {b:Bnd} {n:Nat} {ls:LL} {i:Nat} (h:Yr b ls=(i:Int)):EW b (n+1) ls=EW b n (Ft ls i):=by
 show (if 0≤Yr b ls then _ else _)=_
 rw [h,if_pos (by omega),Int.toNat_natCast]
theorem zdk {b:Bnd} {n:Nat} {ls:LL} {i:Nat} (hg:Yr b ls<0) (h:Yp b ls=(i:Int)):EW b (n+1) ls=EW b n (Fs ls i):=by
 show (if 0≤Yr b ls then _ else if 0≤Yp b ls then _ else _)=_
 rw [if_neg (by omega),h,if_pos (by omega),Int.toNat_natCast]
theorem zdi {b:Bnd} {n:Nat} {ls:LL} (hg:Yr b ls<0) (h:Yp b ls<0):EW b n ls=ls:=by
 cases n with
 | zero=>rfl
 | succ n =>
  show (if 0≤Yr b ls then _ else if 0≤Yp b ls then _ else _)=_
  rw [if_neg (by omega),if_neg (by omega)]
theorem Jz {a b:LL} (h:a.flatten.Perm b.flatten):Ym a=Ym b:=by
 rw [←Yn,← Yn];exact h.length_eq
theorem zcf (ls:LL) (i:Nat):(ls.getD i []).length≤Ym ls:=by
 by_cases h:i<ls.length
 ·have:ls.getD i []=ls[i]:=by simp [List.getD,h]
  rw [this];exact Vw ls _ (List.getElem_mem h)
 ·have:ls.getD i []=[]:=by simp [List.getD,List.getElem?_eq_none (by omega:ls.length≤i)]
  rw [this];exact Nat.zero_le _
theorem Gk {w0:World} {U:YB w0} {b:Bnd} {a:Option Addr} {c n:Nat} {ls:LL} {G:Int} (hG:Hid (Yr b ls=G)) (hN:Hid (ls.length=n)) (hn:n≤1000000) (hrow:Zp w0 a ls) :
  Calls Tryz.prog 257 #[.slice a n c,.agg #[.int .i64 b.least,.int .i64 b.most,.int .i64 b.tmo]] U.W λe w'=>e=.returned (.int .i64 G)∧∃U':YB w0,w'=U'.W:=by
 have hN:=hN.out;subst hN
 refine (GQ (b:=b) (c:=c) (by omega) (hrow.ext U.h)).mono ?_
 rintro e w' ⟨rfl,hb⟩
 exact ⟨by rw [hG.out],⟨_,U.h.trans (hb.mono U.h.size)⟩,rfl⟩
theorem QO {w0:World} {U:YB w0} {b:Bnd} {a:Option Addr} {c n:Nat} {ls:LL} {G:Int} (hG:Hid (Yp b ls=G)) (hN:Hid (ls.length=n)) (hn:n≤1000000) (hrow:Zp w0 a ls) :
  Calls Tryz.prog 258 #[.slice a n c,.agg #[.int .i64 b.least,.int .i64 b.most,.int .i64 b.tmo]] U.W λe w'=>e=.returned (.int .i64 G)∧∃U':YB w0,w'=U'.W:=by
 have hN:=hN.out;subst hN
 refine (Gx (b:=b) (c:=c) (by omega) (hrow.ext U.h)).mono ?_
 rintro e w' ⟨rfl,hb⟩
 exact ⟨by rw [hG.out],⟨_,U.h.trans (hb.mono U.h.size)⟩,rfl⟩
structure FitSt (b:Bnd) (W1:World) (base:Nat) (v0:Value) (cs0:List Sl) (ls0:LL) (n:Nat) (wr:World) (v:Value) (cs:List Sl) (ls:LL):Prop where
 own:LLs wr base v cs ls
 full:Qj ls
 tot:Ym ls≤60
 ph:phi b ls≤n
 eq:EW b 200 ls0=EW b n ls
 kp:Xc W1 v0 cs0 wr v cs
theorem LLs.lit {w:World} {base:Nat} {v:Value} {cs:List Sl} {ls:LL} (h:LLs w base v cs ls) (h0:0<ls.length):∃g cap,v=.slice (some ⟨g,0,none⟩) ls.length cap∧cap≤9223372036854775807:=by
 rcases h.own.2 with ⟨-,hn⟩ | ⟨g,cap,cur,rfl,hb,hg,hnc,hcm,hcs,htake⟩
 ·omega
 ·exact ⟨g,cap,rfl,by unfold maxLen at hcm;omega⟩
set_option maxRecDepth 100000 in
set_option maxHeartbeats 6400000 in
theorem fit_any {w:World} {base:Nat} {b:Bnd} {a:Option Addr} {c:Nat} {cs:List Sl} {ls:LL} {N:Nat} (hN:Hid (ls.length=N)) (hb:GS b=true) (h:LLs w base (.slice a N c) cs ls) (hf:Qj ls) (ht:Ym ls≤60) (hbase:base≤w.heap.size) :
  Calls Tryz.prog 164 #[.slice a N c,.agg #[.int .i64 b.least,.int .i64 b.most,.int .i64 b.tmo]] w λe w'=>∃v' cs',e=.returned v'∧LLs w' base v' cs' (fitV b ls)∧Xc w (.slice a N c) cs w' v' cs':=by
 obtain ⟨W1,hW1⟩:∃W1,w.alloc (.cells #[.int .i64 b.least,.int .i64 b.most,.int .i64 b.tmo] 28)=W1:=⟨_,rfl⟩
 have hB1:Below w.heap.size w W1:=by rw [←hW1];exact bra
 have hsz1:w.heap.size<W1.heap.size:=by rw [←hW1];simp
 have hbx:Yx W1 w.heap.size b:=by rw [←hW1];exact Yx.made w
 have hno:¬ QM (.slice a N c) cs w.heap.size:=λe=>by have:=(h.inB e).2;omega
 have HNO:=hid hno
 have HBX:=hid hbx
 have HS:Hid (base≤W1.heap.size):=hid (by omega)
 have HSZ:=hid hsz1
 have HBC:=hid hb
 have HST:FitSt b W1 base (.slice a N c) cs ls 200 W1 (.slice a N c) cs ls:=⟨h.ext hB1,hf,ht,by have:=phi_le (b:=b) hf;omega,rfl,Xc.refl _ _ _⟩
 have HB1:=hid hB1
 clear h hf ht hbase hbx hno hb hB1 hsz1
 go_enter Tryz.func164,Tryz.ntmps164
 go_wp2
 go_step3
 go_wp2
 go_step3
 go_wp2
 go_loopg [0] 200 (λn v wr=>∃cs' ls',FitSt b W1 base (.slice a N c) cs ls n wr v cs' ls')
 case atStart=>exact ⟨cs,ls,HST⟩
 case round =>
  obtain ⟨cs',ls',S⟩:=hrel
  have hszr:=S.kp.mt.size
  have hbr:base≤wr.heap.size:=by have:=HS.out;omega
  obtain ⟨a',c',hv,hrow⟩:=S.own.row
  obtain ⟨n',hn'⟩:∃n',ls'.length=n':=⟨_,rfl⟩
  have hl6:n'≤1000000:=by have:=Xs S.full;have:=S.tot;omega
  rw [hn'] at hv
  subst hv
  have z0:wr.cell? ⟨w.heap.size,0,none⟩=some (.int .i64 b.least):=(S.kp.mt.cell (p:=⟨w.heap.size,0,none⟩) HSZ.out HNO.out).trans HBX.out.c0
  have z1:wr.cell? ⟨w.heap.size,1,none⟩=some (.int .i64 b.most):=(S.kp.mt.cell (p:=⟨w.heap.size,1,none⟩) HSZ.out HNO.out).trans HBX.out.c1
  have z2:wr.cell? ⟨w.heap.size,2,none⟩=some (.int .i64 b.tmo):=(S.kp.mt.cell (p:=⟨w.heap.size,2,none⟩) HSZ.out HNO.out).trans HBX.out.c2
  have q0:=Za z0
  have q1:=Za z1
  have q2:=Za z2
  have SH:=hid S
  have HROW:=hid hrow
  have HN':=hid hn'
  have HL6:=hid hl6
  have HBR:=hid hbr
  obtain ⟨G,hG⟩:∃G,Yr b ls'=G:=⟨_,rfl⟩
  obtain ⟨M,hM⟩:∃M,Yp b ls'=M:=⟨_,rfl⟩
  have HG:=hid hG
  have HM:=hid hM
  clear hrow hn' hl6 hbr S z0 z1 z2 hszr hG hM
  by_cases hg0:0≤G
  ·obtain ⟨i,hi⟩:∃i:Nat,G=(i:Int):=⟨G.toNat,by omega⟩
   have hp:=zdF (b:=b) HBC.out SH.out.full (by rw [HG.out];exact hg0)
   rw [HG.out,hi,Int.toNat_natCast] at hp
   have hph:=SH.out.ph
   obtain ⟨m,hm⟩:∃m,gk=m+1:=⟨gk - 1,by omega⟩
   have t1:decide ((0:Int)≤G)=true:=decide_eq_true hg0
   have t2:decide (G ≥ 0)=true:=decide_eq_true hg0
   have HP:=hid hp
   have HI:=hid hi
   have HMM:=hid hm
   clear hp hi hg0 hph hm
   go_wp2
   refine Ze (Below.refl _ _) (by kernel_rfl) (by kernel_rfl) ?_
   repeat (go_big_quiet_step (first | (with_reducible exact Gk HG HN' HL6.out HROW.out) | (with_reducible exact QO HM HN' HL6.out HROW.out)))
   refine wpQuiet_nil ?_
   rintro _ ⟨⟨w9,hb9⟩,rfl⟩
   have hown9:=SH.out.own.ext hb9
   obtain ⟨g,cap,he,hcap⟩:=SH.out.own.lit (by have:=HP.out.2.2.2.1;omega)
   rw [HN'.out] at he
   have hlc:=zcf ls' i
   have C1:=hid (part_any (k:=i) HN' (by rw [←he];exact hown9) (by have:=HBR.out;have:=hb9.size;omega) (by have:=HP.out.2.2.2.1;have:=HN'.out;omega) (by have:=SH.out.tot;omega) HL6.out)
   rw [←he,← HI.out] at C1
   have HB9:=hid hb9
   clear hown9 he hlc hb9 hcap
   go_wp2_with fail
   (with_reducible refine C1.out.mono ?_)
   rintro e w2 ⟨v2,cs2,rfl,hs2,hk2⟩
   go_wp2
   go_roundg m
   case measure=>have:=HMM.out;omega
   case rel =>
    obtain ⟨p1,p2,p3,p4,p5⟩:=HP.out
    exact ⟨cs2,_,hs2,p2,by rw [Jz p3];exact SH.out.tot,by have:=SH.out.ph;have:=HMM.out;omega,by rw [SH.out.eq,HMM.out,zej (HG.out.trans HI.out)],(SH.out.kp.ext HB9.out).trans hk2⟩
  have t1:decide ((0:Int)≤G)=false:=decide_eq_false hg0
  have t2:decide (G ≥ 0)=false:=decide_eq_false hg0
  by_cases hm0:0≤M
  ·obtain ⟨i,hi⟩:∃i:Nat,M=(i:Int):=⟨M.toNat,by omega⟩
   have hp:=zdO (b:=b) HBC.out SH.out.full (by rw [HM.out];exact hm0)
   have h2:=EN (b:=b) (ls:=ls') (by rw [HM.out];exact hm0)
   rw [HM.out,hi,Int.toNat_natCast] at hp
   have hph:=SH.out.ph
   obtain ⟨m,hm⟩:∃m,gk=m+1:=⟨gk - 1,by omega⟩
   have t3:decide ((0:Int)≤M)=true:=decide_eq_true hm0
   have t4:decide (M ≥ 0)=true:=decide_eq_true hm0
   have HP:=hid hp
   have HI:=hid hi
   have HMM:=hid hm
   have HG0:=hid hg0
   have H2:=hid h2
   clear hp hi hg0 hph hm hm0 h2
   go_wp2
   refine Ze (Below.refl _ _) (by kernel_rfl) (by kernel_rfl) ?_
   repeat (go_big_quiet_step (first | (with_reducible exact Gk HG HN' HL6.out HROW.out) | (with_reducible exact QO HM HN' HL6.out HROW.out)))
   refine wpQuiet_nil ?_
   rintro _ ⟨⟨w9,hb9⟩,rfl⟩
   have hown9:=SH.out.own.ext hb9
   obtain ⟨g,cap,he,hcap⟩:=SH.out.own.lit (by have:=H2.out;omega)
   rw [HN'.out] at he
   have C1:=hid (join_any (k:=i) HN' (by rw [←he];exact hown9) (by have:=HBR.out;have:=hb9.size;omega) (by have:=HP.out.2.2.2;have:=HN'.out;omega) (by have:=H2.out;have:=HN'.out;omega) (by have:=SH.out.tot;omega) HL6.out hcap)
   rw [←he,← HI.out] at C1
   have HB9:=hid hb9
   clear hown9 he hb9 hcap
   go_wp2_with fail
   (with_reducible refine C1.out.mono ?_)
   rintro e w2 ⟨v2,cs2,rfl,hs2,hk2⟩
   go_wp2
   go_roundg m
   case measure=>have:=HMM.out;omega
   case rel =>
    obtain ⟨p1,p2,p3,p4⟩:=HP.out
    exact ⟨cs2,_,hs2,p2,by rw [Jz p3];exact SH.out.tot,by have:=SH.out.ph;have:=HMM.out;omega,by rw [SH.out.eq,HMM.out,zdk (by have:=HG.out;have:=HG0.out;omega) (HM.out.trans HI.out)],(SH.out.kp.ext HB9.out).trans hk2⟩
  ·have t3:decide ((0:Int)≤M)=false:=decide_eq_false hm0
   have t4:decide (M ≥ 0)=false:=decide_eq_false hm0
   have HG0:=hid hg0
   have HM0:=hid hm0
   clear hg0 hm0
   go_wp2
   refine Ze (Below.refl _ _) (by kernel_rfl) (by kernel_rfl) ?_
   repeat (go_big_quiet_step (first | (with_reducible exact Gk HG HN' HL6.out HROW.out) | (with_reducible exact QO HM HN' HL6.out HROW.out)))
   refine wpQuiet_nil ?_
   rintro _ ⟨⟨w9,hb9⟩,rfl⟩
   have hown9:=SH.out.own.ext hb9
   have HB9:=hid hb9
   have HO9:=hid hown9
   clear hb9 hown9
   go_wp2
   try rw [Exit.noGoto_ret]
   go_ret
   refine ⟨_,cs',rfl,?_,?_⟩
   ·have:fitV b ls=ls':=by
     unfold fitV
     rw [SH.out.eq,zdi (by have:=HG.out;have:=HG0.out;omega) (by have:=HM.out;have:=HM0.out;omega)]
    rw [this];exact HO9.out
   ·have k1:=SH.out.kp.ext HB9.out
    refine ⟨(Mut.of_below HB1.out).trans k1.mt,λq hq=>(k1.blk q hq).imp id λe=>by have:=HSZ.out;omega⟩
end Go.Proofs.YtcdpaflmofljaaaGreat
namespace Go.Proofs
open Go.Shelf
def Tryz.sortLeaf_ren : Go.Shelf.Ren := ⟨fun | 6 => 255 | 15 => 183 | 14 => 323 | 28 => 275 | 29 => 276 | 20 => 340 | 21 => 341 | 22 => 342 | 23 => 343 | 24 => 344 | 25 => 345 | 26 => 346 | 27 => 347 | 46 => 352 | 47 => 328 | 48 => 329 | 49 => 353 | 50 => 354 | 57 => 357 | n => n, fun | 22 => 33 | 24 => 26 | 25 => 328 | 3 => 3 | 39 => 201 | 0 => 0 | 53 => 23 | 55 => 32 | 4 => 4 | 46 => 333 | 45 => 332 | 50 => 278 | 5 => 5 | 9 => 9 | 66 => 374 | 70 => 376 | 76 => 388 | 77 => 389 | n => n, fun | n => n⟩
theorem Tryz.sortLeaf : Go.Proofs.SlLaysF.n6 Tryz.prog Tryz.sortLeaf_ren := {
  mixed := by kernel_rfl
  f6 := ⟨Tryz.f255.name, by decide, Tryz.func255.trans (congrArg some (by kernel_rfl))⟩
  f14 := ⟨Tryz.f323.name, by decide, Tryz.func323.trans (congrArg some (by kernel_rfl))⟩
  f15 := Tryz.func183.trans (congrArg some (by kernel_rfl))
  f20 := ⟨Tryz.f340.name, by decide, Tryz.func340.trans (congrArg some (by kernel_rfl))⟩
  f21 := ⟨Tryz.f341.name, by decide, Tryz.func341.trans (congrArg some (by kernel_rfl))⟩
  f22 := ⟨Tryz.f342.name, by decide, Tryz.func342.trans (congrArg some (by kernel_rfl))⟩
  f23 := ⟨Tryz.f343.name, by decide, Tryz.func343.trans (congrArg some (by kernel_rfl))⟩
  f24 := ⟨Tryz.f344.name, by decide, Tryz.func344.trans (congrArg some (by kernel_rfl))⟩
  f25 := ⟨Tryz.f345.name, by decide, Tryz.func345.trans (congrArg some (by kernel_rfl))⟩
  f26 := ⟨Tryz.f346.name, by decide, Tryz.func346.trans (congrArg some (by kernel_rfl))⟩
  f27 := ⟨Tryz.f347.name, by decide, Tryz.func347.trans (congrArg some (by kernel_rfl))⟩
  f28 := Tryz.func275.trans (congrArg some (by kernel_rfl))
  f29 := Tryz.func276.trans (congrArg some (by kernel_rfl))
  f46 := ⟨Tryz.f352.name, by decide, Tryz.func352.trans (congrArg some (by kernel_rfl))⟩
  f47 := Tryz.func328.trans (congrArg some (by kernel_rfl))
  f48 := Tryz.func329.trans (congrArg some (by kernel_rfl))
  f49 := ⟨Tryz.f353.name, by decide, Tryz.func353.trans (congrArg some (by kernel_rfl))⟩
  f50 := ⟨Tryz.f354.name, by decide, Tryz.func354.trans (congrArg some (by kernel_rfl))⟩
  f57 := ⟨Tryz.f357.name, by decide, Tryz.func357.trans (congrArg some (by kernel_rfl))⟩
  t0 := Tryz.underlying0
  a0 := Tryz.isAgg0
  z0 := Tryz.sizeOf0
  v0 := Tryz.zeroValue0
  t3 := Tryz.underlying3
  a3 := Tryz.isAgg3
  z3 := Tryz.sizeOf3
  v3 := Tryz.zeroValue3
  t4 := Tryz.underlying4
  a4 := Tryz.isAgg4
  z4 := Tryz.sizeOf4
  v4 := Tryz.zeroValue4
  t5 := Tryz.underlying5
  a5 := Tryz.isAgg5
  z5 := Tryz.sizeOf5
  v5 := Tryz.zeroValue5
  t9 := Tryz.underlying9
  a9 := Tryz.isAgg9
  z9 := Tryz.sizeOf9
  v9 := Tryz.zeroValue9
  t22 := Tryz.underlying33
  a22 := Tryz.isAgg33
  z22 := Tryz.sizeOf33
  v22 := Tryz.zeroValue33
  a24 := Tryz.isAgg26
  z24 := Tryz.sizeOf26
  t25 := Tryz.underlying328
  a25 := Tryz.isAgg328
  z25 := Tryz.sizeOf328
  v25 := Tryz.zeroValue328
  t39 := Tryz.underlying201
  a39 := Tryz.isAgg201
  z39 := Tryz.sizeOf201
  v39 := Tryz.zeroValue201
  t45 := Tryz.underlying332
  a45 := Tryz.isAgg332
  z45 := Tryz.sizeOf332
  v45 := Tryz.zeroValue332
  t46 := Tryz.underlying333
  a46 := Tryz.isAgg333
  z46 := Tryz.sizeOf333
  v46 := Tryz.zeroValue333
  t50 := Tryz.underlying278
  a50 := Tryz.isAgg278
  z50 := Tryz.sizeOf278
  v50 := Tryz.zeroValue278
  t53 := Tryz.underlying23
  a53 := Tryz.isAgg23
  z53 := Tryz.sizeOf23
  v53 := Tryz.zeroValue23
  t55 := Tryz.underlying32
  a55 := Tryz.isAgg32
  z55 := Tryz.sizeOf32
  v55 := Tryz.zeroValue32
  t66 := Tryz.underlying374
  a66 := Tryz.isAgg374
  z66 := Tryz.sizeOf374
  v66 := Tryz.zeroValue374
  t70 := Tryz.underlying376
  a70 := Tryz.isAgg376
  z70 := Tryz.sizeOf376
  v70 := Tryz.zeroValue376
  t76 := Tryz.underlying388
  a76 := Tryz.isAgg388
  z76 := Tryz.sizeOf388
  v76 := Tryz.zeroValue388
  t77 := Tryz.underlying389
  a77 := Tryz.isAgg389
  z77 := Tryz.sizeOf389
  v77 := Tryz.zeroValue389 }
end Go.Proofs
namespace Go.Proofs.YtcdpaflmofljaaaGreat
open Go.RowKit
open Go.Sort (grow grow_grow grow_empty putRow putCells Holds SWO heap_grow_old mapBlock onCells)
theorem VW.drewN {w w':World} (h:VW w w') (n:Nat):VW w (w'.drewN n):=h.trans ⟨n,#[],by rw [grow_empty]⟩
set_option maxHeartbeats 400000 in
theorem GV (a:Option Addr) (c:Nat) (xs:List Pid) (id inc:Int) (w:World) (hn:xs.length≤70368744177664) (hrow:Zb w a xs) :
  Calls Tryz.prog 166 #[.slice a xs.length c,.agg #[.int .u16 id,.int .u32 inc]] w λe w'=>e=.returned (.int .i64 (Ks xs (id,inc)))∧VW w w':=by
 go_enter Tryz.func166,Tryz.ntmps166
 go_wp2
 go_loopw [4,8] (λr i wr=>r=.int .i64 0∧∃k:Nat,k≤xs.length∧i=.int .i64 k∧Hid (Ks xs (id,inc)=YI (id,inc) (xs.drop k) k)∧VW w wr∧wr.cell? ⟨w.heap.size,0,none⟩=some (.int .u16 id)∧wr.cell? ⟨w.heap.size,1,none⟩=some (.int .u32 inc)) (λ_ i _=>xs.length - (intOf i).toNat)
 case atStart=>exact ⟨rfl,0,Nat.zero_le _,rfl,rfl,(VW.refl _).alloc _,by simp,by simp⟩
 case round =>
  obtain ⟨rfl,k,hk,rfl,ha,hb,c0,c1⟩:=hrel
  by_cases hlt:k<xs.length
  ·obtain ⟨b,off,x,y,rfl,hx,d1,d2⟩:=hrow.at hb.below rfl hlt
   have HX:=hid hx
   have HB:=hid hb
   clear hx hrow hb
   have he:=λw=>VK id inc x y w
   go_wp2
   go_quiet (fail)
   all_goals go_wp2
   ·have h:=‹id=x∧inc=y›
    go_ret
    exact ⟨ZE (by rw [ha.out,VM hlt,if_pos (by rw [←HX.out,h.1,h.2])]),HB.out.drewN _⟩
   ·have h:=‹¬id=x∨¬inc=y›
    go_roundw
    case rel=>exact ⟨rfl,k+1,by omega,by go_num,(ha.out.trans (by rw [VM hlt,if_neg (by rw [←HX.out];simp;omega)]):_),HB.out.drewN _,by simpa using c0,by simpa using c1⟩
    case measure=>simp [intOf];omega
  ·go_wp2
   go_ret
   exact ⟨ZE (by rw [ha.out,GO (by omega)]),hb⟩
theorem Gi (ms:List Pid) (p:Pid):-1≤Ks ms p∧Ks ms p≤(ms.length:Int):=by
 have:∀(l:List Pid) (k:Nat),-1≤YI p l k∧YI p l k≤((k+l.length:Nat):Int):=by
  intro l
  induction l with
  | nil=>intro k;simp [YI] <;> omega
  | cons x r ih =>
   intro k
   unfold YI
   split
   ·simp;omega
   ·have:=ih (k+1)
    simp only [List.length_cons]
    omega
 have:=this ms 0
 unfold Ks
 simpa using this
theorem Zb.first {w:World} {a:Option Addr} {x y:Int} {r:List Pid} (h:Zb w a ((x,y) :: r)):∃b off,a=some ⟨b,off,none⟩∧w.cell? ⟨b,off,none⟩=some (.int .u16 x)∧w.cell? ⟨b,off+1,none⟩=some (.int .u32 y):=by
 obtain ⟨b,off,rfl,-,hc⟩:=h.get (by simp)
 have:=hc 0 (by simp)
 exact ⟨b,off,rfl,by simpa using this.1,by simpa using this.2⟩
set_option maxRecDepth 100000 in
set_option maxHeartbeats 1600000 in
theorem zcN {ms:List Pid} {am:Option Addr} {cm g2 c d n k M:Nat} {a b:Option Addr} {l m:List Pid} {w:World} (hM:Hid (ms.length=M)) (hml:M≤1000) (hm:Zb w am ms) (h2:w.cell? ⟨g2,0,none⟩=some (.slice am M cm)) (hl:Zb w a l) (hn:l.length=n) (hl0:l≠[]) (hmr:Zb w b m) (hk:m.length=k) (hm0:m≠[]) :
  Calls Tryz.prog 256 #[.slice a n c,.slice b k d,.pointer (some ⟨g2,0,none⟩)] w λe w'=>e=.returned (.int .i64 (hdIx ms l - hdIx ms m))∧VW w w':=by
 cases l with
 | nil=>exact absurd rfl hl0
 | cons p r =>
 cases m with
 | nil=>exact absurd rfl hm0
 | cons q s =>
 obtain ⟨x,y⟩:=p
 obtain ⟨z,u⟩:=q
 obtain ⟨ba,oa,rfl,p1,p2⟩:=hl.first
 obtain ⟨bb,ob,rfl,p3,p4⟩:=hmr.first
 have f0:=YK h2
 have f1:=YK p1
 have f2:=YK p2
 have f3:=YK p3
 have f4:=YK p4
 have t1:decide (0<n)=true:=decide_eq_true (by rw [←hn];simp)
 have t2:decide ((0:Int)<(n:Int))=true:=decide_eq_true (by rw [←hn];simp)
 have t3:decide (0<k)=true:=decide_eq_true (by rw [←hk];simp)
 have t4:decide ((0:Int)<(k:Int))=true:=decide_eq_true (by rw [←hk];simp)
 have t5:0<n:=by rw [←hn];simp
 have t6:0<k:=by rw [←hk];simp
 have e1:hdIx ms ((x,y) :: r)=Ks ms (x,y):=rfl
 have e2:hdIx ms ((z,u) :: s)=Ks ms (z,u):=rfl
 have b1:=Gi ms (x,y)
 have b2:=Gi ms (z,u)
 rw [hM.out] at b1 b2
 have n1:∀U:KP w,Calls Tryz.prog 166 #[.slice am M cm,.agg #[.int .u16 x,.int .u32 y]] U.W λe w'=>e=.returned (.int .i64 (Ks ms (x,y)))∧∃U':KP w,w'=U'.W:=λU=>Fr (by
  have:=GV am cm ms x y U.W (by rw [hM.out];omega) (hm.ext U.h.below)
  rw [hM.out] at this;exact this) rfl
 have n2:∀U:KP w,Calls Tryz.prog 166 #[.slice am M cm,.agg #[.int .u16 z,.int .u32 u]] U.W λe w'=>e=.returned (.int .i64 (Ks ms (z,u)))∧∃U':KP w,w'=U'.W:=λU=>Fr (by
  have:=GV am cm ms z u U.W (by rw [hM.out];omega) (hm.ext U.h.below)
  rw [hM.out] at this;exact this) rfl
 rw [e1,e2]
 clear e1 e2 hl hmr hn hk hl0 hm0 hm h2 p1 p2 p3 p4
 revert b1 b2 n1 n2
 generalize Ks ms (x,y)=A
 generalize Ks ms (z,u)=B
 intro b1 b2 n1 n2
 have hw:IntKind.i64.wrap (A - B)=A - B:=by rw [IntKind.wrap_i64] <;> omega
 have N1:=hid n1
 have N2:=hid n2
 clear n1 n2 b1 b2 hml
 go_enter Tryz.func256,Tryz.ntmps256
 go_wp2
 refine KI (w:=w) (VW.refl _) (by kernel_rfl) (by kernel_rfl) ?_
 repeat (go_big_quiet_step (first | (with_reducible exact N1.out _) | (with_reducible exact N2.out _)))
 refine wpQuiet_nil ?_
 rintro w9 ⟨⟨_,hb9⟩,rfl⟩
 go_wp2
 go_ret
 exact ⟨rfl,hb9⟩
theorem zdo {α:Type} [Inhabited α] (enc:α→Value) (cur:Array Value) (D:Array α) (n:Nat) (h:D.size≤cur.size) (hn:n≤D.size):(putCells enc 0 D cur).toList.take n=(D.toList.take n).map enc:=by
 apply List.ext_getElem?
 intro j
 by_cases hj:j<n
 ·rw [List.getElem?_take_of_lt hj,Array.getElem?_toList,List.getElem?_map,List.getElem?_take_of_lt hj,Array.getElem?_toList]
  simp [putCells,show j<D.size by omega,show j<cur.size by omega]
 ·rw [List.getElem?_take_eq_none (by omega),List.getElem?_eq_none (by simp;omega)]
theorem zbm {α:Type} [Inhabited α] {enc:α→Value} {g:Nat} {w:World} {q:Nat} {D:Array α} {os:Array Obj} {cur:Array Value} {e:TypeId} (hg:w.heap[g]?=some (.cells cur e (0,0))):(sortWorld enc w g 0 q D os).heap[g]?=some (.cells (putCells enc 0 D cur) e (0,0)):=by
 have hlt:g<w.heap.size:=(Array.getElem?_eq_some_iff.1 hg).1
 unfold sortWorld
 rw [heap_grow_old _ _ (by simpa [putRow,mapBlock,Go.Sort.ahead] using hlt)]
 simp [putRow,mapBlock,Go.Sort.ahead,Array.getElem?_modify,hg,onCells]
theorem QR {α:Type} [Inhabited α] {enc:α→Value} {g:Nat} {w:World} {q:Nat} {D:Array α} {os:Array Obj}:Mut (λb=>b=g) w (sortWorld enc w g 0 q D os):=by
 refine ⟨rfl,rfl,rfl,by simp [sortWorld,grow,putRow,mapBlock,Go.Sort.ahead],λk hk hne=>?_⟩
 have:g≠k:=λe=>hne e.symm
 unfold sortWorld
 rw [heap_grow_old _ _ (by simpa [putRow,mapBlock,Go.Sort.ahead] using hk)]
 simp [putRow,mapBlock,Go.Sort.ahead,Array.getElem?_modify,this]
theorem zaa {W:World} {base gl g2 cap cm M:Nat} {am:Option Addr} {ms:List Pid} {cs:List Sl} {ls:LL} (h:LLs W base (.slice (some ⟨gl,0,none⟩) ls.length cap) cs ls) (hfull:Qj ls) (h0:0<ls.length) (hl6:ls.length≤1000000)
  (hM:Hid (ms.length=M)) (hml:M≤1000) (hm:Zb W am ms) (hma:∀b off,am=some ⟨b,off,none⟩→b≠gl) (h2:W.cell? ⟨g2,0,none⟩=some (.slice am M cm)) (h2g:g2≠gl)
  (hT:∀i j (hi:i<ls.length) (hj:j<ls.length),hdIx ms ls[i]=hdIx ms ls[j]→i=j) :
  Calls Tryz.prog 255 #[.slice (some ⟨gl,0,none⟩) ls.length cap,.func (.func 256) #[] #[.pointer (some ⟨g2,0,none⟩)]] W λe w'=>e=.returned (.tuple #[])∧∃cs' ls',LLs w' base (.slice (some ⟨gl,0,none⟩) ls.length cap) cs' ls'∧ls'.Perm ls∧ls'.Pairwise (λa b=>hdIx ms a≤hdIx ms b)∧Mut (λb=>b=gl) W w'∧∀s∈cs',s∈cs:=by
 have hcl:=h.len
 haveI:Inhabited (Fin ls.length):=⟨⟨0,h0⟩⟩
 obtain ⟨enc,henc⟩:∃enc:Fin ls.length→Value,enc=λi=>Vq (cs[i.val]'(by rw [hcl];exact i.isLt)):=⟨_,rfl⟩
 obtain ⟨cf,hcf⟩:∃cf:Fin ls.length→Fin ls.length→Int,cf=λi j=>hdIx ms ls[i] - hdIx ms ls[j]:=⟨_,rfl⟩
 have hone:OneCell enc:=λi=>by rw [henc];rfl
 have hlt:∀i j,ltOf cf i j=decide (hdIx ms ls[i]<hdIx ms ls[j]):=λi j=>by
  unfold ltOf;rw [hcf];simp only [decide_eq_decide];omega
 have hO:SWO (ltOf cf):={
  irrefl:=λx=>by rw [hlt];simp
  trans:=λx y z h1 h2=>by rw [hlt] at *;simp at *;omega
  ntrans:=λx y z h1 h2=>by rw [hlt] at *;simp at *;omega }
 obtain ⟨d,hd⟩:∃d:Array (Fin ls.length),d=(List.finRange ls.length).toArray:=⟨_,rfl⟩
 have hds:d.size=ls.length:=by rw [hd];simp
 have eg:∀args w,(callFunc 256 args).run Tryz.prog w=.ok (.enter 256 args) w:=enters_of Tryz.func256 (by kernel_rfl) rfl
 have hcmp:CmpLays1 Tryz.prog 256 #[.pointer (some ⟨g2,0,none⟩)] enc cf gl 0 d.size W:=by
  intro m os dk _ x y
  have hmt:Mut (λb=>b=gl) W (sortWorld enc W gl 0 m dk os):=QR
  have hcx:x.val<cs.length:=by rw [hcl];exact x.isLt
  have hcy:y.val<cs.length:=by rw [hcl];exact y.isLt
  obtain ⟨s,s1,s2⟩:=h.el x.val x.isLt
  obtain ⟨t,t1,t2⟩:=h.el y.val y.isLt
  have es:cs[x.val]=s:=by rw [List.getElem?_eq_getElem hcx] at s1;cases s1;rfl
  have et:cs[y.val]=t:=by rw [List.getElem?_eq_getElem hcy] at t1;cases t1;rfl
  obtain ⟨a,c,e3,-,r3,-,-⟩:=s2.sl
  obtain ⟨b,c',e4,-,r4,-,-⟩:=t2.sl
  have far:∀(u:Sl) (a:Option Addr) (n c:Nat),u∈cs→Vq u=.slice a n c→∀b off,a=some ⟨b,off,none⟩→¬ b=gl:=by
   intro u a n c hu e b off ea eb
   refine h.out u hu b ?_ (by rw [eb];rfl)
   rw [←ZH,e,ea];rfl
  have hx2:=r3.mutN hmt (far s _ _ _ (List.mem_of_getElem? s1) e3)
  have hy2:=r4.mutN hmt (far t _ _ _ (List.mem_of_getElem? t1) e4)
  have hm2:=hm.mutN hmt hma
  have hg2:=World.block_lt_of_cell? W _ h2
  have h22:=(hmt.cell (p:=⟨g2,0,none⟩) hg2 h2g).trans h2
  have main:=zcN (c:=c) (d:=c') hM hml hm2 h22 hx2 rfl (hfull _ (List.getElem_mem x.isLt)) hy2 rfl (hfull _ (List.getElem_mem y.isLt))
  have ea:(#[enc x,enc y] ++ #[.pointer (some ⟨g2,0,none⟩)]:Array Value)=#[.slice a ls[x.val].length c,.slice b ls[y.val].length c',.pointer (some ⟨g2,0,none⟩)]:=by
   rw [henc];simp only [es,et,e3,e4];rfl
  rw [ea]
  refine main.mono ?_
  rintro e w' ⟨rfl,hb⟩
  exact ⟨by rw [hcf];rfl,hb⟩
 have hH:Holds enc W gl 0 d:=by
  intro j hj
  have hj':j<ls.length:=by omega
  obtain ⟨g',cap',s,e,-,-,-,h1,h2,h3,-,-⟩:=h.get hj'
  cases e
  have hjc:j<cs.length:=by rw [hcl];exact hj'
  have hs:cs[j]=s:=by rw [List.getElem?_eq_getElem hjc] at h1;cases h1;rfl
  have hdj:d[j]! = ⟨j,hj'⟩:=by rw [getElem!_pos d j hj];simp [hd]
  rw [Nat.zero_add,hdj,henc]
  simp only [hs]
  exact ⟨h2,h3⟩
 have hTT:∀x y,ltOf cf x y=false→ltOf cf y x=false→x=y:=λx y h1 h2=>by
  rw [hlt] at h1 h2
  simp at h1 h2
  exact Fin.ext (hT x.val y.val x.isLt y.isLt (Int.le_antisymm h2 h1))
 have hblk:=(h.blk (g:=gl) rfl).2
 have hcon:=Any.slices_SortFunc_total Tryz.sortLeaf enc hone cf hO 256 #[.pointer (some ⟨g2,0,none⟩)] gl 0 cap d W eg hcmp hH hblk (by omega) hTT
 change Calls Tryz.prog 255 _ _ _ at hcon
 rw [hds] at hcon
 refine hcon.mono ?_
 rintro e w' ⟨rfl,q,os,rfl⟩
 obtain ⟨σ,hσ⟩:∃σ,d.toList.mergeSort (λx y=>!(ltOf cf) y x)=σ:=⟨_,rfl⟩
 rw [hσ]
 have hdl:d.toList=List.finRange ls.length:=by rw [hd]
 have hperm:σ.Perm (List.finRange ls.length):=by rw [←hσ,hdl];exact List.mergeSort_perm _ _
 have hpw:σ.Pairwise λx y=>hdIx ms ls[x]≤hdIx ms ls[y]:=by
  have:=List.pairwise_mergeSort (le:=λx y=>!(ltOf cf) y x) (λa b c h1 h2=>by rw [hlt] at *;simp at *;omega) (λa b=>by rw [hlt,hlt];simp;omega) d.toList
  rw [hσ] at this
  refine this.imp ?_
  intro a b hab
  rw [hlt] at hab
  simpa using hab
 have hlen:σ.length=ls.length:=by rw [hperm.length_eq];simp
 have hne:σ.Pairwise λx y=>x≠y:=hperm.nodup_iff.2 (List.nodup_finRange _)
 refine ⟨rfl,σ.map λi=>cs[i.val]'(by rw [hcl];exact i.isLt),σ.map λi=>ls[i],?_,?_,?_,QR,?_⟩
 ·have hmt:Mut (λb=>b=gl) W (sortWorld enc W gl 0 q σ.toArray os):=QR
  refine ⟨⟨by simp,?_⟩,λi hi=>?_,λs hs=>?_,?_⟩
  ·rcases h.own.2 with ⟨e,-⟩ | ⟨g',cap',cur,e,hbb,hgg,hnc,hcm,hcs,htake⟩
   ·cases e
   ·cases e
    refine .inr ⟨gl,cap,_,by simp [hlen],hbb,zbm hgg,by simpa [hlen] using hnc,hcm,by simpa [putCells] using hcs,?_⟩
    rw [zdo enc cur σ.toArray _ (by simp [hlen];omega) (by simp)]
    simp only [List.length_map]
    rw [List.take_of_length_le (by simp),henc,List.map_map]
    rfl
  ·have hi':i<σ.length:=by simpa using hi
   obtain ⟨s,s1,s2⟩:=h.el σ[i].val σ[i].isLt
   have hcx:σ[i].val<cs.length:=by rw [hcl];exact σ[i].isLt
   refine ⟨s,by rw [List.getElem?_map,List.getElem?_eq_getElem hi',Option.map_some,← s1,List.getElem?_eq_getElem hcx],?_⟩
   simp only [List.getElem_map]
   exact s2.mutN hmt (λg hg e=>by
    rw [ZH] at hg
    have e:g=gl:=e
    exact h.out s (List.mem_of_getElem? s1) g hg (by rw [e];rfl))
  ·obtain ⟨i,-,rfl⟩:=List.mem_map.1 hs
   exact h.out _ (List.getElem_mem _)
  ·rw [List.pairwise_map]
   refine hne.imp ?_
   intro i j hij g hg hg'
   have hci:i.val<cs.length:=by rw [hcl];exact i.isLt
   have hcj:j.val<cs.length:=by rw [hcl];exact j.isLt
   rcases Nat.lt_or_gt_of_ne (λe=>hij (Fin.ext e):i.val≠j.val) with hlt | hlt
   ·exact List.pairwise_iff_getElem.1 h.apart i.val j.val hci hcj hlt g hg hg'
   ·exact List.pairwise_iff_getElem.1 h.apart j.val i.val hcj hci hlt g hg' hg
 ·have:(List.finRange ls.length).map (λi=>ls[i])=ls:=by
   apply List.ext_getElem
   ·simp
   ·intro i h1 h2;simp
  exact (hperm.map _).trans (by rw [this])
 ·rw [List.pairwise_map];exact hpw
 ·intro s hs
  obtain ⟨i,-,rfl⟩:=List.mem_map.1 hs
  exact List.getElem_mem _
def zar (ms:List Pid) (ls:LL) (k:Nat):LL:=(ls.take k).map (ZA ms) ++ ls.drop k
theorem zbN (ms:List Pid) (ls:LL) (k:Nat):(zar ms ls k).length=ls.length:=by unfold zar;simp;omega
theorem mixL_get {ms:List Pid} {ls:LL} {k:Nat} (h:k<ls.length):(zar ms ls k)[k]'(by rw [zbN];exact h)=ls[k]:=by
 unfold zar
 rw [List.getElem_append_right (by simp;omega)]
 simp [show min k ls.length=k by omega]
theorem mixL_set {ms:List Pid} {ls:LL} {k:Nat} (h:k<ls.length):(zar ms ls k).set k (ZA ms ls[k])=zar ms ls (k+1):=by
 unfold zar
 rw [List.drop_eq_getElem_cons h]
 have hl:((ls.take k).map (ZA ms)).length=k:=by simp;omega
 have:=QS ls[k] (ZA ms ls[k]) (ls.drop (k+1)) ((ls.take k).map (ZA ms))
 rw [hl] at this
 rw [this,List.take_succ_eq_append_getElem h,List.map_append]
 simp only [List.map_cons,List.map_nil,List.append_assoc,List.cons_append,List.nil_append]
theorem common_n {ms l xs:List Pid} {am a:Option Addr} {cm c M n:Nat} {w:World} (hx:Hid (ZA ms l=xs)) (hM:Hid (ms.length=M)) (hml:M≤1000) (hn:Hid (l.length=n)) (hnl:n≤1000000) (hm:Zb w am ms) (hl:Zb w a l) :
  Calls Tryz.prog 131 #[.slice am M cm,.slice a n c] w λe w'=>∃v,e=.returned v∧Zy w' w.heap.size v xs∧Below w.heap.size w w':=by
 have h1:=hM.out
 have h2:=hn.out
 subst h1;subst h2
 rw [←hx.out]
 exact Vv am cm ms a c l w (by omega) (by omega) hm hl
set_option maxRecDepth 100000 in
set_option maxHeartbeats 6400000 in
theorem za6 {w:World} {base g cap cm M N:Nat} {am:Option Addr} {ms:List Pid} {cs:List Sl} {ls:LL} (hp:ZU ms ls) (hN:Hid (ls.length=N)) (h:LLs w base (.slice (some ⟨g,0,none⟩) N cap) cs ls) (hbase:base≤w.heap.size) (h0:0<N)
  (hM:Hid (ms.length=M)) (hml:M≤1000) (hm:Zb w am ms) (hma:∀b off,am=some ⟨b,off,none⟩→¬ QM (.slice (some ⟨g,0,none⟩) N cap) cs b∧b<w.heap.size) :
  Calls Tryz.prog 163 #[.slice am M cm,.slice (some ⟨g,0,none⟩) N cap] w λe w'=>∃cs',e=.returned (.slice (some ⟨g,0,none⟩) N cap)∧LLs w' base (.slice (some ⟨g,0,none⟩) N cap) cs' (FW ms ls)∧Xc w (.slice (some ⟨g,0,none⟩) N cap) cs w' (.slice (some ⟨g,0,none⟩) N cap) cs':=by
 obtain ⟨W1,hW1⟩:∃W1,w.alloc (.cells #[.slice am M cm] 26)=W1:=⟨_,rfl⟩
 have hB1:Below w.heap.size w W1:=by rw [←hW1];exact bra
 have hsz1:w.heap.size<W1.heap.size:=by rw [←hW1];simp
 have hbx:W1.cell? ⟨w.heap.size,0,none⟩=some (.slice am M cm):=by rw [←hW1];simp
 have hno:¬ QM (.slice (some ⟨g,0,none⟩) N cap) cs w.heap.size:=λe=>by have:=(h.inB e).2;omega
 have hN6:N≤1000:=by
  have:=Xs hp.full
  have h2:=hp.perm.length_eq
  rw [Yn] at h2
  have:=hN.out;have:=hM.out
  omega
 have hlens:∀l∈ls,l.length≤1000:=λl hl=>by
  have:=Vw ls l hl
  have h2:=hp.perm.length_eq
  rw [Yn] at h2
  have:=hM.out
  omega
 have HS1:=hid (show LLs W1 base (.slice (some ⟨g,0,none⟩) N cap) cs ls from h.ext hB1)
 have HM1:=hid (hm.ext hB1)
 have HMA:Hid (∀b off,am=some ⟨b,off,none⟩→¬ QM (.slice (some ⟨g,0,none⟩) N cap) cs b):=hid λb off e=>(hma b off e).1
 have HMB:Hid (∀b off,am=some ⟨b,off,none⟩→b<W1.heap.size):=hid λb off e=>by have:=(hma b off e).2;omega
 have HNO:=hid hno
 have HBX:=hid hbx
 have HS:Hid (base≤W1.heap.size):=hid (by omega)
 have HSZ:=hid hsz1
 have HB1:=hid hB1
 have HP:=hid hp
 have HLENS:=hid hlens
 have HN6:=hid hN6
 have HML:=hid hml
 clear h hp hm hma hbase hbx hno hB1 hsz1 hlens hml
 go_enter Tryz.func163,Tryz.ntmps163
 go_wp2
 go_loopw [9] (λi wr=>∃(k:Nat) (cs':List Sl),i=.int .i64 k∧k≤N∧LLs wr base (.slice (some ⟨g,0,none⟩) N cap) cs' (zar ms ls k)∧Xc W1 (.slice (some ⟨g,0,none⟩) N cap) cs wr (.slice (some ⟨g,0,none⟩) N cap) cs') (λi _=>N - (intOf i).toNat)
 case atStart=>exact ⟨0,cs,rfl,Nat.zero_le _,by simpa [zar] using HS1.out,Xc.refl _ _ _⟩
 case round =>
  obtain ⟨k,cs',rfl,hk,hown,hkp⟩:=hrel
  have hszr:=hkp.mt.size
  have hmr:Zb wr am ms:=HM1.out.mutN hkp.mt (λb off e=>HMA.out b off e)
  have z0:wr.cell? ⟨w.heap.size,0,none⟩=some (.slice am M cm):=(hkp.mt.cell (p:=⟨w.heap.size,0,none⟩) HSZ.out HNO.out).trans HBX.out
  have hlm:(zar ms ls k).length=N:=by rw [zbN];exact hN.out
  by_cases hlt:k<N
  ·have hkl:k<ls.length:=by rw [hN.out];exact hlt
   have hkm:k<(zar ms ls k).length:=by rw [hlm];exact hlt
   have hget:=(show LLs wr base (.slice (some ⟨g,0,none⟩) (zar ms ls k).length cap) cs' (zar ms ls k) by rw [hlm];exact hown).get hkm
   obtain ⟨g',cap',s,e0,hcap,hbg,hgw,hcs,hcell,hfr,hownk,hsg⟩:=hget
   cases e0
   rw [mixL_get hkl] at hownk
   obtain ⟨l,hl⟩:∃l,ls[k]=l:=⟨_,rfl⟩
   have hll:=HLENS.out ls[k] (List.getElem_mem hkl)
   rw [hl] at hownk hll
   obtain ⟨a,c,he,he2,hrow,hlc,hblk⟩:=hownk.sl
   rw [he] at hcell
   obtain ⟨n,hn⟩:∃n,l.length=n:=⟨_,rfl⟩
   obtain ⟨xs,hx⟩:∃xs,ZA ms l=xs:=⟨_,rfl⟩
   rw [hn] at hcell hll
   have C1:=hid (common_n (cm:=cm) (c:=c) (hid hx) hM HML.out (hid hn) (by omega) hmr hrow)
   have HOWN:=hid hown
   have HKP:=hid hkp
   have HCS:=hid hcs
   have HL:=hid hl
   have HX:=hid hx
   have HK:=hid hkm
   have HLM:=hid hlm
   have HKL:=hid hkl
   have HGW:=hid hgw
   have HSR:Hid (base≤wr.heap.size):=hid (by have:=HS.out;omega)
   have HFR:=hid hfr
   have HCELL:=hid hcell
   clear hown hkp hcs hl hx hkm hlm hgw hbg hownk hsg he he2 hrow hlc hblk hn hmr hszr hll hcap
   go_wp2_with fail
   (with_reducible refine C1.out.mono ?_)
   rintro e w3 ⟨v3,rfl,hown3,hb3⟩
   obtain ⟨a3,c3,e3,e3s,-,-,hblk3⟩:=hown3.sl
   obtain ⟨n3,hn3⟩:∃n3,xs.length=n3:=⟨_,rfl⟩
   rw [hn3] at e3 e3s hblk3
   subst e3
   have hput:=(show LLs wr base (.slice (some ⟨g,0,none⟩) (zar ms ls k).length cap) cs' (zar ms ls k) by rw [HLM.out];exact HOWN.out).put (s':=(a3,n3,c3)) (l':=xs) (w1:=w3) HK.out HCS.out (Mut.of_below hb3) (hown3.mono2 HSR.out) (λq hq=>.inr (hblk3 q hq).1)
   rw [HLM.out,← HX.out,← HL.out,mixL_set HKL.out] at hput
   have hcell3:∃u,w3.cell? ⟨g,k,none⟩=some u:=⟨_,(hb3.cell (by exact HGW.out)).trans HCELL.out⟩
   obtain ⟨u3,hu3⟩:=hcell3
   have hfr3:w3.frozen? ⟨g,k,none⟩=false:=(hb3.frozen (by exact HGW.out)).trans HFR.out
   have hkp3:Xc W1 (.slice (some ⟨g,0,none⟩) N cap) cs (w3.setCell ⟨g,k,none⟩ (.slice a3 n3 c3)) (.slice (some ⟨g,0,none⟩) N cap) (cs'.set k (a3,n3,c3)):=by
    refine HKP.out.trans ⟨(Mut.of_below hb3).trans (Xk.mono λb _ e=>.inl (by have e:b=g:=e;rw [e];rfl)),?_⟩
    rintro b (hb | ⟨s',hs',hb⟩)
    ·exact .inl (.inl hb)
    ·rcases List.mem_or_eq_of_mem_set hs' with hs' | rfl
     ·exact .inl (.inr ⟨s',hs',hb⟩)
     ·exact .inr (hblk3 b hb).1
   have HPUT:=hid hput
   have HKP3:=hid hkp3
   clear hput hkp3 hown3 hb3 e3s hblk3 hn3 C1 z0 hfr hcell
   go_wp2
   go_roundw
   case rel=>exact ⟨k+1,_,by go_num,by omega,HPUT.out,HKP3.out⟩
   case measure=>simp [intOf];omega
  ·have hkN:k=N:=by omega
   subst hkN
   have hmap:zar ms ls k=ls.map (ZA ms):=by unfold zar;rw [←hN.out];simp
   rw [hmap] at hown hlm
   have hfull:Qj (ls.map (ZA ms)):=by
    intro c hc e
    obtain ⟨l,hl,rfl⟩:=List.mem_map.1 hc
    have:=HP.out.head hl
    rw [e] at this;cases this
   have hT:∀i j (hi:i<(ls.map (ZA ms)).length) (hj:j<(ls.map (ZA ms)).length),hdIx ms (ls.map (ZA ms))[i]=hdIx ms (ls.map (ZA ms))[j]→i=j:=by
    intro i j hi hj e
    have hi':i<ls.length:=by simpa using hi
    have hj':j<ls.length:=by simpa using hj
    rw [List.getElem_map,List.getElem_map,HP.out.hdIx (List.getElem_mem hi'),HP.out.hdIx (List.getElem_mem hj')] at e
    rcases Nat.lt_trichotomy i j with hlt | hlt | hlt
    ·exact absurd (by omega) (List.pairwise_iff_getElem.1 HP.out.keys i j hi' hj' hlt)
    ·exact hlt
    ·exact absurd (by omega) (List.pairwise_iff_getElem.1 HP.out.keys j i hj' hi' hlt)
   have hgin:QM (.slice (some ⟨g,0,none⟩) k cap) cs g:=.inl rfl
   have C1:=zaa (cm:=cm) (g2:=w.heap.size) (show LLs wr base (.slice (some ⟨g,0,none⟩) (ls.map (ZA ms)).length cap) cs' (ls.map (ZA ms)) by rw [hlm];exact hown) hfull (by rw [hlm];exact h0) (by rw [hlm];have:=HN6.out;omega) hM HML.out hmr (λb off e eb=>HMA.out b off e (by rw [eb];exact hgin)) z0 (λe=>HNO.out (by rw [e];exact hgin)) hT
   rw [hlm] at C1
   have C1:=hid C1
   have HKP:=hid hkp
   clear hown hkp hfull hT hmap hlm hszr hmr z0 hgin hk hlt
   go_wp2_with fail
   (with_reducible refine C1.out.mono ?_)
   rintro e w3 ⟨rfl,cs3,ls3,hs3,hp3,hpw3,hmt3,hsub3⟩
   have hord:ls3=FW ms ls:=HP.out.ord_eq hp3 hpw3
   have HORD:=hid hord
   have HS3:=hid hs3
   have HMT3:=hid hmt3
   have HSUB:=hid hsub3
   clear hs3 hp3 hpw3 hmt3 hsub3 hord C1
   go_wp2
   go_ret
   refine ⟨cs3,rfl,by rw [←HORD.out];exact HS3.out,?_⟩
   have k2:Xc W1 (.slice (some ⟨g,0,none⟩) k cap) cs w3 (.slice (some ⟨g,0,none⟩) k cap) cs3:=by
    refine HKP.out.trans ⟨HMT3.out.mono λb _ e=>.inl (by rw [e];rfl),?_⟩
    rintro b (hb | ⟨s',hs',hb⟩)
    ·exact .inl (.inl hb)
    ·exact .inl (.inr ⟨s',HSUB.out s' hs',hb⟩)
   exact ⟨(Mut.of_below HB1.out).trans k2.mt,λq hq=>(k2.blk q hq).imp id λe=>by have:=HSZ.out;omega⟩
def KL:List (Int × Unit)→List Pid→List (Int × Unit)
 | S,[]=>S
 | S,p :: r=>KL (ins p.1 () S) r
theorem zba {S:List (Int × Unit)} {xs:List Pid} {k:Nat} (h:k<xs.length) {x y:Int} (hx:(x,y)=xs[k]):KL S (xs.drop k)=KL (ins x () S) (xs.drop (k+1)):=by
 rw [List.drop_eq_getElem_cons h,← hx];rfl
def FC:List (Int × Unit)→List Pid→Int
 | _,[]=>0
 | S,p :: r=>if (Yz p.1 S).isSome=true then 9 else FC (ins p.1 () S) r
theorem zcE {S:List (Int × Unit)} {xs:List Pid} {k:Nat} (h:k<xs.length) {x y:Int} (hx:(x,y)=xs[k]):FC S (xs.drop k)=if (Yz x S).isSome=true then 9 else FC (ins x () S) (xs.drop (k+1)):=by
 rw [List.drop_eq_getElem_cons h,← hx];rfl
theorem zbL {S:List (Int × Unit)} {x p:Int}:p∈keys (ins x () S)↔p=x∨p∈keys S:=by
 rw [←ZM,FT,← ZM]
 by_cases h:p=x <;> simp [h]
theorem QP:∀{xs:List Pid} {S:List (Int × Unit)} {p:Int},p∈keys (KL S xs)↔p∈keys S∨p∈xs.map (·.1)
 | [],S,p=>by simp [KL]
 | q :: r,S,p=>by
  unfold KL
  rw [QP,zbL]
  simp only [List.map_cons,List.mem_cons]
  constructor
  ·rintro ((h | h) | h)
   ·exact .inr (.inl h)
   ·exact .inl h
   ·exact .inr (.inr h)
  ·rintro (h | h | h)
   ·exact .inl (.inr h)
   ·exact .inl (.inl h)
   ·exact .inr h
theorem zb0:∀{come:List Pid} {S:List (Int × Unit)} {T:List Int},(∀x,x∈keys S↔x∈T)→FC S come=if Vr T come=true then 0 else 9
 | [],S,T,_=>by simp [FC,Vr]
 | p :: r,S,T,h=>by
  unfold FC Vr
  by_cases hp:p.1∈T
  ·rw [if_pos (ZM.2 ((h _).2 hp)),if_pos hp,if_neg (by simp)]
  ·rw [if_neg (λe=>hp ((h _).1 (ZM.1 e))),if_neg hp]
   refine zb0 λx=>?_
   rw [zbL,h]
   simp only [List.mem_append,List.mem_singleton]
   exact or_comm
theorem comeM_is (stay come:List Pid):FC (KL [] stay) come=if Vr (stay.map (·.1)) come=true then 0 else 9 :=
 zb0 λx=>by rw [QP];simp [keys]
set_option maxRecDepth 100000 in
set_option maxHeartbeats 1600000 in
theorem GR {a b:Option Addr} {c d n m:Nat} {xs ys:List Pid} {w:World} {R:Int} (hR:Hid ((if Vr (xs.map (·.1)) ys=true then 0 else 9)=R)) (hn':Hid (xs.length=n)) (hm':Hid (ys.length=m)) (hn:n≤70368744177664) (hm:m≤70368744177664) (hx:Zb w a xs) (hy:Zb w b ys) :
  Calls Tryz.prog 160 #[.slice a n c,.slice b m d] w λe w'=>e=.returned (.int .i64 R)∧Below w.heap.size w w':=by
 have h1:=hn'.out
 have h2:=hm'.out
 subst h1;subst h2
 have hmm:=@run_makeMap Tryz.prog
 have HC:=hid ((comeM_is xs ys).trans hR.out)
 clear hR
 go_enter Tryz.func160,Tryz.ntmps160
 go_wp2
 go_loopw [15] (λi wr=>∃(k:Nat) (S:List (Int × Unit)),k≤xs.length∧i=.int .i64 k∧Hid (KL [] xs=KL S (xs.drop k))∧Below w.heap.size w wr∧Zj wr w.heap.size e16 eU S) (λi _=>xs.length - (intOf i).toNat)
 case atStart=>exact ⟨0,[],Nat.zero_le _,rfl,rfl,bra,Zj.made _⟩
 case round =>
  obtain ⟨k,S,hk,rfl,ha,hb,hM⟩:=hrel
  by_cases hlt:k<xs.length
  ·obtain ⟨b',off,x,y,rfl,hx',d1,d2⟩:=hx.at hb rfl hlt
   have HD:=hid (zba (S:=S) hlt hx')
   clear hx' hx hy
   have hB1:Below w.heap.size w (wr.alloc (.cells #[.int .u16 x,.int .u32 y] 25)):=hb.alloc hb.size _
   go_wp2_with (at_mapUpdate;refine Ya XF Tryz.underlying324 (hM.alloc _) x () rfl rfl rfl rfl rfl ?_;intro w2 hM2 hbut)
   go_roundw
   case rel=>exact ⟨k+1,_,by omega,by go_num,(ha.out.trans HD.out:_),hB1.trans (hbut.below (Nat.le_refl _)),hM2⟩
   case measure=>simp [intOf];omega
  ·have ha2:=ha.out
   rw [List.drop_eq_nil_of_le (by omega)] at ha2
   have ha3:KL [] xs=S:=ha2
   rw [ha3] at HC
   have HB:=hid hb
   clear ha ha2 ha3 hb
   go_wp2
   go_loopw [4,26] (λr i wr=>r=.int .i64 0∧∃(k:Nat) (S':List (Int × Unit)),k≤ys.length∧i=.int .i64 k∧Hid (FC S ys=FC S' (ys.drop k))∧Below w.heap.size w wr∧Zj wr w.heap.size e16 eU S') (λ_ i _=>ys.length - (intOf i).toNat)
   case atStart=>exact ⟨rfl,0,S,Nat.zero_le _,rfl,rfl,HB.out,hM⟩
   case round =>
    obtain ⟨rfl,k,S',hk,rfl,ha,hb,hM'⟩:=hrel
    by_cases hlt:k<ys.length
    ·obtain ⟨b',off,x,y,rfl,hy',d1,d2⟩:=hy.at hb rfl hlt
     have HD:=hid (zcE (S:=S') hlt hy')
     clear hy' hx hy hM
     rename World=>wz
     have hB1:Below w.heap.size w (wz.alloc (.cells #[.int .u16 x,.int .u32 y] 25)):=hb.alloc hb.size _
     have hB2:Below w.heap.size w ((wz.alloc (.cells #[.int .u16 x,.int .u32 y] 25)).alloc (.cells #[] 151)):=hB1.alloc hB1.size _
     cases hs:(Yz x S').isSome
     ·have HS:=hid hs
      clear hs
      go_wp2_with (first
       | (at_lookup;refine Zw XF Tryz.underlying324 (.agg #[]) Km (hM'.alloc _) x _ (XA _ _) HS rfl rfl rfl rfl ?_)
       | (at_mapUpdate;refine Ya XF Tryz.underlying324 ((hM'.alloc _).alloc _) x () rfl rfl rfl rfl rfl ?_;intro w2 hM2 hbut))
      go_roundw
      case rel=>exact ⟨rfl,k+1,_,by omega,by go_num,(ha.out.trans (by rw [HD.out,HS.out];rfl):_),hB2.trans (hbut.below (Nat.le_refl _)),hM2⟩
      case measure=>simp [intOf];omega
     ·have HS:=hid hs
      clear hs
      go_wp2_with (first
       | (at_lookup;refine Zw XF Tryz.underlying324 (.agg #[]) Km (hM'.alloc _) x _ (XA _ _) HS rfl rfl rfl rfl ?_))
      go_ret
      exact ⟨ZE (by rw [←HC.out,ha.out,HD.out,HS.out];rfl),hB2⟩
    ·have ha2:=ha.out
     rw [List.drop_eq_nil_of_le (by omega)] at ha2
     have HA:=hid ha2
     clear ha2
     go_wp2
     go_ret
     exact ⟨ZE (by rw [←HC.out,HA.out];rfl),hb⟩
def YL:List Pid→Nat→Int
 | [],_=>-1
 | p :: r,k=>if KM p=true then YL r (k+1) else (k:Int)
theorem za1 {xs:List Pid} {k:Nat} (h:k<xs.length) {x y:Int} (hx:(x,y)=xs[k]):YL (xs.drop k) k=if KM (x,y)=true then YL (xs.drop (k+1)) (k+1) else (k:Int):=by
 rw [List.drop_eq_getElem_cons h,← hx];rfl
theorem zap:∀(xs:List Pid) (k:Nat),decide (0≤YL xs k)=!Ex xs
 | [],k=>rfl
 | p :: r,k=>by
  have ih:=zap r (k+1)
  have e:Ex (p :: r)=(KM p && Ex r):=rfl
  unfold YL
  rw [e]
  cases hp:KM p
  ·rw [if_neg (by simp)];simp <;> omega
  ·rw [if_pos rfl,ih];simp
theorem Gf {x y:Int} {w:World} {r:Bool} (h:Hid (KM (x,y)=r)) :
  Calls Tryz.prog 158 #[.agg #[.int .u16 x,.int .u32 y]] w λe w'=>e=.returned (.bool (!r))∧Below w.heap.size w w':=by
 have hB:Below w.heap.size w (w.alloc (.cells #[.int .u16 x,.int .u32 y] 25)):=bra
 go_enter Tryz.func158,Tryz.ntmps158
 go_wp2_with (go_at_call 159;refine (EU h).mono ?_;rintro e w1 ⟨rfl,hb1⟩)
 go_ret
 exact ⟨rfl,hB.trans (hb1.mono hB.size)⟩
set_option maxRecDepth 100000 in
set_option maxHeartbeats 800000 in
theorem zdm {a:Option Addr} {c:Nat} {xs:List Pid} {w:World} (hn:xs.length≤70368744177664) (hrow:Zb w a xs) :
  Calls Tryz.prog 251 #[.slice a xs.length c,.func (.func 158) #[] #[]] w λe w'=>e=.returned (.int .i64 (YL xs 0))∧Below w.heap.size w w':=by
 go_enter Tryz.func251,Tryz.ntmps251
 go_wp2
 go_loopw [4,8] (λr i wr=>r=.int .i64 0∧∃k:Nat,k≤xs.length∧i=.int .i64 k∧Hid (YL xs 0=YL (xs.drop k) k)∧Below w.heap.size w wr) (λ_ i _=>xs.length - (intOf i).toNat)
 case atStart=>exact ⟨rfl,0,Nat.zero_le _,rfl,rfl,Below.refl _ _⟩
 case round =>
  obtain ⟨rfl,k,hk,rfl,ha,hb⟩:=hrel
  by_cases hlt:k<xs.length
  ·obtain ⟨bb,off,x,y,rfl,hx,d1,d2⟩:=hrow.at hb rfl hlt
   have HD:=hid (za1 hlt hx)
   obtain ⟨r,hr⟩:∃r,KM (x,y)=r:=⟨_,rfl⟩
   have HR:=hid hr
   clear hx hrow hr
   cases r
   case true =>
    go_wp2_with (go_at_call 158;(with_reducible refine (Gf HR).mono ?_);rintro e w1 ⟨rfl,hb1⟩)
    go_roundw
    case rel=>exact ⟨rfl,k+1,by omega,by go_num,(ha.out.trans (by rw [HD.out,HR.out];rfl):_),hb.trans (hb1.mono hb.size)⟩
    case measure=>simp [intOf];omega
   case false =>
    go_wp2_with (go_at_call 158;(with_reducible refine (Gf HR).mono ?_);rintro e w1 ⟨rfl,hb1⟩)
    go_ret
    exact ⟨ZE (by rw [ha.out,HD.out,HR.out];rfl),hb.trans (hb1.mono hb.size)⟩
  ·have ha2:=ha.out
   rw [List.drop_eq_nil_of_le (by omega)] at ha2
   have HA:=hid ha2
   clear ha2 ha
   go_wp2
   go_ret
   exact ⟨ZE (by rw [HA.out];rfl),hb⟩
theorem lmay_any {a:Option Addr} {c n:Nat} {xs:List Pid} {w:World} {r:Bool} (hr:Hid (Ex xs=r)) (hN:Hid (xs.length=n)) (hn:n≤70368744177664) (hrow:Zb w a xs) :
  Calls Tryz.prog 64 #[.slice a n c] w λe w'=>e=.returned (.bool r)∧Below w.heap.size w w':=by
 have hN:=hN.out
 subst hN
 have hz:=zap xs 0
 have C1:Hid (Calls Tryz.prog 157 #[.slice a xs.length c,.func (.func 158) #[] #[]] w λe w'=>e=.returned (.bool (!r))∧Below w.heap.size w w'):=by
  have C0:=zdm (c:=c) hn hrow
  rw [hr.out] at hz
  obtain ⟨z,hzz⟩:∃z,YL xs 0=z:=⟨_,rfl⟩
  rw [hzz] at hz C0
  have t2:decide (z ≥ 0)=!r:=hz
  have C0:=hid C0
  clear hrow hr hzz
  show Calls _ _ _ _ _
  go_enter Tryz.func157,Tryz.ntmps157
  go_wp2_with (go_at_call 251;(with_reducible refine C0.out.mono ?_);rintro e w1 ⟨rfl,hb1⟩)
  go_ret
  exact ⟨Zm (by first | exact hz | rfl | simp),hb1⟩
 clear hz hr hrow
 cases r
 all_goals
  go_enter Tryz.func64,Tryz.ntmps64
  go_wp2_with (go_at_call 157;(with_reducible refine C1.out.mono ?_);rintro e w1 ⟨rfl,hb1⟩)
  go_ret
  exact ⟨rfl,hb1⟩
theorem Ga {ls:LL} {k:Nat} (h:k<ls.length) {p:Pid} {r:List Pid} (hl:p :: r=ls[k]):Yj (ls.take (k+1))=Yj (ls.take k) ++ [p]:=by
 rw [VF,VF,List.take_succ_eq_append_getElem h,List.filterMap_append,← hl]
 rfl
theorem ED {p:Pid} {L:List (Pid × Unit)}:keys (Gm p L)=if p∈keys L then keys L else keys L ++ [p]:=by
 by_cases h:p∈keys L
 ·rw [if_pos h,VG h]
 ·rw [if_neg h,Xn h];simp [keys]
theorem zcX {ms S:List Pid} {k:Nat} (h:k<ms.length) {p:Pid} (hp:p=ms[k]):Xl (ms.drop k) S=Xl (ms.drop (k+1)) (Xf S p):=by
 rw [List.drop_eq_getElem_cons h,← hp];rfl
theorem QJ {w w1:World} {s r M cm:Nat} {am:Option Addr} {ms S:List Pid} {L:List (Pid × Unit)} (hS:ZP w1 s r L) (hk:keys L=Xl ms S) (hn:(Xl ms S).Nodup) (hok:∀p∈Xl ms S,ok p) (hl:(Xl ms S).length≤1000) :
  Calls Tryz.prog 262 #[.pointer (some ⟨s,0,none⟩)] w1 λe w'=>∃v,e=.returned v∧Zy w' w1.heap.size v (YS (Xl ms S))∧Below w1.heap.size w1 w':=by
 have h5:(keys L).length=L.length:=by simp [keys]
 rw [hk] at h5
 have:=Qm s r L w1 hS (by rw [hk];exact hn) (by rw [hk];exact hok) (by omega)
 rw [hk] at this
 exact this
set_option maxRecDepth 100000 in
set_option maxHeartbeats 3200000 in
theorem zaJ {w:World} {am al:Option Addr} {cm cl M N:Nat} {ms:List Pid} {ls:LL} (hM:Hid (ms.length=M)) (hml:M≤1000) (hN:Hid (ls.length=N)) (hnl:N≤1000) (hm:Zb w am ms) (hl:Zp w al ls) (hfull:Qj ls) (hhd:(Yj ls).Nodup) (hsub:∀p∈Yj ls,p∈ms) (hnd:ms.Nodup) (hok:∀p∈ms,ok p) :
  Calls Tryz.prog 165 #[.slice am M cm,.slice al N cl] w λe w'=>∃v,e=.returned v∧Zy w' w.heap.size v (Kt ms (Yj ls))∧Below w.heap.size w w':=by
 have h1:=hM.out
 have h2:=hN.out
 subst h1;subst h2
 obtain ⟨q1,q2,q3,q4⟩:=Fv ms (λ_ h=>h) hhd hsub
 have q5:(Xl ms (Yj ls)).length≤1000:=by have:=Jf q1 q2;omega
 have QQ:=hid (And.intro q1 (And.intro (λp hp=>hok p (q2 p hp)) q5))
 have HHD:=hid hhd
 have hgoal:ZA ms (YS (Xl ms (Yj ls)))=Kt ms (Yj ls):=by
  unfold ZA Kt
  refine List.filter_congr λx _=>?_
  rw [decide_eq_decide];exact Kb
 have HGOAL:=hid hgoal
 have hsl:(YS (Xl ms (Yj ls))).length≤1000:=by rw [YH];exact q5
 have HSL:=hid hsl
 have HFULL:=hid hfull
 clear hM hN hfull hhd hsub hnd hok q1 q2 q3 q4 q5 hgoal hsl
 go_enter Tryz.func165,Tryz.ntmps165
 go_wp2_with (go_at_call 69;refine (VL none 0 [] _ (by simp) (.inl rfl)).mono ?_;rintro e w1 ⟨s,r,rfl,hs,hr,hS1,hb1⟩)
 go_loopw [13] (λi wr=>∃(k:Nat) (L:List (Pid × Unit)),k≤ls.length∧i=.int .i64 k∧ZP wr s r L∧Hid (keys L=Yj (ls.take k))∧Below w.heap.size w wr) (λi _=>ls.length - (intOf i).toNat)
 case atStart=>exact ⟨0,_,Nat.zero_le _,rfl,hS1,rfl,hb1⟩
 case round =>
  obtain ⟨k,L,hk,rfl,hS,hK,hb⟩:=hrel
  by_cases hlt:k<ls.length
  ·obtain ⟨bb,off,ai,ci,l,rfl,hx,d1,d2⟩:=hl.at hb rfl hlt
   have hne:l≠[]:=by rw [hx];exact HFULL.out _ (List.getElem_mem hlt)
   cases l with
   | nil=>exact absurd rfl hne
   | cons p r' =>
   obtain ⟨x,y⟩:=p
   obtain ⟨b2,o2,rfl,p1,p2⟩:=d2.first
   obtain ⟨n,hn⟩:∃n,((x,y) :: r':List Pid).length=n:=⟨_,rfl⟩
   rw [hn] at d1
   have t1:decide (0<n)=true:=decide_eq_true (by rw [←hn];simp)
   have t2:decide ((0:Int)<(n:Int))=true:=decide_eq_true (by rw [←hn];simp)
   have t3:0<n:=by rw [←hn];simp
   have hsucc:=Ga hlt hx
   have hnot:(x,y) ∉ keys L:=by
    rw [hK.out]
    intro hm
    have hnd:(Yj (ls.take (k+1))).Nodup:=by
     rw [VF]
     have:=HHD.out
     rw [VF] at this
     exact this.sublist ((List.take_sublist _ _).filterMap _)
    rw [hsucc,List.nodup_append] at hnd
    exact hnd.2.2 _ hm _ (by simp) rfl
   have HK1:Hid (keys (Gm (x,y) L)=Yj (ls.take (k+1))):=hid (by rw [ED,if_neg hnot,hK.out,hsucc])
   clear hx hne hn hsucc hnot d2
   go_wp2_with (go_at_call 238;(with_reducible refine (zaU _ _ _ _ _ _ hS).mono ?_);rintro e w2 ⟨rfl,hS2,hm2⟩)
   go_roundw
   case rel=>exact ⟨k+1,_,by omega,by go_num,hS2,HK1,hb.trans (hm2.below hb.size (λj e=>by rw [e];exact hr))⟩
   case measure=>simp [intOf];omega
  ·have hK2:=hK.out
   rw [List.take_of_length_le (by omega)] at hK2
   have HK:=hid hK2
   have HB:=hid hb
   have HS:=hid hS
   clear hK hK2 hb hS
   go_wp2
   go_loopw [25] (λi wr=>∃(k:Nat) (L:List (Pid × Unit)),k≤ms.length∧i=.int .i64 k∧ZP wr s r L∧Hid (Xl ms (Yj ls)=Xl (ms.drop k) (keys L))∧Below w.heap.size w wr) (λi _=>ms.length - (intOf i).toNat)
   case atStart=>exact ⟨0,L,Nat.zero_le _,rfl,HS.out,hid (by rw [HK.out];rfl),HB.out⟩
   case round =>
    obtain ⟨k,L',hk,rfl,hS,hK,hb⟩:=hrel
    have hlen:(keys L').length=L'.length:=by simp [keys]
    by_cases hlt:k<ms.length
    ·obtain ⟨bb,off,x,y,rfl,hx,d1,d2⟩:=hm.at hb rfl hlt
     have hd:=zcX (S:=keys L') hlt hx
     rename World=>wz
     have hB1:Below w.heap.size w (wz.alloc (.cells #[.int .u16 x,.int .u32 y] 25)):=hb.alloc hb.size _
     have hS1':=hS.alloc (.cells #[.int .u16 x,.int .u32 y] 25)
     by_cases h3:3≤L'.length
     ·have u1:decide ((L'.length:Int) ≥ 3)=true:=decide_eq_true (by omega)
      have u2:decide ((3:Int)≤(L'.length:Int))=true:=decide_eq_true (by omega)
      have u3:decide (3≤L'.length)=true:=decide_eq_true h3
      have hfin:keys L'=Xl ms (Yj ls):=by rw [hK.out,Jy _ (by omega)]
      have C1:=hid (QJ (w:=w) (cm:=0) (am:=none) (M:=0) hS1' hfin QQ.out.1 QQ.out.2.1 QQ.out.2.2)
      have HM1:=hid (hm.ext hB1)
      have HB1:=hid hB1
      clear hx hd hK hfin hlen h3 hS hb hB1 hm
      go_wp2_with (first
       | (go_at_call 261;(with_reducible refine (Jw _ _ _ _ hS1').mono ?_);rintro e w2 ⟨rfl,rfl⟩)
       | (go_at_call 262;(with_reducible refine C1.out.mono ?_);rintro e w3 ⟨v3,rfl,hown3,hb3⟩;obtain ⟨a3,c3,rfl,hr3,-⟩:=hown3.row)
       | (go_at_call 131;refine (Vv _ _ ms _ _ _ _ (by omega) (by have:=HSL.out;omega) (HM1.out.ext hb3) hr3).mono ?_;rintro e w4 ⟨v4,rfl,hown4,hb4⟩))
      go_ret
      have hB3:=HB1.out.trans (hb3.mono HB1.out.size)
      exact ⟨v4,rfl,by rw [HGOAL.out] at hown4;exact hown4.mono2 hB3.size,hB3.trans (hb4.mono hB3.size)⟩
     ·have u1:decide ((L'.length:Int) ≥ 3)=false:=decide_eq_false (by omega)
      have u2:decide ((3:Int)≤(L'.length:Int))=false:=decide_eq_false (by omega)
      have u3:decide (3≤L'.length)=false:=decide_eq_false h3
      have HK2:Hid (Xl ms (Yj ls)=Xl (ms.drop (k+1)) (keys (Gm (x,y) L'))):=hid (by
       rw [hK.out,hd]
       unfold Xf
       rw [if_neg (by omega),ED])
      have HB1:=hid hB1
      clear hx hd hK hlen h3 hS hb hB1 hm
      go_wp2_with (first
       | (go_at_call 261;(with_reducible refine (Jw _ _ _ _ hS1').mono ?_);rintro e w2 ⟨rfl,rfl⟩)
       | (go_at_call 238;(with_reducible refine (zaU _ _ _ _ _ _ hS1').mono ?_);rintro e w3 ⟨rfl,hS3,hm3⟩))
      go_roundw
      case rel=>exact ⟨k+1,_,by omega,by go_num,hS3,HK2,HB1.out.trans (hm3.below HB1.out.size (λj e=>by rw [e];exact hr))⟩
      case measure=>simp [intOf];omega
    ·have hK2:=hK.out
     rw [List.drop_eq_nil_of_le (by omega)] at hK2
     have hfin:keys L'=Xl ms (Yj ls):=hK2.symm
     have C1:=hid (QJ (w:=w) (cm:=0) (am:=none) (M:=0) hS hfin QQ.out.1 QQ.out.2.1 QQ.out.2.2)
     rename World=>wz
     have HM1:=hid (hm.ext hb)
     have HB1:=hid hb
     clear hK hK2 hfin hS hb hm
     go_wp2_with (first
      | (go_at_call 262;(with_reducible refine C1.out.mono ?_);rintro e w3 ⟨v3,rfl,hown3,hb3⟩;obtain ⟨a3,c3,rfl,hr3,-⟩:=hown3.row)
      | (go_at_call 131;refine (Vv _ _ ms _ _ _ _ (by omega) (by have:=HSL.out;omega) (HM1.out.ext hb3) hr3).mono ?_;rintro e w4 ⟨v4,rfl,hown4,hb4⟩))
     go_ret
     have hB3:=HB1.out.trans (hb3.mono HB1.out.size)
     exact ⟨v4,rfl,by rw [HGOAL.out] at hown4;exact hown4.mono2 hB3.size,hB3.trans (hb4.mono hB3.size)⟩
end Go.Proofs.YtcdpaflmofljaaaGreat
