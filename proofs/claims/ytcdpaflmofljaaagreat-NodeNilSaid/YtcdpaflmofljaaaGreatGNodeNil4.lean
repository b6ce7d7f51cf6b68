import Derived.Test.YtcdpaflmofljaaaGreatGNodeNil3
import Derived.Defers
/- Parts of the proof of NodeNil: X10 X11 X12 X16 X18 X32 X34. -/
namespace Go.Proofs.YtcdpaflmofljaaaGreat
open Go.RowKit
theorem Zb.mutT {G:Nat→Prop} {w w':World} {a:Option Addr} {l:List Pid} (h:Zb w a l) (hm:Mut G w w') (hne:∀b off,a=some ⟨b,off,none⟩→l≠[]→¬ G b):Zb w' a l:=by
 rcases h with rfl | ⟨b,off,rfl,hlt,hc⟩
 ·exact .inl rfl
 ·by_cases hl:l=[]
  ·exact .inl hl
  ·have hb:=hm.block b hlt (hne b off rfl hl)
   exact .inr ⟨b,off,rfl,by have:=hm.size;omega,λi hi=>⟨(World.cell?_of_block (w:=w) hb).trans (hc i hi).1,(World.cell?_of_block (w:=w) hb).trans (hc i hi).2⟩⟩
theorem VU.trans {w w1 w1' w2:World} {s:Nat} {v1 v2:Value} {b1 b2:List Nat} (h:VU w w1 s v1 b1) (hb:Below w1.heap.size w1 w1') (h2:VU w1' w2 s v2 b2):VU w w2 s v2 b2 :=
 ⟨h2.wr,h2.own.mono (Nat.le_trans h.mt.size hb.size),(h.mt.trans (Mut.of_below hb)).trans h2.mt⟩
theorem pidF_nat (x y:Nat):zaC ((x:Int),(y:Int))=ZW x ++ ZW y:=by simp [zaC]
theorem pidF_len {p:Pid} (h:okP p):(zaC p).length≤20:=by
 have h1:=ZT (n:=p.1.toNat) (by have:=h.2.1;have:=h.1;omega)
 have h2:=ZT (n:=p.2.toNat) (by have:=h.2.2.2;omega)
 unfold zaC;rw [List.length_append];omega
theorem XL:∀{l:List Pid},(∀p∈l,okP p)→(l.flatMap zaC).length≤l.length * 20
 | [],_=>by simp
 | p :: l,h=>by
  have h1:=pidF_len (h p (List.mem_cons_self ..))
  have h2:=XL (l:=l) (λq hq=>h q (List.mem_cons_of_mem _ hq))
  rw [List.flatMap_cons,List.length_append,List.length_cons];omega
theorem zdV {l:List Pid} {k:Nat} (h:k<l.length) {p:Pid} (hp:p=l[k]):(l.take (k+1)).flatMap zaC=(l.take k).flatMap zaC ++ zaC p:=by
 rw [List.take_succ_eq_append_getElem h,List.flatMap_append,hp];simp
theorem nat_pid {x y:Int} (h:okP (x,y)):∃x' y':Nat,x=(x':Int)∧y=(y':Int)∧x'<65536∧y'<4294967296:=by
 obtain ⟨h1,h2,h3,h4⟩:=h
 exact ⟨x.toNat,y.toNat,by simp at *;omega,by simp at *;omega,by simp at *;omega,by simp at *;omega⟩
set_option maxRecDepth 100000 in
set_option maxHeartbeats 1600000 in
theorem zey {s:Nat} {v:Value} {bs:List Nat} {a:Option Addr} {c n:Nat} {l:List Pid} {w:World} (hW:FJ w s v bs) (hl:bs.length≤34359738368) (hn:Hid (l.length=n)) (hnl:n≤1073741824) (hok:∀p∈l,okP p) (hrow:Zb w a l) (hne:∀b off,a=some ⟨b,off,none⟩→l≠[]→b≠s) :
  Calls Tryz.prog 207 #[.pointer (some ⟨s,0,none⟩),.slice a n c] w λe w'=>e=.returned (.tuple #[])∧∃v',VU w w' s v' (bs ++ zct l):=by
 have hln:=ZT (n:=n) (by omega)
 have C1:Hid (Calls Tryz.prog 206 #[.pointer (some ⟨s,0,none⟩),.int .u64 n] w λe w'=>e=.returned (.tuple #[])∧∃v',VU w w' s v' (bs ++ ZW n)):=hid (FA n hW (by omega) (by omega))
 have hs:=hW.lt
 have HOK:=hid hok
 have hfl:=XL hok
 have HROW:=hid hrow
 have HNE:=hid hne
 obtain ⟨B,hB⟩:∃B,bs ++ ZW n=B:=⟨_,rfl⟩
 have hBl:B.length≤34359738378:=by rw [←hB,List.length_append];omega
 have HE:Hid (bs ++ zct l=B ++ l.flatMap zaC):=hid (by unfold zct;rw [hn.out,← hB,List.append_assoc])
 rw [hB] at C1
 clear hok hrow hne hB
 go_enter Tryz.func207,Tryz.ntmps207
 go_wp2_with (go_at_call 206;refine C1.out.mono ?_;rintro e w1 ⟨rfl,v1,hw1⟩)
 have HW1:=hid hw1
 clear hw1
 go_loopw [13] (λi wr=>∃(k:Nat) (vk:Value),k≤n∧i=.int .i64 k∧Hid (VU w wr s vk (B ++ (l.take k).flatMap zaC))) (λi _=>n - (intOf i).toNat)
 case atStart=>exact ⟨0,v1,Nat.zero_le _,rfl,hid (by simpa using HW1.out)⟩
 case round =>
  obtain ⟨k,vk,hk,rfl,hWk⟩:=hrel
  by_cases hlt:k<n
  ·have hlt':decide (k<n)=true:=by simpa using hlt
   have hkl:k<l.length:=by rw [hn.out];exact hlt
   obtain ⟨pb,po,x,y,rfl,hx,d1,d2⟩:=(HROW.out.mutT hWk.out.mt (λb off h1 h2=>HNE.out b off h1 h2)).at (Below.refl _ _) rfl hkl
   obtain ⟨x',y',rfl,rfl,hx',hy'⟩:=nat_pid (show okP (x,y) by rw [hx];exact HOK.out _ (List.getElem_mem _))
   have HT:Hid (B ++ (l.take (k+1)).flatMap zaC=(B ++ (l.take k).flatMap zaC) ++ (ZW x' ++ ZW y')):=hid (by rw [zdV hkl hx,pidF_nat];simp)
   have hlen:(B ++ (l.take k).flatMap zaC).length≤68719476736:=by
    have h1:((l.take k).flatMap zaC).length≤(l.take k).length * 20:=XL (λp hp=>HOK.out p (List.mem_of_mem_take hp))
    rw [List.length_take] at h1
    rw [List.length_append];omega
   have hq:Below wr.heap.size wr (wr.alloc (.cells #[.int .u16 x',.int .u32 y'] 25)):=bra
   have C2:Hid (Calls Tryz.prog 277 #[.pointer (some ⟨s,0,none⟩),.agg #[.int .u16 x',.int .u32 y']] (wr.alloc (.cells #[.int .u16 x',.int .u32 y'] 25)) λe w'=>e=.returned (.tuple #[])∧∃v',VU (wr.alloc (.cells #[.int .u16 x',.int .u32 y'] 25)) w' s v' (B ++ (l.take (k+1)).flatMap zaC)):=hid (by rw [HT.out];exact wPid_any x' y' (hWk.out.wr.ext hq) hlen hx' hy')
   clear hx hlen
   go_wp2_with (go_at_call 277;refine C2.out.mono ?_;rintro e w2 ⟨rfl,v2,hw2⟩;have hw3:=hid (hWk.out.trans hq hw2);clear hw2)
   go_roundw
   case rel=>exact ⟨k+1,v2,by omega,by go_num,hw3⟩
   case measure=>simp [intOf];omega
  ·have hlt':decide (k<n)=false:=by simpa using hlt
   have hend:=hWk.out
   rw [List.take_of_length_le (by rw [hn.out];omega),← HE.out] at hend
   have HEND:=hid hend
   clear hend
   go_wp2
   exact bodyPost_end (results_none rfl _ _ _) rfl ⟨rfl,_,HEND.out⟩
set_option maxRecDepth 100000 in
set_option maxHeartbeats 800000 in
theorem FX {s:Nat} {v:Value} {bs:List Nat} {w:World} (hW:FJ w s v bs) (hl:bs.length≤137438953472) :
  Calls Tryz.prog 208 #[.pointer (some ⟨s,0,none⟩)] w λe w'=>∃v',e=.returned v'∧Ys w' w.heap.size v' bs∧Below w.heap.size w w':=by
 obtain ⟨a,c,rfl,hrow,-⟩:=hW.own.row
 obtain ⟨n,hn⟩:∃n,bs.length=n:=⟨_,rfl⟩
 rw [hn] at hW hl
 have c0:=hW.c
 have HN:=hid hn
 clear hn
 go_enter Tryz.func208,Tryz.ntmps208
 go_wp2_with (go_at_call 87;refine (Xb HN (by omega) hrow).mono ?_;rintro e w1 ⟨v1,rfl,hown1,hb1⟩)
 go_ret
 exact ⟨_,rfl,hown1,hb1⟩
theorem Zg.setFar {w:World} {a:Option Addr} {bs:List Nat} {s i:Nat} {v:Value} (h:Zg w a bs) (hf:∀b off,a=some ⟨b,off,none⟩→bs≠[]→b<s):Zg (w.setCell ⟨s,i,none⟩ v) a bs:=by
 rcases h with rfl | ⟨b,off,rfl,hlt,hc⟩
 ·exact .inl rfl
 ·by_cases hl:bs=[]
  ·exact .inl hl
  ·have hb:b≠s:=Nat.ne_of_lt (hf b off rfl hl)
   exact .inr ⟨b,off,rfl,by simpa using hlt,λj hj=>by rw [World.cell?_setCell_far _ _ _ _ (by exact λe=>hb e.symm)];exact hc j hj⟩
theorem Xk {w:World} {s i:Nat} {v:Value}:Mut (λk=>k=s) w (w.setCell ⟨s,i,none⟩ v) :=
 ⟨rfl,rfl,rfl,by simp,λk _ hf=>Below.heap_setCell _ _ _ _ (by exact hf)⟩
theorem ZL {G:Nat→Prop} {w w':World} {p:Addr} {v:Value} (h:w.cell? p=some v) (hm:Mut G w w') (hG:¬ G p.block):w'.cell? p=some v :=
 (hm.cell (World.block_lt_of_cell? w _ h) hG).trans h
theorem Zy.mutT {G:Nat→Prop} {w w':World} {base:Nat} {v:Value} {xs:List Pid} (h:Zy w base v xs) (hm:Mut G w w') (hG:∀k,G k→k<base):Zy w' base v xs:=by
 refine ⟨h.1,?_⟩
 rcases h.2 with hn | ⟨g,cap,cur,rfl,hbb,hgg,rest⟩
 ·exact .inl hn
 ·exact .inr ⟨g,cap,cur,rfl,hbb,(hm.block g (Array.getElem?_eq_some_iff.1 hgg).1 (λhg=>by have:=hG g hg;omega)).trans hgg,rest⟩
theorem Mut.drew {G:Nat→Prop} {w0 w:World} (hm:Mut G w0 w):Mut G w0 w.drew:=hm.trans (Mut.of_below (Below.refl _ _).drew)
theorem Zy.mono2 {w:World} {b b':Nat} {v:Value} {xs:List Pid} (h:Zy w b v xs) (hb:b'≤b):Zy w b' v xs:=by
 refine ⟨h.1,?_⟩
 rcases h.2 with hn | ⟨g,cap,cur,rfl,hbb,rest⟩
 ·exact .inl hn
 ·exact .inr ⟨g,cap,cur,rfl,Nat.le_trans hb hbb,rest⟩
theorem zdb:(Tryz.prog.info? 26).map (λi=>(i.zero,i.size,i.bytes))=some (some (.slice none 0 0),1,24):=by kernel_rfl
theorem Zy.grownN {w w':World} {base:Nat} {v:Value} {xs:List Pid} {row:Option Nat} (h:Zy w base v xs) (hg:w.grownBy w' row) (hne:∀g,v.ownBlock=some g→row≠some g):Zy w' base v xs:=by
 refine ⟨h.1,?_⟩
 rcases h.2 with hn | ⟨g,cap,cur,rfl,hbb,hgg,rest⟩
 ·exact .inl hn
 ·exact .inr ⟨g,cap,cur,rfl,hbb,(hg.block g (Array.getElem?_eq_some_iff.1 hgg).1 (λe=>hne g rfl e.symm)).trans hgg,rest⟩
theorem Zy.mutN {G:Nat→Prop} {w w':World} {base:Nat} {v:Value} {xs:List Pid} (h:Zy w base v xs) (hm:Mut G w w') (hG:∀g,v.ownBlock=some g→¬ G g):Zy w' base v xs:=by
 refine ⟨h.1,?_⟩
 rcases h.2 with hn | ⟨g,cap,cur,rfl,hbb,hgg,rest⟩
 ·exact .inl hn
 ·exact .inr ⟨g,cap,cur,rfl,hbb,(hm.block g (Array.getElem?_eq_some_iff.1 hgg).1 (hG g rfl)).trans hgg,rest⟩
theorem Zy.blk {w:World} {base:Nat} {v:Value} {xs:List Pid} (h:Zy w base v xs) {g:Nat} (hg:v.ownBlock=some g):base≤g∧g<w.heap.size:=World.ownsRow.lt h g hg
def Xz (w:World) (base:Nat) (v:Value) (Ls:List (List Pid)):Prop :=
 ∃cells:List Value,w.ownsRow base 26 1 v Ls.length cells∧∀i (h:i<Ls.length),∃vi,cells[i]?=some vi∧Zy w base vi Ls[i]∧∀g,vi.ownBlock=some g→v.ownBlock≠some g
theorem Xz.nil (w:World) (base:Nat):Xz w base (.slice none 0 0) []:=⟨[],World.ownsRow_nil _ _ _ _,λi h=>by simp at h⟩
theorem Xz.ext {w w':World} {base:Nat} {v:Value} {Ls:List (List Pid)} (h:Xz w base v Ls) (hb:Below w.heap.size w w'):Xz w' base v Ls:=by
 obtain ⟨cells,ho,he⟩:=h
 refine ⟨cells,⟨ho.1,?_⟩,λi hi=>?_⟩
 ·rcases ho.2 with hn | ⟨g,cap,cur,rfl,hbb,hgg,rest⟩
  ·exact .inl hn
  ·exact .inr ⟨g,cap,cur,rfl,hbb,(hb.block g (Array.getElem?_eq_some_iff.1 hgg).1).trans hgg,rest⟩
 ·obtain ⟨vi,h1,h2,h3⟩:=he i hi
  exact ⟨vi,h1,h2.ext hb,h3⟩
theorem Xz.mutT {G:Nat→Prop} {w w':World} {base:Nat} {v:Value} {Ls:List (List Pid)} (h:Xz w base v Ls) (hm:Mut G w w') (hG:∀k,G k→k<base):Xz w' base v Ls:=by
 obtain ⟨cells,ho,he⟩:=h
 refine ⟨cells,⟨ho.1,?_⟩,λi hi=>?_⟩
 ·rcases ho.2 with hn | ⟨g,cap,cur,rfl,hbb,hgg,rest⟩
  ·exact .inl hn
  ·exact .inr ⟨g,cap,cur,rfl,hbb,(hm.block g (Array.getElem?_eq_some_iff.1 hgg).1 (λhg=>by have:=hG g hg;omega)).trans hgg,rest⟩
 ·obtain ⟨vi,h1,h2,h3⟩:=he i hi
  exact ⟨vi,h1,h2.mutT hm hG,h3⟩
theorem Xz.mono {w:World} {b b':Nat} {v:Value} {Ls:List (List Pid)} (h:Xz w b v Ls) (hb:b'≤b):Xz w b' v Ls:=by
 obtain ⟨cells,ho,he⟩:=h
 refine ⟨cells,⟨ho.1,?_⟩,λi hi=>?_⟩
 ·rcases ho.2 with hn | ⟨g,cap,cur,rfl,hbb,rest⟩
  ·exact .inl hn
  ·exact .inr ⟨g,cap,cur,rfl,by omega,rest⟩
 ·obtain ⟨vi,h1,h2,h3⟩:=he i hi
  exact ⟨vi,h1,h2.mono2 hb,h3⟩
theorem Xz.row {w:World} {base:Nat} {v:Value} {Ls:List (List Pid)} (h:Xz w base v Ls):∃a c,v=.slice a Ls.length c∧Zp w a Ls:=by
 obtain ⟨cells,ho,he⟩:=h
 have hcells:=λg=>World.ownsRow.cells (g:=g) ho
 rcases ho.2 with ⟨rfl,hn⟩ | ⟨g,cap,cur,rfl,hb,hg,hnc,hcm,hcs,htake⟩
 ·exact ⟨none,0,by rw [hn],.inl (List.length_eq_zero_iff.1 hn)⟩
 ·refine ⟨_,cap,rfl,.inr ⟨g,0,rfl,(Array.getElem?_eq_some_iff.1 hg).1,λi hi=>?_⟩⟩
  obtain ⟨vi,h1,h2,_⟩:=he i hi
  have:=hcells g rfl i _ h1
  rw [YN] at this
  obtain ⟨ai,ci,e,hr,_⟩:=h2.row
  exact ⟨ai,ci,by rw [this,e],hr⟩
theorem Xz.blk {w:World} {base:Nat} {v:Value} {Ls:List (List Pid)} (h:Xz w base v Ls) {g:Nat} (hg:v.ownBlock=some g):base≤g∧g<w.heap.size:=by
 obtain ⟨cells,ho,_⟩:=h
 exact World.ownsRow.lt ho g hg
theorem KN {w w':World} {base:Nat} {v:Value} {Ls:List (List Pid)} (hg:w.grownBy w' v.ownBlock) (hown:Xz w base v Ls):Mut (λk=>base≤k) w w' :=
 ⟨hg.os,hg.tape,hg.output,hg.size,λk hk hf=>hg.block k hk (λe=>hf (hown.blk e.symm).1)⟩
theorem zah {w:World} {base:Nat} {v vi:Value} {Ls:List (List Pid)} {l:List Pid} {b c:Nat} (hown:Xz w base v Ls) (h0:w.cell? ⟨b,0,none⟩=some vi) (hvi:Zy w base vi l) (hne:∀g,vi.ownBlock=some g→v.ownBlock≠some g)
  (hlen:Ls.length+1≤1099511627776) (hbase:base≤w.heap.size) (ty:TypeId) :
  ∃v' w',(Builtin.append_ #[33,33] ty #[v,.slice (some ⟨b,0,none⟩) 1 c]).run Tryz.prog w=.ok v' w'∧Xz w' base v' (Ls ++ [l])∧w.grownBy w' v.ownBlock:=by
 obtain ⟨i0,hi,hz0,hz1,hz2⟩:=info_parts zdb
 obtain ⟨cells,hoc,he⟩:=hown
 obtain ⟨ai,ci,e0,-,-⟩:=hvi.row
 obtain ⟨v',w',hrun,h2,h3,h4,h5⟩:=run_append_own_at (P:=Tryz.prog) w base 33 ty 26 i0 _ 1 24 Tryz.underlying33 hi hz0 hz1 hz2 rfl (by decide) v Ls.length cells hoc ⟨b,0,none⟩ 1 c [vi] rfl (λj u hu=>by
  have hj:j=0:=by have:=(List.getElem?_eq_some_iff.1 hu).1;simpa using this
  subst hj
  rw [YN]
  simp at hu;subst hu
  exact h0) (λu hu=>by simp at hu;subst hu;rw [e0];rfl) (by unfold maxLen;omega) (by omega) hbase
 have hcl:cells.length=Ls.length:=by simpa using hoc.1
 have far:∀(u:Value) (m:List Pid),Zy w base u m→(∀g,u.ownBlock=some g→v.ownBlock≠some g)→∀g,u.ownBlock=some g→v'.ownBlock≠some g:=by
  intro u m hm hno g hg
  rcases h5 with h5 | h5
  ·rw [h5];exact hno g hg
  ·rw [h5]
   have:=(hm.blk hg).2
   intro e2;simp at e2;omega
 refine ⟨v',w',hrun,⟨cells ++ [vi],?_,λi hi=>?_⟩,h3⟩
 ·rw [List.length_append];exact h2
 ·by_cases hlt:i<Ls.length
  ·obtain ⟨u,g1,g2,g3⟩:=he i hlt
   rw [List.getElem?_append_left (by omega),List.getElem_append_left hlt]
   exact ⟨u,g1,g2.grownN h3 g3,far u _ g2 g3⟩
  ·have hi':i=Ls.length:=by simp at hi;omega
   subst hi'
   rw [List.getElem?_append_right (by omega),List.getElem_append_right (by omega)]
   simp only [hcl,Nat.sub_self,List.getElem?_cons_zero,List.getElem_cons_zero]
   exact ⟨vi,rfl,hvi.grownN h3 hne,far vi l hvi hne⟩
theorem VB {w:World} {o:Oper} {a:Go.Act} {K:Go.Act→World→Prop} {Q:Exit→Go.Act→World→Prop} {y:Nat→Option Bool} {s x:Operand} {base:Nat} {v vi:Value} {Ls:List (List Pid)} {l:List Pid} {b c:Nat} (hw:Region.wanted o y=true) (hown:Xz w base v Ls) (h0:w.cell? ⟨b,0,none⟩=some vi) (hvi:Zy w base vi l)
  (hne:∀g,vi.ownBlock=some g→v.ownBlock≠some g) (hlen:Ls.length+1≤1099511627776) (hbase:base≤w.heap.size)
  (ho:o.op=.call { callee:=.builtin .append,args:=#[s,x],argTypes:=#[33,33] }) (hs:a.eval s=v) (hx:a.eval x=.slice (some ⟨b,0,none⟩) 1 c)
  (h:∀v' w',Xz w' base v' (Ls ++ [l])→w.grownBy w' v.ownBlock→K (a.put o.dst v') w'):if Region.wanted o y=true then Oper.wp Tryz.prog o a w K Q else K (a.put o.dst undef) w:=by
 rw [if_pos hw]
 obtain ⟨v',w',hr,h2,h3⟩:=zah hown h0 hvi hne hlen hbase (c:=c) o.type
 exact Lib.wp_append_run w s x 33 33 ho _ _ hs hx v' w' hr (h v' w' h2 h3)
theorem Zo {w:World} {b q j:Nat} {x:Value} (hc:j≠q):(w.setCell ⟨b,q,none⟩ x).cell? ⟨b,j,none⟩=w.cell? ⟨b,j,none⟩ :=
 World.cell?_setCell_other _ _ _ _ (by intro e;injection e with e1 e2;exact hc e2.symm)
structure VQ (w:World) (b:Nat) (v0 v1 v2 v3:Value):Prop where
 c0:w.cell? ⟨b,0,none⟩=some v0
 c1:w.cell? ⟨b,1,none⟩=some v1
 c2:w.cell? ⟨b,2,none⟩=some v2
 c3:w.cell? ⟨b,3,none⟩=some v3
 f0:w.frozen? ⟨b,0,none⟩=false
 f1:w.frozen? ⟨b,1,none⟩=false
 f2:w.frozen? ⟨b,2,none⟩=false
 f3:w.frozen? ⟨b,3,none⟩=false
section
variable {w w':World} {b:Nat} {v0 v1 v2 v3:Value}
theorem VQ.lt (h:VQ w b v0 v1 v2 v3):b<w.heap.size:=World.block_lt_of_cell? w _ h.c0
theorem VQ.ext (h:VQ w b v0 v1 v2 v3) (hb:Below w.heap.size w w'):VQ w' b v0 v1 v2 v3 :=
 ⟨Zk h.c0 hb,Zk h.c1 hb,Zk h.c2 hb,Zk h.c3 hb,(hb.frozen (by exact h.lt)).trans h.f0,(hb.frozen (by exact h.lt)).trans h.f1,(hb.frozen (by exact h.lt)).trans h.f2,(hb.frozen (by exact h.lt)).trans h.f3⟩
theorem VQ.made (w:World) (t:TypeId) (v0 v1 v2 v3:Value):VQ (w.alloc (.cells #[v0,v1,v2,v3] t)) w.heap.size v0 v1 v2 v3:=⟨by simp,by simp,by simp,by simp,by simp,by simp,by simp,by simp⟩
theorem VQ.mutT {G:Nat→Prop} (h:VQ w b v0 v1 v2 v3) (hm:Mut G w w') (hG:¬ G b):VQ w' b v0 v1 v2 v3:=by
 have g:∀j,w'.frozen? ⟨b,j,none⟩=w.frozen? ⟨b,j,none⟩:=λj=>World.frozen?_of_block (w:=w) (a:=⟨b,j,none⟩) (hm.block b h.lt hG)
 exact ⟨ZL h.c0 hm hG,ZL h.c1 hm hG,ZL h.c2 hm hG,ZL h.c3 hm hG,(g 0).trans h.f0,(g 1).trans h.f1,(g 2).trans h.f2,(g 3).trans h.f3⟩
theorem VQ.set2 (h:VQ w b v0 v1 v2 v3) (u:Value):VQ (w.setCell ⟨b,2,none⟩ u) b v0 v1 u v3 :=
 ⟨by rw [Zo (by omega)];exact h.c0,by rw [Zo (by omega)];exact h.c1,World.cell?_setCell_same _ _ _ h.c2,by rw [Zo (by omega)];exact h.c3,by simp [h.f0],by simp [h.f1],by simp [h.f2],by simp [h.f3]⟩
theorem VQ.set3 (h:VQ w b v0 v1 v2 v3) (u:Value):VQ (w.setCell ⟨b,3,none⟩ u) b v0 v1 v2 u :=
 ⟨by rw [Zo (by omega)];exact h.c0,by rw [Zo (by omega)];exact h.c1,by rw [Zo (by omega)];exact h.c2,World.cell?_setCell_same _ _ _ h.c3,by simp [h.f0],by simp [h.f1],by simp [h.f2],by simp [h.f3]⟩
theorem VQ.put (h:VQ w b v0 v1 v2 v3) (u0 u1 u2 u3:Value):VQ ((((w.setCell ⟨b,0,none⟩ u0).setCell ⟨b,1,none⟩ u1).setCell ⟨b,2,none⟩ u2).setCell ⟨b,3,none⟩ u3) b u0 u1 u2 u3:=by
 obtain ⟨c0,c1,c2,c3,f0,f1,f2,f3⟩:=h
 refine ⟨?_,?_,?_,?_,by simp [f0],by simp [f1],by simp [f2],by simp [f3]⟩
 ·rw [Zo (by omega),Zo (by omega),Zo (by omega)];exact World.cell?_setCell_same _ _ _ c0
 ·rw [Zo (by omega),Zo (by omega)];exact World.cell?_setCell_same _ _ _ (by rw [Zo (by omega)];exact c1)
 ·rw [Zo (by omega)];exact World.cell?_setCell_same _ _ _ (by rw [Zo (by omega),Zo (by omega)];exact c2)
 ·exact World.cell?_setCell_same _ _ _ (by rw [Zo (by omega),Zo (by omega),Zo (by omega)];exact c3)
theorem mutV (w:World) (b:Nat) (u0 u1 u2 u3:Value):Mut (λk=>k=b) w ((((w.setCell ⟨b,0,none⟩ u0).setCell ⟨b,1,none⟩ u1).setCell ⟨b,2,none⟩ u2).setCell ⟨b,3,none⟩ u3) :=
 ((Xk.trans Xk).trans Xk).trans Xk
end
theorem Zb.nilA {w:World} {xs:List Pid} (h:Zb w none xs):xs=[]:=by
 rcases h with h | ⟨b,off,h,_⟩
 ·exact h
 ·cases h
set_option maxRecDepth 100000 in
set_option maxHeartbeats 800000 in
theorem Jb {a:Option Addr} {c:Nat} {xs:List Pid} {w:World} (hn:xs.length≤549755813888) (hrow:Zb w a xs) :
  Calls Tryz.prog 86 #[.slice a xs.length c] w λe w'=>∃v,e=.returned v∧Zy w' w.heap.size v xs∧Below w.heap.size w w':=by
 cases a with
 | none =>
  have hx:=hrow.nilA
  subst hx
  have hnil:∀W,(binOp .eql 26 (.slice none 0 c) (.slice none 0 0)).run Tryz.prog W=.ok (.bool true) W:=λW=>Lib.run_eql_slice_nil W 26 25 none 0 c 0 0 Tryz.underlying26
  go_enter Tryz.func86,Tryz.ntmps86
  go_wp2
  go_ret
  exact ⟨_,rfl,Zy.nil _ _,Below.refl _ _⟩
 | some a =>
  have hnil:∀W,(binOp .eql 26 (.slice (some a) xs.length c) (.slice none 0 0)).run Tryz.prog W=.ok (.bool false) W:=λW=>Lib.run_eql_slice_nil W 26 25 (some a) xs.length c 0 0 Tryz.underlying26
  have hown:Zy (w.alloc (.cells #[] 25)) w.heap.size (.slice (some ⟨w.heap.size,0,none⟩) 0 0) []:=World.ownsRow_made (w:=w) #[] 0 (Nat.le_refl _) (by unfold maxLen;omega) (by simp)
  have hB:Below w.heap.size w (w.alloc (.cells #[] 25)):=bra
  have hr1:=hrow.ext hB
  go_enter Tryz.func86,Tryz.ntmps86
  go_wp2_with (at_builtin;refine ZQ hown hr1 ?cb ?cz rfl rfl rfl rfl ?_;rotate_right;intro v4 w4 hown4 hg4 hnil4)
  case cb=>simp;omega
  case cz=>simp
  go_ret
  exact ⟨v4,rfl,hown4,hB.grown hg4 hB.size (λg hg=>(World.ownsRow.lt hown g hg).1)⟩
theorem Qe {a:Option Addr} {c n:Nat} {xs:List Pid} {w:World} (hn:Hid (xs.length=n)) (hl:n≤549755813888) (hrow:Zb w a xs) :
  Calls Tryz.prog 86 #[.slice a n c] w λe w'=>∃v,e=.returned v∧Zy w' w.heap.size v xs∧Below w.heap.size w w':=by
 have hn:=hn.out;subst hn
 exact Jb hl hrow
end Go.Proofs.YtcdpaflmofljaaaGreat
