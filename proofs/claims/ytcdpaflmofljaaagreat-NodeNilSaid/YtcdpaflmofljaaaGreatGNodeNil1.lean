import Derived.Test.YtcdpaflmofljaaaGreatGNodeNil0
import Derived.Lib.EndianBits
import Derived.Lib.Bytes
/- Parts of the proof of NodeNil: R2 X5 X9 FA FB FC NA R4 R5 P1 L2 S1 X19 X20 X6 X21 X22. -/
namespace Go.Proofs.YtcdpaflmofljaaaGreat
open Go.RowKit
def zb6 (p q:Pid):Bool:=decide (q.1=p.1)
def refA (K:Bool) (ms:List Pid) (i:Nat):List Pid→Bool
 | []=>K
 | p :: r=>if mayR p then (if (ms.take i).any (zb6 p) then false else refA K ms (i+1) r) else false
def refB (K:Bool) (fl:List Pid):List Pid→Bool
 | []=>K
 | p :: r=>if fl.count p=1 then refB K fl r else false
def refC (ms:List Pid) (K:List Pid→Bool):List Pid→List (List Pid)→Bool
 | F,[]=>K F
 | F,l :: r=>match l with
  | []=>false
  | p :: _=>if zc4 ms l then refC ms K (F ++ [p]) r else false
def refG (V:Zs):Bool :=
 decide (1≤V.id) && (decide (V.id≤4611686018427387904) && (decide (1≤V.ms.length) && (decide (V.ms.length≤24) && (decide (V.ls.length≤V.ms.length) && (decide (1≤V.ds.length) && decide (V.ds.length≤V.ms.length))))))
def zds (V:Zs):Bool:=refC V.ms (λF=>zc4 V.ms F && zc4 V.ms V.ds) [] V.ls
def Vu (V:Zs):Bool:=refG V && refA (refB (zds V) V.ls.flatten V.ms) V.ms 0 V.ms
section
variable {w:World} {b:Nat} {V:Zs} {am al ad:Option Addr} {cm cl cd:Nat}
end
theorem Za {w:World} {a:Addr} {v:Value} (h:w.cell? a=some v):∀U:YB w,U.W.cell? a=some v:=λU=>(U.h.cell (World.block_lt_of_cell? w _ h)).trans h
theorem ZG {w wr:World} {a:Addr} {v:Value} (h:w.cell? a=some v) (hb:Below w.heap.size w wr):wr.cell? a=some v:=(hb.cell (World.block_lt_of_cell? w _ h)).trans h
def zct (l:List Pid):List Nat:=ZW l.length ++ l.flatMap zaC
def ZS:Zs:=⟨0,[],[],[]⟩
theorem Zg.nilA {w:World} {bs:List Nat} (h:Zg w none bs):bs=[]:=by
 rcases h with h | ⟨b,off,h,_⟩
 ·exact h
 ·cases h
set_option maxRecDepth 100000 in
set_option maxHeartbeats 800000 in
theorem Xb {a:Option Addr} {c n:Nat} {bs:List Nat} {w:World} (hn:Hid (bs.length=n)) (hl:n≤549755813888) (hrow:Zg w a bs) :
  Calls Tryz.prog 87 #[.slice a n c] w λe w'=>∃v,e=.returned v∧Ys w' w.heap.size v bs∧Below w.heap.size w w':=by
 cases a with
 | none =>
  have hx:=hrow.nilA
  subst hx
  have hn0:n=0:=hn.out.symm
  subst hn0
  have hnil:∀W,(binOp .eql 46 (.slice none 0 c) (.slice none 0 0)).run Tryz.prog W=.ok (.bool true) W:=λW=>Lib.run_eql_slice_nil W 46 5 none 0 c 0 0 Tryz.underlying46
  go_enter Tryz.func87,Tryz.ntmps87
  go_wp2
  go_ret
  exact ⟨_,rfl,Ys.nil _ _,Below.refl _ _⟩
 | some a =>
  have hnil:∀W,(binOp .eql 46 (.slice (some a) n c) (.slice none 0 0)).run Tryz.prog W=.ok (.bool false) W:=λW=>Lib.run_eql_slice_nil W 46 5 (some a) n c 0 0 Tryz.underlying46
  have hown:Ys (w.alloc (.cells #[] 5)) w.heap.size (.slice (some ⟨w.heap.size,0,none⟩) 0 0) []:=World.ownsRow_made (w:=w) #[] 0 (Nat.le_refl _) (by unfold maxLen;omega) (by simp)
  have hB:Below w.heap.size w (w.alloc (.cells #[] 5)):=bra
  have hr1:=hrow.ext hB
  go_enter Tryz.func87,Tryz.ntmps87
  go_wp2_with (at_builtin;refine Xt hown hr1 hn ?cb ?cz rfl rfl rfl rfl ?_;rotate_right;intro v4 w4 hown4 hg4 hat4)
  case cb=>simp;omega
  case cz=>simp
  go_ret
  exact ⟨v4,rfl,by simpa using hown4,Vm hB hg4 hown hB.size (Nat.le_refl _)⟩
theorem Ys.cap {w:World} {base:Nat} {v:Value} {bs:List Nat} (h:Ys w base v bs):∀a n c,v=.slice a n c→bs.length≤c:=by
 intro a n c e
 rcases h.2 with ⟨rfl,hn⟩ | ⟨g,cap,cur,rfl,hb,hg,hnc,_⟩
 ·cases e;omega
 ·cases e;exact hnc
structure FJ (w:World) (s:Nat) (v:Value) (bs:List Nat):Prop where
 c:w.cell? ⟨s,0,none⟩=some v
 f:w.frozen? ⟨s,0,none⟩=false
 own:Ys w (s+1) v bs
theorem FJ.lt {w:World} {s:Nat} {v:Value} {bs:List Nat} (h:FJ w s v bs):s<w.heap.size:=World.block_lt_of_cell? w _ h.c
theorem FJ.ext {w w':World} {s:Nat} {v:Value} {bs:List Nat} (h:FJ w s v bs) (hb:Below w.heap.size w w'):FJ w' s v bs :=
 ⟨Zk h.c hb,(hb.frozen (by exact h.lt)).trans h.f,h.own.ext hb⟩
theorem FJ.made (w:World) (t:TypeId):FJ (w.alloc (.cells #[.slice none 0 0] t)) w.heap.size (.slice none 0 0) []:=⟨by simp,by simp,Ys.nil _ _⟩
structure VU (w w':World) (s:Nat) (v':Value) (bs:List Nat):Prop where
 wr:FJ w' s v' bs
 own:Ys w' w.heap.size v' bs
 mt:Mut (λk=>k=s) w w'
theorem mut_put {w w1:World} {s:Nat} {v:Value} (hb:Below w.heap.size w w1):Mut (λk=>k=s) w (w1.setCell ⟨s,0,none⟩ v) :=
 (Mut.of_below hb).trans ⟨rfl,rfl,rfl,by simp,λk _ hf=>Below.heap_setCell _ _ _ _ (by exact hf)⟩
theorem FZ {w w1:World} {s:Nat} {v v1:Value} {bs bs1:List Nat} (h:FJ w s v bs) (hb:Below w.heap.size w w1) (hown:Ys w1 w.heap.size v1 bs1):VU w (w1.setCell ⟨s,0,none⟩ v1) s v1 bs1:=by
 have h1:=h.ext hb
 have hs:=h.lt
 have ho:Ys (w1.setCell ⟨s,0,none⟩ v1) w.heap.size v1 bs1:=hown.butT (t:=s) (λk hk=>Below.heap_setCell _ _ _ _ hk) (λe=>by have:=(World.ownsRow.lt hown s e.symm).1;omega)
 exact ⟨⟨World.cell?_setCell_same _ _ _ h1.c,by simp [h1.f],ho.mono (by omega)⟩,ho,mut_put hb⟩
theorem Zg.mutT {G:Nat→Prop} {w w':World} {a:Option Addr} {bs:List Nat} (h:Zg w a bs) (hm:Mut G w w') (hne:∀b off,a=some ⟨b,off,none⟩→bs≠[]→¬ G b):Zg w' a bs:=by
 rcases h with rfl | ⟨b,off,rfl,hlt,hc⟩
 ·exact .inl rfl
 ·by_cases hl:bs=[]
  ·exact .inl hl
  ·have hb:=hm.block b hlt (hne b off rfl hl)
   exact .inr ⟨b,off,rfl,by have:=hm.size;omega,λi hi=>(World.cell?_of_block (w:=w) hb).trans (hc i hi)⟩
theorem zck {w w1 w2:World} {s:Nat} {v1 v2:Value} {bs1 bs2:List Nat} (h:VU w w1 s v1 bs1) (hs:s<w.heap.size) (hg:w1.grownBy w2 v1.ownBlock) (hown:Ys w2 w.heap.size v2 bs2):VU w (w2.setCell ⟨s,0,none⟩ v2) s v2 bs2:=by
 have hs1:=h.wr.lt
 have hsb:w2.heap[s]?=w1.heap[s]?:=hg.block s hs1 (λe=>by have:=(World.ownsRow.lt h.own s e.symm).1;omega)
 have c2:w2.cell? ⟨s,0,none⟩=some v1:=(World.cell?_of_block (w:=w1) (a:=⟨s,0,none⟩) hsb).trans h.wr.c
 have f2:w2.frozen? ⟨s,0,none⟩=false:=(World.frozen?_of_block (w:=w1) (a:=⟨s,0,none⟩) hsb).trans h.wr.f
 have ho:Ys (w2.setCell ⟨s,0,none⟩ v2) w.heap.size v2 bs2:=hown.butT (t:=s) (λk hk=>Below.heap_setCell _ _ _ _ hk) (λe=>by have:=(World.ownsRow.lt hown s e.symm).1;omega)
 refine ⟨⟨World.cell?_setCell_same _ _ _ c2,by simp [f2],ho.mono (by omega)⟩,ho,?_⟩
 refine ⟨hg.os.trans h.mt.os,hg.tape.trans h.mt.tape,hg.output.trans h.mt.output,by have:=hg.size;have:=h.mt.size;simp;omega,λk hk hf=>?_⟩
 rw [Below.heap_setCell _ _ _ _ (by exact hf),hg.block k (by have:=h.mt.size;omega) (λe=>by have:=(World.ownsRow.lt h.own k e.symm).1;omega),h.mt.block k hk hf]
set_option maxRecDepth 100000 in
set_option maxHeartbeats 1600000 in
theorem FA {s:Nat} {v:Value} {bs:List Nat} {w:World} (m:Nat) (hW:FJ w s v bs) (hl:bs.length≤137438953472) (hm:m<18446744073709551616) :
  Calls Tryz.prog 206 #[.pointer (some ⟨s,0,none⟩),.int .u64 m] w λe w'=>e=.returned (.tuple #[])∧∃v',VU w w' s v' (bs ++ ZW m):=by
 obtain ⟨a,c,rfl,hrow,-⟩:=hW.own.row
 obtain ⟨n,hn⟩:∃n,bs.length=n:=⟨_,rfl⟩
 rw [hn] at hW hl
 have HW:=hid hW
 have c0:=hW.c
 have HN:=hid hn
 obtain ⟨F,hF⟩:∃F,bs ++ ZW m=F:=⟨_,rfl⟩
 rw [hF]
 have HF:=hid hF
 clear hn hW hF
 go_enter Tryz.func206,Tryz.ntmps206
 go_wp2_with (go_at_call 116;refine (QI HF HN (by omega) hm hrow).mono ?_;rintro e w1 ⟨a1,k1,rfl,hown1,-,hb1⟩;have c1:=Zk c0 hb1;have f1:=(HW.out.ext hb1).f)
 exact bodyPost_end (results_none rfl _ _ _) rfl ⟨rfl,_,FZ HW.out hb1 hown1⟩
theorem zda {a:Option Addr} {c n:Nat} {bs F:List Nat} {w:World} {x y:Nat} (hF:Hid (bs ++ (ZW x ++ ZW y)=F)) (hn:Hid (bs.length=n)) (hl:n≤137438953472) (hx:x<65536) (hy:y<4294967296) (hrow:Zg w a bs) :
  Calls Tryz.prog 117 #[.slice a n c,.agg #[.int .u16 x,.int .u32 y]] w λe w'=>∃v,e=.returned v∧Ys w' w.heap.size v F∧Below w.heap.size w w':=by
 have:=zc1 (c:=c) x y hn hl hx hy hrow
 rw [hF.out] at this;exact this
set_option maxRecDepth 100000 in
set_option maxHeartbeats 3200000 in
theorem wPid_any {s:Nat} {v:Value} {bs:List Nat} {w:World} (x y:Nat) (hW:FJ w s v bs) (hl:bs.length≤68719476736) (hx:x<65536) (hy:y<4294967296) :
  Calls Tryz.prog 277 #[.pointer (some ⟨s,0,none⟩),.agg #[.int .u16 x,.int .u32 y]] w λe w'=>e=.returned (.tuple #[])∧∃v',VU w w' s v' (bs ++ (ZW x ++ ZW y)):=by
 have hB:Below w.heap.size w (w.alloc (.cells #[.int .u16 x,.int .u32 y] 25)):=bra
 have hW1:=hW.ext hB
 obtain ⟨F,hF⟩:∃F,bs ++ (ZW x ++ ZW y)=F:=⟨_,rfl⟩
 rw [hF]
 have HF:=hid hF
 obtain ⟨a,c,rfl,hrow,-⟩:=hW1.own.row
 obtain ⟨n,hn⟩:∃n,bs.length=n:=⟨_,rfl⟩
 rw [hn] at hW hW1 hl
 have HW:=hid hW
 have HN:=hid hn
 have c0:=hW1.c
 have hc0:(w.alloc (.cells #[.int .u16 x,.int .u32 y] 25)).cell? ⟨w.heap.size,0,none⟩=some (.int .u16 x):=by simp
 have hc1:(w.alloc (.cells #[.int .u16 x,.int .u32 y] 25)).cell? ⟨w.heap.size,1,none⟩=some (.int .u32 y):=by simp
 obtain ⟨w1,hw1⟩:∃w1,w.alloc (.cells #[.int .u16 x,.int .u32 y] 25)=w1:=⟨_,rfl⟩
 rw [hw1] at hB hW1 hrow c0 hc0 hc1
 have H0:Below w1.heap.size w1 w1.drew:=(Below.refl _ _).drew
 have d0:=Zk c0 H0
 have d1:=Zk hc0 H0
 have d2:=Zk hc1 H0
 have HW1:=hid hW1
 have C1:Hid (∀W,Below w1.heap.size w1 W→Calls Tryz.prog 117 #[.slice a n c,.agg #[.int .u16 x,.int .u32 y]] W λe w'=>∃v,e=.returned v∧Ys w' w1.heap.size v F∧Below w1.heap.size w1 w'):=hid λW h=>((zda HF HN (by omega) hx hy (hrow.ext h)).mono λe w' ⟨v,h1,h3,h4⟩=>⟨v,h1,h3.mono h.size,h.trans (h4.mono h.size)⟩)
 clear hn hF hW hW1 c0 hc0 hc1 hrow
 go_enter Tryz.func277,Tryz.ntmps277
 go_wp2
 go_region_with ((go_at_call 117;(with_reducible refine (C1.out _ (by exact H0)).mono ?_);rintro e w11 ⟨v11,rfl,hown11,hb11⟩;obtain ⟨a11,k11,he11,-,-⟩:=hown11.row;subst he11;have c1:=(HW1.out.ext hb11).c;have f1:=(HW1.out.ext hb11).f))
 all_goals (
  go_wp2
  exact bodyPost_end (results_none rfl _ _ _) rfl ⟨rfl,_,FZ HW.out (hB.trans (hb11.mono hB.size)) (hown11.mono hB.size)⟩)
set_option maxRecDepth 100000 in
set_option maxHeartbeats 1600000 in
theorem zcT {s:Nat} {v:Value} {bs:List Nat} {a:Option Addr} {c n:Nat} {ds:List Nat} {w:World} (hW:FJ w s v bs) (hl:bs.length≤68719476736) (hn:Hid (ds.length=n)) (hdl:n≤68719476736) (hrow:Zg w a ds) (hne:∀b off,a=some ⟨b,off,none⟩→ds≠[]→b≠s) :
  Calls Tryz.prog 263 #[.pointer (some ⟨s,0,none⟩),.slice a n c] w λe w'=>e=.returned (.tuple #[])∧∃v',VU w w' s v' (bs ++ (ZW n ++ ds)):=by
 have hln:=ZT (n:=n) (by omega)
 obtain ⟨F,hF⟩:∃F,bs ++ ZW n=F:=⟨_,rfl⟩
 have hFl:F.length≤68719476736+10:=by rw [←hF,List.length_append];omega
 obtain ⟨E,hE⟩:∃E,F ++ ds=E:=⟨_,rfl⟩
 have HF2:Hid (bs ++ (ZW n ++ ds)=E):=hid (by rw [←hE,← hF,List.append_assoc])
 have HE:=hid hE
 have C1:Hid (Calls Tryz.prog 206 #[.pointer (some ⟨s,0,none⟩),.int .u64 n] w λe w'=>e=.returned (.tuple #[])∧∃v',VU w w' s v' F):=hid (by rw [←hF];exact FA n hW (by omega) (by omega))
 have hs:=hW.lt
 clear hF hE
 go_enter Tryz.func263,Tryz.ntmps263
 go_wp2_with (first
  | (go_at_call 206;refine C1.out.mono ?_;rintro e w1 ⟨rfl,v1,hw1⟩;obtain ⟨a1,k1,he1,-,-⟩:=hw1.own.row;subst he1;have c1:=hw1.wr.c;have hr1:=hrow.mutT hw1.mt (λb off h1 h2=>hne b off h1 h2);have HR1:=hid hr1;clear hr1)
  | (at_builtin;refine Xt hw1.own HR1.out hn (by omega) (by have:=hw1.mt.size;omega) rfl rfl rfl rfl ?_;intro v2 w2 hown2 hg2 hat2;rw [HE.out] at hown2;obtain ⟨a2,k2,he2,-,-⟩:=hown2.row;subst he2;have hz:=zck hw1 hs hg2 hown2;have hsb:w2.heap[s]?=w1.heap[s]?:=hg2.block s hw1.wr.lt (λe=>by have:=(World.ownsRow.lt hw1.own s e.symm).1;omega);have c2:=(World.cell?_of_block (w:=w1) (a:=⟨s,0,none⟩) hsb).trans c1;have f2:w2.frozen? ⟨s,0,none⟩=false:=(World.frozen?_of_block (w:=w1) (a:=⟨s,0,none⟩) hsb).trans hw1.wr.f;have HZ:=hid hz;clear hz hsb))
 exact bodyPost_end (results_none rfl _ _ _) rfl ⟨rfl,_,by rw [HF2.out];exact HZ.out⟩
theorem wide4 (w:World):Calls Tryz.prog 216 #[.int .i64 4] w λe w'=>e=.returned (.bool true)∧w'=w:=by
 go_enter Tryz.func216,Tryz.ntmps216
 go_wp2_with fail
 go_ret
 exact ⟨rfl,rfl⟩
theorem Qi {z b:Nat} (hz:z<16777216) (hb:b<256):bits .or .u64 ((z:Int) * 256) (b:Int)=((z * 256+b:Nat):Int):=by
 rw [bits_join .u64 64 (by decide) wraps_u64 8 ((z:Int) * 256) (b:Int) (by omega) (by omega) (by omega) (by omega) (by omega) (by omega),Int.natCast_add,Int.natCast_mul]
 rfl
set_option maxRecDepth 100000 in
set_option maxHeartbeats 1600000 in
theorem Fk {a:Option Addr} {c n:Nat} {bs:List Nat} {w:World} (hn:bs.length=n) (hnc:n≤c) (hby:∀b∈bs,b<256) (hrow:Zg w a bs) :
  Calls Tryz.prog 120 #[.slice a n c,.int .i64 4] w λe w'=>(∃v:Nat,v<4294967296∧e=.returned (.tuple #[.int .u64 v,.int .i64 (if n<4 then 2 else 0)]))∧w'=w:=by
 by_cases h4:n<4
 ·have t0:decide ((n:Int)<4)=true:=decide_eq_true (by omega)
  have HI:Hid ((if n<4 then (2:Int) else 0)=2):=hid (if_pos h4)
  rw [HI.out]
  clear hn hnc hrow hby
  go_enter Tryz.func120,Tryz.ntmps120
  go_wp2_with (go_at_call 216;refine (wide4 _).mono ?_;rintro e w2 ⟨rfl,rfl⟩)
  exact bodyPost_ret (v:=.tuple #[_,_]) (by simp [results,Tryz.results120,go_sem]) rfl ⟨⟨0,by decide,rfl⟩,rfl⟩
 ·have t0:decide ((n:Int)<4)=false:=decide_eq_false (by omega)
  have HI:Hid ((if n<4 then (2:Int) else 0)=0):=hid (if_neg h4)
  rw [HI.out]
  rcases hrow with hr | ⟨g,off,rfl,hlt,hcell⟩
  ·subst hr;simp at hn;omega
  have hc4:4≤c:=by omega
  have d0:=hcell 0 (by omega)
  have d1:=hcell 1 (by omega)
  have d2:=hcell 2 (by omega)
  have d3:=hcell 3 (by omega)
  obtain ⟨z0,hz0⟩:∃z:Nat,(bs[0]'(by omega):Nat)=z:=⟨_,rfl⟩
  have hb0:z0<256:=by rw [←hz0];exact hby _ (List.getElem_mem _)
  obtain ⟨z1,hz1⟩:∃z:Nat,(bs[1]'(by omega):Nat)=z:=⟨_,rfl⟩
  have hb1:z1<256:=by rw [←hz1];exact hby _ (List.getElem_mem _)
  obtain ⟨z2,hz2⟩:∃z:Nat,(bs[2]'(by omega):Nat)=z:=⟨_,rfl⟩
  have hb2:z2<256:=by rw [←hz2];exact hby _ (List.getElem_mem _)
  obtain ⟨z3,hz3⟩:∃z:Nat,(bs[3]'(by omega):Nat)=z:=⟨_,rfl⟩
  have hb3:z3<256:=by rw [←hz3];exact hby _ (List.getElem_mem _)
  rw [hz0,Nat.add_zero] at d0
  rw [hz1] at d1
  rw [hz2] at d2
  rw [hz3] at d3
  clear hz0 hz1 hz2 hz3
  clear hcell hlt h4 hn hnc hby
  go_enter Tryz.func120,Tryz.ntmps120
  go_wp2_with (go_at_call 216;refine (wide4 _).mono ?_;rintro e w2 ⟨rfl,rfl⟩)
  go_loop [6,22] (λv i=>∃(k:Nat) (z:Nat),k≤4∧z<256 ^ k∧v=.int .u64 z∧i=.int .i64 k) (λ_ i=>4 - (intOf i).toNat)
  case atStart=>exact ⟨0,0,by decide,by decide,rfl,rfl⟩
  case round =>
   obtain ⟨k,z,hk,hz,rfl,rfl⟩:=hrel
   rcases (show k=0∨k=1∨k=2∨k=3∨k=4 by omega) with rfl | rfl | rfl | rfl | rfl
   ·go_wp2_with fail
    go_round
    case rel =>
     refine ⟨1,z * 256+z0,by decide,by omega,?_,by go_num⟩
     rw [Qi (by omega) hb0]
    case measure=>simp [intOf]
   ·go_wp2_with fail
    go_round
    case rel =>
     refine ⟨2,z * 256+z1,by decide,by omega,?_,by go_num⟩
     rw [Qi (by omega) hb1]
    case measure=>simp [intOf]
   ·go_wp2_with fail
    go_round
    case rel =>
     refine ⟨3,z * 256+z2,by decide,by omega,?_,by go_num⟩
     rw [Qi (by omega) hb2]
    case measure=>simp [intOf]
   ·go_wp2_with fail
    go_round
    case rel =>
     refine ⟨4,z * 256+z3,by decide,by omega,?_,by go_num⟩
     rw [Qi (by omega) hb3]
    case measure=>simp [intOf]
   ·go_wp2_with fail
    exact bodyPost_ret (v:=.tuple #[_,_]) (by simp [results,Tryz.results120,go_sem]) rfl ⟨⟨z,by omega,rfl⟩,rfl⟩
theorem zde {a:Option Addr} {n c k:Nat} (h:k≤c) (W:World):(Instr.slice 46 (.slice a n c) none (some (.int .i64 k)) none).run Tryz.prog W=.ok (.slice (if c=0 then a else a.map (·.add (0 * 1))) (k - 0) (c - 0)) W:=by
 have hs:∀W,(sizeOf 5).run Tryz.prog W=.ok 1 W:=λW=>Tryz.sizeOf5 W
 simp [Instr.slice,run_underlying Tryz.underlying46,Instr.sliceBounds,run_sliceBound,hs,Result.andThen,h]
theorem Zg.cutUpF {w:World} {a:Option Addr} {bs:List Nat} (h:Zg w a bs) (k c:Nat):Zg w (if c=0 then a else a.map (·.add (0 * 1))) (bs.take k):=by
 split
 ·exact h.upto k
 ·rcases h with rfl | ⟨b,off,rfl,hb,hc⟩
  ·exact .inl (by simp)
  ·have h2:Zg w (some ⟨b,off,none⟩) bs:=.inr ⟨b,off,rfl,hb,hc⟩
   have e:(some (⟨b,off,none⟩:Addr)).map (·.add (0 * 1))=some ⟨b,off,none⟩:=by simp [Xx]
   rw [e];exact h2.upto k
theorem crcBegin (w:World):Calls Tryz.prog 301 #[] w λe w'=>(∃y:Int,e=.returned (.int .u32 y))∧w'=w:=by
 go_enter Tryz.func301,Tryz.ntmps301
 go_wp2_with fail
 go_ret
 exact ⟨⟨_,rfl⟩,rfl⟩
theorem crcEnd (z:Int) (w:World):Calls Tryz.prog 303 #[.int .u32 z] w λe w'=>(∃y:Int,e=.returned (.int .u32 y))∧w'=w:=by
 go_enter Tryz.func303,Tryz.ntmps303
 go_wp2_with fail
 go_ret
 exact ⟨⟨_,rfl⟩,rfl⟩
set_option maxRecDepth 100000 in
set_option maxHeartbeats 1600000 in
theorem crcGo {a:Option Addr} {c n:Nat} {z:Int} {bs:List Nat} {w:World} (hn:Hid (bs.length=n)) (hl:n≤70368744177664) (hrow:Zg w a bs) :
  Calls Tryz.prog 302 #[.int .u32 z,.slice a n c] w λe w'=>(∃y:Int,e=.returned (.int .u32 y))∧w'=w:=by
 go_enter Tryz.func302,Tryz.ntmps302
 go_wp2_with fail
 go_loop [0,9] (λv i=>∃(k:Nat) (z:Int),k≤n∧v=.int .u32 z∧i=.int .i64 k) (λ_ i=>n - (intOf i).toNat)
 case atStart=>exact ⟨0,z,by omega,rfl,rfl⟩
 case round =>
  obtain ⟨k,z,hk,rfl,rfl⟩:=hrel
  by_cases hlt:k<n
  ·have hlt':decide ((k:Int)<(n:Int))=true:=decide_eq_true (by omega)
   have hkb:k<bs.length:=by rw [hn.out];exact hlt
   obtain ⟨pb,po,x,rfl,hx,d1⟩:=hrow.at (Below.refl _ _) rfl hkb
   clear hx
   go_wp2_with fail
   go_loop [0,17] (λv i=>∃(j:Nat) (z:Int),j≤8∧v=.int .u32 z∧i=.int .i64 j) (λ_ i=>8 - (intOf i).toNat)
   case atStart=>exact ⟨0,_,by decide,rfl,rfl⟩
   case round =>
    obtain ⟨j,y,hj,rfl,rfl⟩:=hrel
    by_cases hj8:j<8
    ·have hj':decide ((j:Int)<8)=true:=decide_eq_true (by omega)
     go_wp2_with fail
     go_round
     case rel=>exact ⟨j+1,_,by omega,rfl,by go_num⟩
     case measure=>simp [intOf];omega
    ·have hj':decide ((j:Int)<8)=false:=decide_eq_false (by omega)
     go_wp2_with fail
     go_round
     case rel=>exact ⟨k+1,_,by omega,rfl,by go_num⟩
     case measure=>simp [intOf];omega
  ·have hlt':decide ((k:Int)<(n:Int))=false:=decide_eq_false (by omega)
   go_wp2_with fail
   go_ret
   exact ⟨⟨_,rfl⟩,rfl⟩
set_option maxRecDepth 100000 in
set_option maxHeartbeats 1600000 in
theorem crcSum {a:Option Addr} {c n g:Nat} {bs:List Nat} {w:World} (hn:Hid (bs.length=n)) (hl:n≤70368744177664) (hrow:Zg w a bs) (hc:w.cell? ⟨g,0,none⟩=some (.slice a n c)) :
  Calls Tryz.prog 217 #[.slice (some ⟨g,0,none⟩) 1 1] w λe w'=>(∃y:Int,e=.returned (.int .u32 y))∧w'=w:=by
 have CG:Hid (∀z:Int,Calls Tryz.prog 302 #[.int .u32 z,.slice a n c] w λe w'=>(∃y:Int,e=.returned (.int .u32 y))∧w'=w):=hid λz=>crcGo hn hl hrow
 clear hrow hn
 go_enter Tryz.func217,Tryz.ntmps217
 go_wp2_with fail
 refine (crcBegin _).mono ?_
 rintro e w2 ⟨⟨y0,rfl⟩,rfl⟩
 go_wp2_with fail
 go_loop [3,9] (λv i=>∃(k:Nat) (z:Int),k≤1∧v=.int .u32 z∧i=.int .i64 k) (λ_ i=>1 - (intOf i).toNat)
 case atStart=>exact ⟨0,y0,by decide,rfl,rfl⟩
 case round =>
  obtain ⟨k,z,hk,rfl,rfl⟩:=hrel
  rcases (show k=0∨k=1 by omega) with rfl | rfl
  ·go_wp2_with fail
   refine (CG.out z).mono ?_
   rintro e w3 ⟨⟨y1,rfl⟩,rfl⟩
   go_wp2_with fail
   go_round
   case rel=>exact ⟨1,_,by decide,rfl,by go_num⟩
   case measure=>simp [intOf]
  ·go_wp2_with fail
   refine (crcEnd z _).mono ?_
   rintro e w3 ⟨⟨y1,rfl⟩,rfl⟩
   go_wp2_with fail
   go_ret
   exact ⟨⟨_,rfl⟩,rfl⟩
set_option maxRecDepth 100000 in
set_option maxHeartbeats 1600000 in
theorem crcOpen {a:Option Addr} {c m:Nat} {bs:List Nat} {w:World} (hn:Hid (bs.length=m+4)) (hl:m+4≤549755813888) (hnc:m+4≤c) (hby:∀b∈bs,b<256) (hrow:Zg w a bs) :
  Calls Tryz.prog 121 #[.slice a ((m+4:Nat)) c] w λe w'=>(∃(v:Value) (er:Int),e=.returned (.tuple #[v,.int .i64 er])∧((er≠0∧v=.slice none 0 0)∨(er=0∧Ys w' w.heap.size v (bs.take m))))∧Below w.heap.size w w':=by
 have hr1:=hrow.cut (k:=m) (c:=c) (by rw [hn.out];exact hnc)
 have hn1:(bs.drop m).length=4:=by rw [List.length_drop,hn.out];omega
 obtain ⟨A1,hA1⟩:∃A,(if c=m then a else a.map (·.add (m * 1)))=A:=⟨_,rfl⟩
 obtain ⟨c1,hc1⟩:∃z,c - m=z:=⟨_,rfl⟩
 have hrun:∀W,(Instr.slice 46 (.slice a (m+4) c) (some (.int .i64 m)) none none).run Tryz.prog W=.ok (.slice A1 4 c1) W:=λW=>by
  have h:=Vn (a:=a) (c:=c) (n:=m+4) (k:=m) (by omega) W
  rw [hA1,hc1,show m+4 - m=4 by omega] at h
  exact h
 rw [hA1] at hr1
 have CG:=hid (Fk (c:=c1) hn1 (by omega) (λb hb=>hby b (List.mem_of_mem_drop hb)) hr1)
 clear hby
 have hr2:=hrow.cutUpF m c
 obtain ⟨A2,hA2⟩:∃A,(if c=0 then a else a.map (·.add (0 * 1)))=A:=⟨_,rfl⟩
 rw [hA2] at hr2
 have hup:∀W,(Instr.slice 46 (.slice a (m+4) c) none (some (.int .i64 m)) none).run Tryz.prog W=.ok (.slice A2 m c) W:=λW=>by
  have h:=zde (a:=a) (n:=m+4) (c:=c) (k:=m) (by omega) W
  rw [hA2,Nat.sub_zero,Nat.sub_zero] at h
  exact h
 have hn2:Hid ((bs.take m).length=m):=hid (by rw [List.length_take,hn.out];omega)
 have CS:Hid (∀(W:World) g,Below w.heap.size w W→W.cell? ⟨g,0,none⟩=some (.slice A2 m c)→Calls Tryz.prog 217 #[.slice (some ⟨g,0,none⟩) 1 1] W λe w'=>(∃y:Int,e=.returned (.int .u32 y))∧w'=W):=hid λW g hb hc=>crcSum hn2 (by omega) (hr2.ext hb) hc
 have CC:Hid (∀(W:World),Below w.heap.size w W→Calls Tryz.prog 87 #[.slice A2 m c] W λe w'=>∃v,e=.returned v∧Ys w' w.heap.size v (bs.take m)∧Below w.heap.size w w'):=hid λW hb=>(Xb hn2 (by omega) (hr2.ext hb)).mono λe w' ⟨v,h1,h2,h3⟩=>⟨v,h1,h2.mono hb.size,hb.trans (h3.mono hb.size)⟩
 have t0:decide ((m:Int)<0)=false:=decide_eq_false (by omega)
 clear hn hn1 hA1 hc1 hr1 hr2 hA2 hnc hrow hn2
 go_enter Tryz.func121,Tryz.ntmps121
 go_wp2_with fail
 refine CG.out.mono ?_
 rintro e w2 ⟨⟨z,-,rfl⟩,rfl⟩
 clear CG
 go_wp2_with fail
 refine (CS.out _ _ (bra) (World.cell?_alloc_mark ..)).mono ?_
 rintro e w3 ⟨⟨y,rfl⟩,rfl⟩
 obtain ⟨w4,hw4⟩:∃z,w2.alloc (.cells #[.slice A2 m c] 46)=z:=⟨_,rfl⟩
 have hb4:Below w2.heap.size w2 w4:=by rw [←hw4];exact bra
 try rw [hw4]
 clear hw4 CS
 by_cases hy:z % 4294967296=y
 ·have y1:(z % 4294967296 != y)=false:=by simp [hy]
  have y2:(z % 4294967296 == y)=true:=by simp [hy]
  go_wp2_with fail
  refine (CC.out _ hb4).mono ?_
  rintro e w5 ⟨v,rfl,ho5,hb5⟩
  clear CC
  go_wp2_with fail
  exact bodyPost_ret (v:=.tuple #[v,.int .i64 0]) (by simp [results,Tryz.results121,go_sem]) rfl ⟨⟨_,_,rfl,.inr ⟨rfl,ho5⟩⟩,hb5⟩
 ·have y1:(z % 4294967296 != y)=true:=by simp [hy]
  have y2:(z % 4294967296 == y)=false:=by simp [hy]
  clear CC
  go_wp2_with fail
  exact bodyPost_ret (v:=.tuple #[.slice none 0 0,.int .i64 4]) (by simp [results,Tryz.results121,go_sem]) rfl ⟨⟨_,_,rfl,.inl ⟨by decide,rfl⟩⟩,hb4⟩
def Zc (w:World) (b:Nat) (t:TypeId) (cs:List Value):Prop:=w.heap[b]?=some (.cells cs.toArray t (0,0))
section
variable {w w':World} {b:Nat} {t:TypeId} {cs:List Value}
theorem Zc.lt (h:Zc w b t cs):b<w.heap.size:=(Array.getElem?_eq_some_iff.1 h).1
theorem Zc.mut {G:Nat→Prop} (h:Zc w b t cs) (hm:Mut G w w') (hG:¬ G b):Zc w' b t cs:=(hm.block b h.lt hG).trans h
theorem Zc.ext (h:Zc w b t cs) (hb:Below w.heap.size w w'):Zc w' b t cs:=(hb.block b h.lt).trans h
theorem Zc.made (w:World) (t:TypeId) (cs:List Value):Zc (w.alloc (.cells cs.toArray t)) w.heap.size t cs:=heap_alloc_new w _
theorem Zc.madeN {n:Nat} (w:World) (t:TypeId) (cs:List Value) (h:n=w.heap.size):Zc (w.alloc (.cells cs.toArray t)) n t cs:=by rw [h];exact heap_alloc_new w _
theorem Zc.cell (h:Zc w b t cs) {j:Nat} {v:Value} (hj:cs[j]?=some v):w.cell? ⟨b,j,none⟩=some v:=by
 rw [Lib.cell_of_heap h];simpa using hj
theorem Zc.frozen (h:Zc w b t cs) (j:Nat):w.frozen? ⟨b,j,none⟩=false:=Lib.frozen_of_heap h j
end
theorem FG (a:Int) (w:World):Calls Tryz.prog 70 #[.int .u64 a] w λe w'=>e=.returned (.pointer (some ⟨w.heap.size,0,none⟩))∧w'=w.alloc (.cells #[.int .u64 a,.slice none 0 0] 149):=by
 go_enter Tryz.func70,Tryz.ntmps70
 go_wp2
 go_ret
 exact ⟨rfl,rfl⟩
theorem FM (a:Int) (w:World):Calls Tryz.prog 73 #[.int .u64 a] w λe w'=>e=.returned (.pointer (some ⟨w.heap.size,0,none⟩))∧w'=w.alloc (.cells #[.int .u64 a,.int .u32 0,.int .u16 0,.int .u32 0,.pointer none] 250):=by
 go_enter Tryz.func73,Tryz.ntmps73
 go_wp2
 go_ret
 exact ⟨rfl,rfl⟩
theorem zac (x y:Int) (w:World):Calls Tryz.prog 74 #[.agg #[.int .u16 x,.int .u32 y]] w λe w'=>∃b,e=.returned (.pointer (some ⟨b,0,none⟩))∧w.heap.size≤b∧Below w.heap.size w w'∧Zc w' b 255 [.int .u16 x,.int .u32 y,.int .u32 0,.int .u16 0,.int .u32 0,.int .i64 0,.slice none 0 0,.int .u64 0,.int .u32 0,.int .u16 0,.int .u32 0,.pointer none,.int .u64 0,.int .u64 0]:=by
 go_enter Tryz.func74,Tryz.ntmps74
 go_wp2
 go_ret
 exact ⟨_,rfl,by simp,(bra).alloc (by simp) _,Zc.madeN _ _ [.int .u16 x,.int .u32 y,.int .u32 0,.int .u16 0,.int .u32 0,.int .i64 0,.slice none 0 0,.int .u64 0,.int .u32 0,.int .u16 0,.int .u32 0,.pointer none,.int .u64 0,.int .u64 0] (by simp)⟩
theorem zan (a:Int) (w:World):Calls Tryz.prog 171 #[.int .u64 a] w λe w'=>e=.returned (.pointer (some ⟨w.heap.size,0,none⟩))∧w'=w.alloc (.cells #[.int .u64 a,.int .u64 0,.slice none 0 0] 159):=by
 go_enter Tryz.func171,Tryz.ntmps171
 go_wp2
 go_ret
 exact ⟨rfl,rfl⟩
set_option maxRecDepth 100000 in
set_option maxHeartbeats 800000 in
theorem zbX (V:Zs) (am al ad:Option Addr) (cm cl cd:Nat) (x y:Int) (w:World) (hV:Zt w am al ad V) :
  Calls Tryz.prog 107 #[.agg #[.int .u64 V.id,.slice am V.ms.length cm,.slice al V.ls.length cl,.slice ad V.ds.length cd],.agg #[.int .u16 x,.int .u32 y]] w λe w'=>e=.returned (.int .i64 (XV V.ls (x,y)))∧Below w.heap.size w w':=by
 have hB2:Below w.heap.size w ((w.alloc (.cells #[.int .u64 V.id,.slice am V.ms.length cm,.slice al V.ls.length cl,.slice ad V.ds.length cd] 35)).alloc (.cells #[.int .u16 x,.int .u32 y] 25)):=(bra).alloc (by simp) _
 have hV2:=hV.ext hB2
 have k0:((w.alloc (.cells #[.int .u64 V.id,.slice am V.ms.length cm,.slice al V.ls.length cl,.slice ad V.ds.length cd] 35)).alloc (.cells #[.int .u16 x,.int .u32 y] 25)).cell? ⟨w.heap.size+1,0,none⟩=some (.int .u16 x):=by simp
 have k1:((w.alloc (.cells #[.int .u64 V.id,.slice am V.ms.length cm,.slice al V.ls.length cl,.slice ad V.ds.length cd] 35)).alloc (.cells #[.int .u16 x,.int .u32 y] 25)).cell? ⟨w.heap.size+1,1,none⟩=some (.int .u32 y):=by simp
 go_enter Tryz.func107,Tryz.ntmps107
 go_wp2_with (go_at_call 204;go_loud (refine (FN _ _ _ _ _ _ _ hV.ll hV.le hV2.ls k0 k1).mono ?_);rintro e w3 ⟨rfl,hb3⟩)
 go_ret
 exact ⟨rfl,hB2.trans (hb3.mono (by simp;omega))⟩
theorem Zb.one' (w:World) {b:Nat} (h:b=w.heap.size) (x y:Int):Zb (w.alloc (.cells #[.int .u16 x,.int .u32 y] 25)) (some ⟨b,0,none⟩) [(x,y)]:=by subst h;exact Zb.one _ _ _
theorem Zb.alloc {w:World} {a:Option Addr} {xs:List Pid} (h:Zb w a xs) (o:Obj):Zb (w.alloc o) a xs:=h.ext (bra)
theorem rel {P:Program} {f:FuncId} {args:Array Value} {w0 W:World} {v v':Value} (hb:Below w0.heap.size w0 W) (h:Calls P f args W λe w'=>e=.returned v∧Below W.heap.size W w') (hv:v=v') :
  Calls P f args W λe w'=>e=.returned v'∧Below w0.heap.size w0 w':=by
 subst hv
 exact h.mono λ_ _ ⟨h1,h2⟩=>⟨h1,hb.trans (h2.mono hb.size)⟩
end Go.Proofs.YtcdpaflmofljaaaGreat
namespace Go.Proofs.YtcdpaflmofljaaaGreat
def keys {α β:Type} (L:List (α × β)):List α:=L.map (·.1)
theorem ZM {α β:Type} [DecidableEq α] {x:α}:∀{L:List (α × β)},(Yz x L).isSome=true↔x∈keys L
 | []=>by simp [Yz,keys]
 | p :: l=>by
  have ih:=ZM (x:=x) (L:=l)
  have e:Yz x (p :: l)=if x=p.1 then some p.2 else Yz x l:=rfl
  have ek:keys (p :: l)=p.1 :: keys l:=rfl
  rw [e,ek,List.mem_cons,← ih]
  by_cases h:x=p.1 <;> simp [h]
theorem zaT {α β:Type} [DecidableEq α] {x:α} {v:β}:∀{L:List (α × β)},x ∉ keys L→ins x v L=L ++ [(x,v)]
 | [],_=>rfl
 | p :: l,h=>by
  simp only [keys,List.map_cons,List.mem_cons,not_or] at h
  simp only [ins,if_neg h.1,List.cons_append]
  rw [zaT h.2]
theorem FT {α β:Type} [DecidableEq α] {x y:α} {v:β}:∀{L:List (α × β)},Yz x (ins y v L)=if x=y then some v else Yz x L
 | []=>by simp [ins,Yz]
 | p :: l=>by
  have ih:=FT (x:=x) (y:=y) (v:=v) (L:=l)
  simp only [ins]
  by_cases h:y=p.1
  ·simp only [if_pos h,Yz]
   by_cases hx:x=y
   ·simp [hx]
   ·have:¬ x=p.1:=λe=>hx (e.trans h.symm)
    simp [hx,this]
  ·simp only [if_neg h,Yz,ih]
   by_cases hx:x=p.1
   ·have:¬ x=y:=λe=>h (e.symm.trans hx)
    simp [hx]
    intro e;exact absurd (e.symm) (by intro e2;exact h (by rw [←e2]))
   ·simp [hx]
theorem VG {p:Pid} {L:List (Pid × Unit)} (h:p∈keys L):Gm p L=L:=by unfold Gm;rw [if_pos (ZM.2 h)]
theorem Xn {p:Pid} {L:List (Pid × Unit)} (h:p ∉ keys L):Gm p L=L ++ [(p,())]:=by
 unfold Gm;rw [if_neg (λe=>h (ZM.1 e)),zaT h]
theorem Ju:∀(xs:List Pid) (L:List (Pid × Unit)),(Zx L xs).length≤L.length+xs.length∧((Zx L xs).length=L.length+xs.length↔xs.Nodup∧∀x∈xs,x ∉ keys L)
 | [],L=>by simp [Zx]
 | p :: l,L=>by
  simp only [Zx]
  by_cases h:p∈keys L
  ·obtain ⟨h1,h2⟩:=Ju l L
   rw [VG h]
   refine ⟨by simp only [List.length_cons];omega,?_⟩
   constructor
   ·intro e;simp only [List.length_cons] at e;omega
   ·rintro ⟨_,h3⟩;exact absurd h (h3 p (List.mem_cons_self ..))
  ·obtain ⟨h1,h2⟩:=Ju l (L ++ [(p,())])
   rw [Xn h]
   simp only [List.length_append,List.length_cons,List.length_nil] at h1 h2 ⊢
   refine ⟨by omega,?_⟩
   have e:(Zx (L ++ [(p,())]) l).length=L.length+(l.length+1)↔(Zx (L ++ [(p,())]) l).length=L.length+(0+1)+l.length:=by omega
   rw [e,h2,List.nodup_cons]
   have hk:keys (L ++ [(p,())])=keys L ++ [p]:=by simp [keys]
   rw [hk]
   simp only [List.mem_append,List.mem_cons,List.not_mem_nil,or_false,not_or]
   constructor
   ·rintro ⟨a,b⟩
    exact ⟨⟨λhp=>(b p hp).2 rfl,a⟩,λx hx=>by
     rcases hx with rfl | hx
     ·exact h
     ·exact (b x hx).1⟩
   ·rintro ⟨⟨a,b⟩,c⟩
    exact ⟨b,λx hx=>⟨c x (.inr hx),λe=>a (e ▸ hx)⟩⟩
theorem JJ {xs:List Pid}:(Zx [] xs).length=xs.length↔xs.Nodup:=by
 have:=(Ju xs []).2
 simpa [keys] using this
theorem Qr {n:Nat}:∀{xs:List Pid} {S:List (Int × Unit)},XS n S xs=true↔(0<n∧n≤24)∧(∀p∈xs,KM p=true)∧xs.Pairwise (λp q=>p.1≠q.1)∧∀p∈xs,p.1 ∉ keys S
 | [],S=>by simp [XS]
 | p :: l,S=>by
  simp only [XS]
  by_cases h:p.1∈keys S
  ·rw [if_pos (ZM.2 h)]
   simp only [Bool.false_eq_true,false_iff]
   rintro ⟨_,_,_,h4⟩
   exact h4 p (List.mem_cons_self ..) h
  ·rw [if_neg (λe=>h (ZM.1 e))]
   by_cases hm:KM p=true
   ·rw [if_pos hm,Qr,zaT h]
    have hk:keys (S ++ [(p.1,())])=keys S ++ [p.1]:=by simp [keys]
    rw [hk]
    simp only [List.mem_append,List.mem_cons,List.not_mem_nil,or_false,not_or,List.pairwise_cons,forall_eq_or_imp]
    constructor
    ·rintro ⟨a,b,c,d⟩
     exact ⟨a,⟨hm,b⟩,⟨λq hq e=>(d q hq).2 e.symm,c⟩,h,λq hq=>(d q hq).1⟩
    ·rintro ⟨a,⟨_,b⟩,⟨c,d⟩,_,e⟩
     exact ⟨a,b,d,λq hq=>⟨e q hq,λe2=>c q hq e2.symm⟩⟩
   ·rw [if_neg hm]
    simp only [Bool.false_eq_true,false_iff]
    rintro ⟨_,b,_⟩
    exact hm (b p (List.mem_cons_self ..))
theorem zb4 {K:Bool}:∀{xs pre:List Pid},refA K (pre ++ xs) pre.length xs=true↔K=true∧(∀p∈xs,mayR p=true)∧(∀p∈xs,∀q∈pre,q.1≠p.1)∧xs.Pairwise (λp q=>p.1≠q.1)
 | [],pre=>by simp [refA]
 | p :: l,pre=>by
  simp only [refA,List.take_left']
  by_cases hm:mayR p=true
  ·rw [if_pos hm]
   by_cases ha:pre.any (zb6 p)=true
   ·rw [if_pos ha]
    simp only [Bool.false_eq_true,false_iff]
    rintro ⟨_,_,c,_⟩
    obtain ⟨q,hq,e⟩:=List.any_eq_true.1 ha
    exact c p (List.mem_cons_self ..) q hq (by simpa [zb6] using e)
   ·rw [if_neg ha]
    have ih:=zb4 (K:=K) (xs:=l) (pre:=pre ++ [p])
    simp only [List.append_assoc,List.cons_append,List.nil_append,List.length_append,List.length_cons,List.length_nil,Nat.zero_add] at ih
    rw [ih]
    have hpre:∀q∈pre,q.1≠p.1:=λq hq e=>ha (List.any_eq_true.2 ⟨q,hq,by simpa [zb6] using e⟩)
    simp only [List.mem_append,List.mem_cons,List.not_mem_nil,or_false,forall_eq_or_imp,List.pairwise_cons]
    constructor
    ·rintro ⟨a,b,c,d⟩
     exact ⟨a,⟨hm,b⟩,⟨hpre,λr hr q hq=>c r hr q (.inl hq)⟩,λr hr=>c r hr p (.inr rfl),d⟩
    ·rintro ⟨a,⟨_,b⟩,⟨_,c⟩,d,e⟩
     exact ⟨a,b,λr hr q hq=>by
      rcases hq with hq | rfl
      ·exact c r hr q hq
      ·exact d r hr,e⟩
  ·rw [if_neg hm]
   simp only [Bool.false_eq_true,false_iff]
   rintro ⟨_,b,_⟩
   exact hm (b p (List.mem_cons_self ..))
theorem zb9 {K:Bool} {fl:List Pid}:∀{xs:List Pid},refB K fl xs=true↔K=true∧∀p∈xs,fl.count p=1
 | []=>by simp [refB]
 | p :: l=>by
  simp only [refB]
  by_cases h:fl.count p=1
  ·rw [if_pos h,zb9];simp [h]
  ·rw [if_neg h];simp [h]
def Yj:List (List Pid)→List Pid
 | []=>[]
 | l :: r=>l.head?.toList ++ Yj r
theorem Qu {S:List (Pid × Int)} {K:List Pid→Nat→Bool}:∀{ls:List (List Pid)} {F:List Pid} {n:Nat},XQ S K F n ls=true↔(∀l∈ls,l≠[]∧Yu S (-1) l=true)∧K (F ++ Yj ls) (n+Kg ls)=true
 | [],F,n=>by simp [XQ,Yj,Kg]
 | l :: r,F,n=>by
  cases l with
  | nil=>simp [XQ]
  | cons p l =>
   simp only [XQ]
   by_cases h:Yu S (-1) (p :: l)=true
   ·rw [if_pos h,Qu]
    have e1:F ++ [p] ++ Yj r=F ++ Yj ((p :: l) :: r):=by simp [Yj]
    have e2:n+(p :: l).length+Kg r=n+Kg ((p :: l) :: r):=by simp [Kg];omega
    rw [e1,e2]
    simp [h]
   ·rw [if_neg h];simp [h]
theorem zbO {ms:List Pid} {K:List Pid→Bool}:∀{ls:List (List Pid)} {F:List Pid},refC ms K F ls=true↔(∀l∈ls,l≠[]∧zc4 ms l=true)∧K (F ++ Yj ls)=true
 | [],F=>by simp [refC,Yj]
 | l :: r,F=>by
  cases l with
  | nil=>simp [refC]
  | cons p l =>
   simp only [refC]
   by_cases h:zc4 ms (p :: l)=true
   ·rw [if_pos h,zbO]
    have e1:F ++ [p] ++ Yj r=F ++ Yj ((p :: l) :: r):=by simp [Yj]
    rw [e1]
    simp [h]
   ·rw [if_neg h];simp [h]
def rankO (ms:List Pid) (p:Pid):Option Int:=if Ks ms p<0 then none else some (Ks ms p)
theorem JF {p:Pid}:∀{xs:List Pid} {S:List (Pid × Int)} {k:Nat},Yz p (XE S xs k)=match Yz p S with | some v=>some v | none=>if YI p xs k<0 then none else some (YI p xs k)
 | [],S,k=>by
  simp only [XE,YI]
  cases Yz p S <;> simp
 | q :: l,S,k=>by
  simp only [XE,YI]
  by_cases h:(Yz q S).isSome=true
  ·rw [if_pos h,JF]
   cases hp:Yz p S with
   | some v=>rfl
   | none =>
    have:¬ q=p:=λe=>by subst e;rw [hp] at h;simp at h
    simp only [if_neg this]
  ·rw [if_neg h,JF,FT]
   by_cases hpq:p=q
   ·subst hpq
    have:Yz p S=none:=by simpa using h
    simp only [if_true,this]
    rw [if_neg (by omega)]
   ·have:¬ q=p:=λe=>hpq e.symm
    simp only [if_neg hpq,if_neg this]
theorem zbz {ms:List Pid} {p:Pid}:Yz p (XI ms)=rankO ms p:=by
 unfold XI rankO Ks
 rw [JF]
 rfl
theorem ris_eq (ms:List Pid):∀(xs:List Pid) (pr:Option Pid) (last:Int),(∀A,0≤A→zbB ms pr A=decide (A≤last))→Yu (XI ms) last xs=Xw ms pr xs
 | [],_,_,_=>rfl
 | p :: l,pr,last,h=>by
  simp only [Yu,Xw,zbz,rankO]
  by_cases hn:Ks ms p<0
  ·rw [if_pos hn,if_pos hn]
  ·rw [if_neg hn,if_neg hn,h _ (by omega)]
   simp only [decide_eq_true_eq]
   by_cases hle:Ks ms p≤last
   ·rw [if_pos hle,if_pos hle]
   ·rw [if_neg hle,if_neg hle]
    exact ris_eq ms l (some p) (Ks ms p) (λA _=>rfl)
theorem ris_same (ms xs:List Pid):Yu (XI ms) (-1) xs=zc4 ms xs :=
 ris_eq ms xs none (-1) λA hA=>by
  have:¬ A≤-1:=by omega
  simp [zbB,this]
theorem Ke {ms:List Pid} (h:ms.Pairwise (λp q=>p.1≠q.1)):ms.Nodup:=h.imp λhne e=>hne (by rw [e])
theorem Jf {l:List Pid}:∀{m:List Pid},l.Nodup→(∀x∈l,x∈m)→l.length≤m.length:=by
 induction l with
 | nil=>intro m _ _;simp
 | cons p l ih =>
  intro m hn hs
  rw [List.nodup_cons] at hn
  have hp:=hs p (List.mem_cons_self ..)
  have h:=ih (m:=m.erase p) hn.2 (λx hx=>by
   have hne:x≠p:=λe=>hn.1 (e ▸ hx)
   exact (List.mem_erase_of_ne hne).2 (hs x (List.mem_cons_of_mem _ hx)))
  rw [List.length_erase_of_mem hp] at h
  have:=List.length_pos_of_mem hp
  simp only [List.length_cons]
  omega
theorem zel {l:List Pid}:∀{m:List Pid},m.Nodup→(∀x∈l,x∈m)→l.length=(m.map λp=>l.count p).sum:=by
 induction l with
 | nil =>
  intro m _ _
  have:∀m:List Pid,(m.map λp=>([]:List Pid).count p).sum=0:=by
   intro m;induction m with
   | nil=>rfl
   | cons a m ih=>simp only [List.map_cons,List.sum_cons,ih];simp
  rw [this];rfl
 | cons q l ih =>
  intro m hm hs
  have h:=ih hm (λx hx=>hs x (List.mem_cons_of_mem _ hx))
  have hq:=hs q (List.mem_cons_self ..)
  have key:∀m:List Pid,m.Nodup→(m.map λp=>(q :: l).count p).sum=(m.map λp=>l.count p).sum+(if q∈m then 1 else 0):=by
   intro m
   induction m with
   | nil=>intro _;simp
   | cons a m ihm =>
    intro hn
    rw [List.nodup_cons] at hn
    rw [List.map_cons,List.sum_cons,ihm hn.2,List.map_cons,List.sum_cons,List.count_cons]
    by_cases hqa:q=a
    ·subst hqa
     simp only [beq_self_eq_true,if_true,if_neg hn.1,List.mem_cons,true_or]
     omega
    ·have hb:(q == a)=false:=by simpa using hqa
     simp only [hb,List.mem_cons,hqa,false_or,Bool.false_eq_true,if_false]
     omega
  rw [key m hm,if_pos hq,List.length_cons,h]
theorem zd1:∀{m:List Pid} {f:Pid→Nat},(∀p∈m,f p=1)→(m.map f).sum=m.length
 | [],_,_=>rfl
 | a :: m,f,h=>by
  simp only [List.map_cons,List.sum_cons,List.length_cons,zd1 (λp hp=>h p (List.mem_cons_of_mem _ hp)),h a (List.mem_cons_self ..)]
  omega
theorem Qq {ms fl:List Pid} (hm:ms.Nodup) (hs:∀x∈fl,x∈ms):(∀p∈ms,fl.count p=1)↔fl.length=ms.length∧fl.Nodup:=by
 constructor
 ·intro h
  refine ⟨by rw [zel hm hs,zd1 h],?_⟩
  rw [List.nodup_iff_count]
  intro a
  by_cases ha:a∈fl
  ·rw [h a (hs a ha)];exact Nat.le_refl _
  ·rw [List.count_eq_zero.2 ha];omega
 ·rintro ⟨hl,hn⟩ p hp
  have h1:=List.nodup_iff_count.1 hn p
  by_cases h0:fl.count p=0
  ·exfalso
   have hnot:p ∉ fl:=List.count_eq_zero.1 h0
   have:=Jf (l:=p :: fl) (m:=ms) (List.nodup_cons.2 ⟨hnot,hn⟩) (λx hx=>by
    rcases List.mem_cons.1 hx with rfl | hx
    ·exact hp
    ·exact hs x hx)
   simp only [List.length_cons] at this
   omega
  ·omega
theorem Qh {ms:List Pid}:∀{xs:List Pid} {pr:Option Pid},Xw ms pr xs=true→∀x∈xs,x∈ms
 | p :: l,pr,h,x,hx=>by
  unfold Xw at h
  split at h
  ·simp at h
  ·next hn =>
   split at h
   ·simp at h
   ·rcases List.mem_cons.1 hx with rfl | hx
    ·unfold Ks at hn
     rw [JG] at hn
     simpa using hn
    ·exact Qh h x hx
theorem zdC {ms:List Pid}:∀{xs:List Pid} {q:Pid},Xw ms (some q) xs=true→∀x∈xs,Ks ms q<Ks ms x
 | p :: l,q,h,x,hx=>by
  unfold Xw at h
  split at h
  ·simp at h
  ·split at h
   ·simp at h
   ·next hn hp =>
    simp only [zbB,decide_eq_true_eq,Int.not_le] at hp
    rcases List.mem_cons.1 hx with rfl | hx
    ·exact hp
    ·have:=zdC h x hx;omega
theorem Fc {ms:List Pid}:∀{xs:List Pid} {pr:Option Pid},Xw ms pr xs=true→xs.Nodup
 | [],_,_=>List.nodup_nil
 | p :: l,pr,h=>by
  unfold Xw at h
  split at h
  ·simp at h
  ·split at h
   ·simp at h
   ·refine List.nodup_cons.2 ⟨λhp=>?_,Fc h⟩
    have:=zdC h p hp
    omega
theorem zdR:∀{ls:List (List Pid)},(∀l∈ls,l≠[])→ls.length≤Kg ls
 | [],_=>by simp [Kg]
 | l :: r,h=>by
  have:=zdR (ls:=r) (λx hx=>h x (List.mem_cons_of_mem _ hx))
  have h0:=List.length_pos_iff.2 (h l (List.mem_cons_self ..))
  simp only [Kg,List.map_cons,List.sum_cons,List.length_cons] at *
  omega
def XC (l:List Pid):Prop:=∀p∈l,0≤p.1∧p.1<65536∧0≤p.2∧p.2<4294967296
theorem may_eq {p:Pid} (h:0≤p.2):KM p=mayR p:=by
 unfold KM mayR
 by_cases h0:p.2=0
 ·have:¬ (0<p.2):=by omega
  simp [h0]
 ·have:0<p.2:=by omega
  simp [h0,this]
theorem zbI (V:Zs) (hw:XC V.ms):Xh V=Vu V:=by
 rw [Bool.eq_iff_iff]
 have e1:Xh V=true↔(1≤V.id∧V.id≤4611686018427387904)∧Xv V.ms=true∧(∀l∈V.ls,l≠[]∧zc4 V.ms l=true)∧Kg V.ls=V.ms.length∧V.ls.flatten.Nodup∧zc4 V.ms (Yj V.ls)=true∧V.ds≠[]∧zc4 V.ms V.ds=true:=by
  unfold Xh
  simp only [Bool.and_eq_true,decide_eq_true_eq,Qu,VT,ris_same,List.nil_append,Nat.zero_add]
  have hl:=XD V.ls
  constructor
  ·rintro ⟨a,b,c,d,e,f,g,h,i⟩
   exact ⟨⟨a,b⟩,c,d,e,JJ.1 (by omega),g,h,i⟩
  ·rintro ⟨⟨a,b⟩,c,d,e,f,g,h,i⟩
   exact ⟨a,b,c,d,e,by rw [JJ.2 f,hl],g,h,i⟩
 have e2:Vu V=true↔refG V=true∧((zds V=true∧∀p∈V.ms,V.ls.flatten.count p=1)∧(∀p∈V.ms,mayR p=true)∧V.ms.Pairwise (λp q=>p.1≠q.1)):=by
  unfold Vu
  rw [Bool.and_eq_true]
  have:=zb4 (K:=refB (zds V) V.ls.flatten V.ms) (xs:=V.ms) (pre:=[])
  simp only [List.nil_append,List.length_nil,List.not_mem_nil,false_implies,implies_true,true_and] at this
  rw [this,zb9]
 have e3:zds V=true↔(∀l∈V.ls,l≠[]∧zc4 V.ms l=true)∧zc4 V.ms (Yj V.ls)=true∧zc4 V.ms V.ds=true:=by
  unfold zds
  rw [zbO]
  simp only [List.nil_append,Bool.and_eq_true]
 have e4:Xv V.ms=true↔(0<V.ms.length∧V.ms.length≤24)∧(∀p∈V.ms,mayR p=true)∧V.ms.Pairwise (λp q=>p.1≠q.1):=by
  unfold Xv
  rw [Qr]
  simp only [keys,List.map_nil,List.not_mem_nil,not_false_eq_true,implies_true,and_true]
  constructor
  ·rintro ⟨a,b,c⟩;exact ⟨a,λp hp=>by rw [←may_eq (hw p hp).2.2.1];exact b p hp,c⟩
  ·rintro ⟨a,b,c⟩;exact ⟨a,λp hp=>by rw [may_eq (hw p hp).2.2.1];exact b p hp,c⟩
 rw [e1,e2,e3,e4]
 unfold refG
 simp only [Bool.and_eq_true,decide_eq_true_eq]
 have hl:=XD V.ls
 constructor
 ·rintro ⟨⟨a,b⟩,⟨⟨c1,c2⟩,c3,c4⟩,d,e,f,g,h,i⟩
  have hmem:∀x∈V.ls.flatten,x∈V.ms:=λx hx=>by
   obtain ⟨l,hl,hxl⟩:=List.mem_flatten.1 hx
   exact Qh (d l hl).2 x hxl
  have hls:=zdR (λl hl=>(d l hl).1)
  have hds:=List.length_pos_iff.2 h
  have hdl:=Jf (Fc i) (Qh i)
  exact ⟨⟨a,b,by omega,c2,by omega,by omega,hdl⟩,⟨⟨d,g,i⟩,(Qq (Ke c4) hmem).2 ⟨by omega,f⟩⟩,c3,c4⟩
 ·rintro ⟨⟨a,b,c1,c2,c3,c4,c5⟩,⟨⟨d,g,i⟩,j⟩,k,l⟩
  have hmem:∀x∈V.ls.flatten,x∈V.ms:=λx hx=>by
   obtain ⟨l,hl,hxl⟩:=List.mem_flatten.1 hx
   exact Qh (d l hl).2 x hxl
  obtain ⟨h1,h2⟩:=(Qq (Ke l) hmem).1 j
  exact ⟨⟨a,b⟩,⟨⟨by omega,c2⟩,k,l⟩,d,by omega,h2,g,λe=>by rw [e] at c4;simp at c4,i⟩
end Go.Proofs.YtcdpaflmofljaaaGreat
namespace Go.Proofs.YtcdpaflmofljaaaGreat
open Go.RowKit
theorem ZN {P:Program} {f:FuncId} {args:Array Value} {w0:World} {U:YB w0} {v v':Value} (h:Calls P f args U.W λe w'=>e=.returned v∧Below U.W.heap.size U.W w') (hv:v=v') :
  Calls P f args U.W λe w'=>e=.returned v'∧∃U':YB w0,w'=U'.W:=by
 subst hv
 exact h.mono λ_ _ ⟨h1,h2⟩=>⟨h1,⟨_,U.h.trans (h2.mono U.h.size)⟩,rfl⟩
section
variable (V:Zs) (am al ad:Option Addr) (cm cl cd:Nat) (x y:Int) (w:World)
set_option maxRecDepth 100000 in
set_option maxHeartbeats 800000 in
theorem Ge (hV:Zt w am al ad V) :
  Calls Tryz.prog 180 #[.agg #[.int .u64 V.id,.slice am V.ms.length cm,.slice al V.ls.length cl,.slice ad V.ds.length cd],.agg #[.int .u16 x,.int .u32 y]] w λe w'=>e=.returned (.bool (decide ((x,y)∈V.ds)))∧Below w.heap.size w w':=by
 have hB2:Below w.heap.size w ((w.alloc (.cells #[.int .u64 V.id,.slice am V.ms.length cm,.slice al V.ls.length cl,.slice ad V.ds.length cd] 35)).alloc (.cells #[.int .u16 x,.int .u32 y] 25)):=(bra).alloc (by simp) _
 have hV2:=hV.ext hB2
 go_enter Tryz.func180,Tryz.ntmps180
 go_wp2_with (go_at_call 66;refine (Vb _ _ _ _ _ _ hV.ld hV2.ds).mono ?_;rintro e w3 ⟨rfl,hb3⟩)
 go_ret
 exact ⟨rfl,hB2.trans (hb3.mono (by simp;omega))⟩
set_option maxRecDepth 100000 in
set_option maxHeartbeats 800000 in
theorem XO (hV:Zt w am al ad V) :
  Calls Tryz.prog 27 #[.agg #[.int .u64 V.id,.slice am V.ms.length cm,.slice al V.ls.length cl,.slice ad V.ds.length cd],.agg #[.int .u16 x,.int .u32 y]] w λe w'=>e=.returned (.bool (decide ((x,y)∈V.ms)))∧Below w.heap.size w w':=by
 have hB2:Below w.heap.size w ((w.alloc (.cells #[.int .u64 V.id,.slice am V.ms.length cm,.slice al V.ls.length cl,.slice ad V.ds.length cd] 35)).alloc (.cells #[.int .u16 x,.int .u32 y] 25)):=(bra).alloc (by simp) _
 have hV2:=hV.ext hB2
 go_enter Tryz.func27,Tryz.ntmps27
 go_wp2_with (go_at_call 66;refine (Vb _ _ _ _ _ _ hV.lm hV2.ms).mono ?_;rintro e w3 ⟨rfl,hb3⟩)
 go_ret
 exact ⟨rfl,hB2.trans (hb3.mono (by simp;omega))⟩
end
theorem Js {p:Pid}:∀{xs:List Pid} {L:List (Pid × Unit)},p∈keys (Zx L xs)↔p∈keys L∨p∈xs
 | [],L=>by simp [Zx]
 | q :: l,L=>by
  simp only [Zx]
  rw [Js]
  have:p∈keys (Gm q L)↔p∈keys L∨p=q:=by
   by_cases h:q∈keys L
   ·rw [VG h]
    constructor
    ·exact .inl
    ·rintro (h1 | rfl)
     ·exact h1
     ·exact h
   ·rw [Xn h];simp [keys]
  rw [this,List.mem_cons,or_assoc]
def Je:List Pid→List Pid→Bool
 | [],_=>true
 | _ :: _,[]=>true
 | x :: l,y :: r=>if x=y then Je l r else false
theorem Qs {xs ys:List Pid} {k:Nat} (h:k<xs.length) (h':k<ys.length) {p q:Pid} (hp:p=xs[k]) (hq:q=ys[k]):Je (xs.drop k) (ys.drop k)=if p=q then Je (xs.drop (k+1)) (ys.drop (k+1)) else false:=by
 rw [List.drop_eq_getElem_cons h,List.drop_eq_getElem_cons h',← hp,← hq];rfl
theorem GP:∀{xs ys:List Pid},xs.length=ys.length→(Je xs ys=true↔xs=ys)
 | [],[],_=>by simp [Je]
 | x :: l,y :: r,h=>by
  have ih:=GP (xs:=l) (ys:=r) (by simpa using h)
  simp only [Je]
  by_cases hxy:x=y
  ·rw [if_pos hxy,ih];simp [hxy]
  ·rw [if_neg hxy];simp [hxy]
 | [],y :: r,h=>by simp at h
 | x :: l,[],h=>by simp at h
theorem El {xs ys:List Pid} (h:xs.length=ys.length):decide (xs=ys)=Je xs ys:=by
 rw [Bool.eq_iff_iff,GP h];simp
set_option maxRecDepth 100000 in
set_option maxHeartbeats 800000 in
theorem EG (a b:Option Addr) (ca cb:Nat) (xs ys:List Pid) (w:World) (hn:xs.length≤70368744177664) (_hm:ys.length≤70368744177664) (hx:Zb w a xs) (hy:Zb w b ys) :
  Calls Tryz.prog 37 #[.slice a xs.length ca,.slice b ys.length cb] w λe w'=>e=.returned (.bool (decide (xs=ys)))∧Below w.heap.size w w':=by
 by_cases hl:xs.length=ys.length
 ·have hsp:=El hl
  have hl':((xs.length:Int) != (ys.length:Int))=false:=by rw [hl];simp
  have HL:=hid hl
  have HSP:=hid hsp
  clear hl hsp
  go_enter Tryz.func37,Tryz.ntmps37
  go_wp2
  go_loopw [4,5] (λrs kv wr=>rs=.bool false∧∃k:Nat,k≤xs.length∧kv=.int .i64 k∧Hid (decide (xs=ys)=Je (xs.drop k) (ys.drop k))∧Below w.heap.size w wr) (λ_ kv _=>xs.length - (intOf kv).toNat)
  case atStart=>exact ⟨rfl,0,Nat.zero_le _,rfl,HSP,Below.refl _ _⟩
  case round =>
   obtain ⟨rfl,k,hk,rfl,ha,hb⟩:=hrel
   by_cases hkt:k<xs.length
   ·have hkt':k<ys.length:=by have:=HL.out;omega
    obtain ⟨b1,o1,x1,y1,rfl,hx1,q0,q1⟩:=hx.at hb rfl hkt
    obtain ⟨b2,o2,x2,y2,rfl,hx2,q2,q3⟩:=hy.at hb rfl hkt'
    have hd:=Qs hkt hkt' hx1 hx2
    have HD:=hid hd
    clear hd hx1 hx2
    have he:=λw=>zee x1 y1 x2 y2 w
    by_cases hxy:(x1,y1)=(x2,y2)
    ·have hxy1:decide ((x1,y1)=(x2,y2))=true:=by simpa using hxy
     rw [hxy1] at he
     have HXY:=hid hxy
     clear hxy hxy1
     go_wp2
     go_quiet (fail)
     go_wp2
     go_roundw
     case rel=>exact ⟨rfl,k+1,by omega,by go_num,(ha.out.trans (by rw [HD.out,if_pos HXY.out]):_),Xq hb _⟩
     case measure=>simp [intOf];omega
    ·have hxy1:decide ((x1,y1)=(x2,y2))=false:=by simpa using hxy
     rw [hxy1] at he
     have HXY:Hid (¬ (x1,y1)=(x2,y2)):=hxy
     clear hxy hxy1
     go_wp2
     go_quiet (fail)
     go_wp2
     go_ret
     exact ⟨Zm (by rw [ha.out,HD.out,if_neg HXY.out]),Xq hb _⟩
   ·go_wp2
    go_ret
    exact ⟨Zm (by rw [ha.out,List.drop_eq_nil_of_le (by omega)];rfl),hb⟩
 ·have hne:decide (xs=ys)=false:=by simp;intro e;exact hl (by rw [e])
  have hl':((xs.length:Int) != (ys.length:Int))=true:=by rw [bne_iff_ne];omega
  have HN:=hid hne
  clear hne hl
  go_enter Tryz.func37,Tryz.ntmps37
  go_wp2
  go_ret
  exact ⟨Zm HN.out.symm,Below.refl _ _⟩
section
variable {a b:Option Addr} {ca cb:Nat} {xs ys:List Pid} {w:World} {bm:Bool} (h:Hid (decide (xs=ys)=bm)) (hn:xs.length≤70368744177664) (hm:ys.length≤70368744177664) (hx:Zb w a xs) (hy:Zb w b ys)
include h hn hm hx hy
theorem VP:Calls Tryz.prog 37 #[.slice a xs.length ca,.slice b ys.length cb] w λe w'=>e=.returned (.bool bm)∧Below w.heap.size w w':=by
 have:=EG a b ca cb xs ys w hn hm hx hy
 rw [h.out] at this
 exact this
theorem EM {U:YB w}:Calls Tryz.prog 37 #[.slice a xs.length ca,.slice b ys.length cb] U.W λe w'=>e=.returned (.bool bm)∧∃U':YB w,w'=U'.W :=
 ZN (EG a b ca cb xs ys U.W hn hm (hx.ext U.h) (hy.ext U.h)) (by rw [h.out])
end
def Vg:List (List Pid)→List (List Pid)→Bool
 | [],_=>true
 | _ :: _,[]=>true
 | x :: l,y :: r=>if x=y then Vg l r else false
theorem JU {xs ys:List (List Pid)} {k:Nat} (h:k<xs.length) (h':k<ys.length) {p q:List Pid} (hp:p=xs[k]) (hq:q=ys[k]):Vg (xs.drop k) (ys.drop k)=if p=q then Vg (xs.drop (k+1)) (ys.drop (k+1)) else false:=by
 rw [List.drop_eq_getElem_cons h,List.drop_eq_getElem_cons h',← hp,← hq];rfl
theorem QH:∀{xs ys:List (List Pid)},xs.length=ys.length→(Vg xs ys=true↔xs=ys)
 | [],[],_=>by simp [Vg]
 | x :: l,y :: r,h=>by
  have ih:=QH (xs:=l) (ys:=r) (by simpa using h)
  simp only [Vg]
  by_cases hxy:x=y
  ·rw [if_pos hxy,ih];simp [hxy]
  ·rw [if_neg hxy];simp [hxy]
 | [],y :: r,h=>by simp at h
 | x :: l,[],h=>by simp at h
theorem GB {xs ys:List (List Pid)} (h:xs.length=ys.length):decide (xs=ys)=Vg xs ys:=by
 rw [Bool.eq_iff_iff,QH h];simp
set_option maxRecDepth 100000 in
set_option maxHeartbeats 800000 in
theorem zet (a b:Option Addr) (ca cb:Nat) (xs ys:List Pid) (w:World) (hn:xs.length≤70368744177664) (_hm:ys.length≤70368744177664) (hx:Zb w a xs) (hy:Zb w b ys) :
  Calls Tryz.prog 333 #[.slice a xs.length ca,.slice b ys.length cb] w λe w'=>e=.returned (.bool (decide (xs=ys)))∧Below w.heap.size w w':=by
 by_cases hl:xs.length=ys.length
 ·have hsp:=El hl
  have hl':((xs.length:Int) != (ys.length:Int))=false:=by rw [hl];simp
  have HL:=hid hl
  have HSP:=hid hsp
  clear hl hsp
  go_enter Tryz.func333,Tryz.ntmps333
  go_wp2
  go_loopw [4,13] (λrs kv wr=>rs=.bool false∧∃k:Nat,k≤xs.length∧kv=.int .i64 k∧Hid (decide (xs=ys)=Je (xs.drop k) (ys.drop k))∧Below w.heap.size w wr) (λ_ kv _=>xs.length - (intOf kv).toNat)
  case atStart=>exact ⟨rfl,0,Nat.zero_le _,rfl,HSP,Below.refl _ _⟩
  case round =>
   obtain ⟨rfl,k,hk,rfl,ha,hb⟩:=hrel
   by_cases hkt:k<xs.length
   ·have hkt':k<ys.length:=by have:=HL.out;omega
    obtain ⟨b1,o1,x1,y1,rfl,hx1,q0,q1⟩:=hx.at hb rfl hkt
    obtain ⟨b2,o2,x2,y2,rfl,hx2,q2,q3⟩:=hy.at hb rfl hkt'
    have hd:=Qs hkt hkt' hx1 hx2
    have HD:=hid hd
    clear hd hx1 hx2
    have he:=λw=>zee x1 y1 x2 y2 w
    by_cases hxy:(x1,y1)=(x2,y2)
    ·have hxy1:decide ((x1,y1)=(x2,y2))=true:=by simpa using hxy
     rw [hxy1] at he
     have HXY:=hid hxy
     clear hxy hxy1
     go_wp2
     go_quiet (fail)
     go_wp2
     go_roundw
     case rel=>exact ⟨rfl,k+1,by omega,by go_num,(ha.out.trans (by rw [HD.out,if_pos HXY.out]):_),Xq hb _⟩
     case measure=>simp [intOf];omega
    ·have hxy1:decide ((x1,y1)=(x2,y2))=false:=by simpa using hxy
     rw [hxy1] at he
     have HXY:Hid (¬ (x1,y1)=(x2,y2)):=hxy
     clear hxy hxy1
     go_wp2
     go_quiet (fail)
     go_wp2
     go_ret
     exact ⟨Zm (by rw [ha.out,HD.out,if_neg HXY.out]),Xq hb _⟩
   ·go_wp2
    go_ret
    exact ⟨Zm (by rw [ha.out,List.drop_eq_nil_of_le (by omega)];rfl),hb⟩
 ·have hne:decide (xs=ys)=false:=by simp;intro e;exact hl (by rw [e])
  have hl':((xs.length:Int) != (ys.length:Int))=true:=by rw [bne_iff_ne];omega
  have HN:=hid hne
  clear hne hl
  go_enter Tryz.func333,Tryz.ntmps333
  go_wp2
  go_ret
  exact ⟨Zm HN.out.symm,Below.refl _ _⟩
section
variable {a b:Option Addr} {ca cb:Nat} {xs ys:List Pid} {w:World} {bm:Bool} (h:Hid (decide (xs=ys)=bm)) (hn:xs.length≤70368744177664) (hm:ys.length≤70368744177664) (hx:Zb w a xs) (hy:Zb w b ys)
include h hn hm hx hy
theorem Kv:Calls Tryz.prog 333 #[.slice a xs.length ca,.slice b ys.length cb] w λe w'=>e=.returned (.bool bm)∧Below w.heap.size w w':=by
 have:=zet a b ca cb xs ys w hn hm hx hy
 rw [h.out] at this
 exact this
end
set_option maxRecDepth 100000 in
set_option maxHeartbeats 1600000 in
theorem Fo (a b:Option Addr) (ca cb:Nat) (xs ys:List (List Pid)) (w:World) (hn:xs.length≤70368744177664) (_hm:ys.length≤70368744177664) (hx:Zp w a xs) (hy:Zp w b ys)
  (hln:∀l∈xs,l.length≤70368744177664) (hlm:∀l∈ys,l.length≤70368744177664) :
  Calls Tryz.prog 334 #[.slice a xs.length ca,.slice b ys.length cb,.func (.func 333) #[] #[]] w λe w'=>e=.returned (.bool (decide (xs=ys)))∧Below w.heap.size w w':=by
 by_cases hl:xs.length=ys.length
 ·have hsp:=GB hl
  have hl':((xs.length:Int) != (ys.length:Int))=false:=by rw [hl];simp
  have HL:=hid hl
  have HSP:=hid hsp
  clear hl hsp
  go_enter Tryz.func334,Tryz.ntmps334
  go_wp2
  go_loopw [6,17] (λrs kv wr=>rs=.bool false∧∃k:Nat,k≤xs.length∧kv=.int .i64 k∧Hid (decide (xs=ys)=Vg (xs.drop k) (ys.drop k))∧Below w.heap.size w wr) (λ_ kv _=>xs.length - (intOf kv).toNat)
  case atStart=>exact ⟨rfl,0,Nat.zero_le _,rfl,HSP,Below.refl _ _⟩
  case round =>
   obtain ⟨rfl,k,hk,rfl,ha,hb⟩:=hrel
   by_cases hkt:k<xs.length
   ·have hkt':k<ys.length:=by have:=HL.out;omega
    obtain ⟨b1,o1,a1,c1,l1,rfl,hx1,q1,r1⟩:=hx.at hb rfl hkt
    obtain ⟨b2,o2,a2,c2,l2,rfl,hx2,q2,r2⟩:=hy.at hb rfl hkt'
    have hl1:l1.length≤70368744177664:=hln l1 (by rw [hx1];exact List.getElem_mem _)
    have hl2:l2.length≤70368744177664:=hlm l2 (by rw [hx2];exact List.getElem_mem _)
    have hd:=JU hkt hkt' hx1 hx2
    have HD:=hid hd
    clear hd hx1 hx2
    cases hxy:decide (l1=l2)
    ·have HXY:=hid hxy
     clear hxy
     go_wp2_with (go_at_call 333;refine (Kv HXY hl1 hl2 r1 r2).mono ?_;rintro e w3 ⟨rfl,hb3⟩)
     go_ret
     exact ⟨Zm (by rw [ha.out,HD.out,if_neg (of_decide_eq_false HXY.out)]),hb.trans (hb3.mono hb.size)⟩
    ·have HXY:=hid hxy
     clear hxy
     go_wp2_with (go_at_call 333;refine (Kv HXY hl1 hl2 r1 r2).mono ?_;rintro e w3 ⟨rfl,hb3⟩)
     go_roundw
     case rel=>exact ⟨rfl,k+1,by omega,by go_num,(ha.out.trans (by rw [HD.out,if_pos (of_decide_eq_true HXY.out)]):_),hb.trans (hb3.mono hb.size)⟩
     case measure=>simp [intOf];omega
   ·go_wp2
    go_ret
    exact ⟨Zm (by rw [ha.out,List.drop_eq_nil_of_le (by omega)];rfl),hb⟩
 ·have hne:decide (xs=ys)=false:=by simp;intro e;exact hl (by rw [e])
  have hl':((xs.length:Int) != (ys.length:Int))=true:=by rw [bne_iff_ne];omega
  have HN:=hid hne
  clear hne hl
  go_enter Tryz.func334,Tryz.ntmps334
  go_wp2
  go_ret
  exact ⟨Zm HN.out.symm,Below.refl _ _⟩
def Vh (A B:Zs):Bool:=decide (A.id=B.id) && (decide (A.ms=B.ms) && (decide (A.ls=B.ls) && decide (A.ds=B.ds)))
theorem JK {a b:Option Addr} {ca cb:Nat} {xs ys:List (List Pid)} {w:World} {bm:Bool} (h:Hid (decide (xs=ys)=bm)) (hn:xs.length≤70368744177664) (hm:ys.length≤70368744177664) (hx:Zp w a xs) (hy:Zp w b ys)
  (hln:∀l∈xs,l.length≤70368744177664) (hlm:∀l∈ys,l.length≤70368744177664) :
  Calls Tryz.prog 334 #[.slice a xs.length ca,.slice b ys.length cb,.func (.func 333) #[] #[]] w λe w'=>e=.returned (.bool bm)∧Below w.heap.size w w':=by
 have:=Fo a b ca cb xs ys w hn hm hx hy hln hlm
 rw [h.out] at this
 exact this
section
variable (A B:Zs) (am al ad bm bl bd:Option Addr) (cm cl cd em el ed:Nat) (w:World)
set_option maxRecDepth 100000 in
set_option maxHeartbeats 3200000 in
theorem zai (hA:Zt w am al ad A) (hB:Zt w bm bl bd B) :
  Calls Tryz.prog 306 #[.agg #[.int .u64 A.id,.slice am A.ms.length cm,.slice al A.ls.length cl,.slice ad A.ds.length cd],.agg #[.int .u64 B.id,.slice bm B.ms.length em,.slice bl B.ls.length el,.slice bd B.ds.length ed]] w λe w'=>e=.returned (.bool (Vh A B))∧Below w.heap.size w w':=by
 have hB2:Below w.heap.size w ((w.alloc (.cells #[.int .u64 A.id,.slice am A.ms.length cm,.slice al A.ls.length cl,.slice ad A.ds.length cd] 35)).alloc (.cells #[.int .u64 B.id,.slice bm B.ms.length em,.slice bl B.ls.length el,.slice bd B.ds.length ed] 35)):=(bra).alloc (by simp) _
 have hA2:=hA.ext hB2
 have hBb:=hB.ext hB2
 have xA:ZB ((w.alloc (.cells #[.int .u64 A.id,.slice am A.ms.length cm,.slice al A.ls.length cl,.slice ad A.ds.length cd] 35)).alloc (.cells #[.int .u64 B.id,.slice bm B.ms.length em,.slice bl B.ls.length el,.slice bd B.ds.length ed] 35)) w.heap.size A am al ad cm cl cd:=(ZB.made (V:=A) w).ext (bra) (by simp)
 have xB:ZB ((w.alloc (.cells #[.int .u64 A.id,.slice am A.ms.length cm,.slice al A.ls.length cl,.slice ad A.ds.length cd] 35)).alloc (.cells #[.int .u64 B.id,.slice bm B.ms.length em,.slice bl B.ls.length el,.slice bd B.ds.length ed] 35)) (w.heap.size+1) B bm bl bd em el ed:=by
  have:=ZB.made (V:=B) (am:=bm) (al:=bl) (ad:=bd) (cm:=em) (cl:=el) (cd:=ed) (w.alloc (.cells #[.int .u64 A.id,.slice am A.ms.length cm,.slice al A.ls.length cl,.slice ad A.ds.length cd] 35))
  simpa using this
 by_cases h1:A.id=B.id
 ·have h1':(A.id == B.id)=true:=by simpa using h1
  have H1:=hid h1
  clear h1
  cases h2:decide (A.ms=B.ms)
  ·have H2:=hid h2
   clear h2
   go_enter Tryz.func306,Tryz.ntmps306
   go_wp2_with (go_at_call 333;refine (Kv H2 hA.lm hB.lm hA2.ms hBb.ms).mono ?_;rintro e w3 ⟨rfl,hb3⟩)
   go_ret
   exact ⟨Zm (by unfold Vh;rw [H2.out];simp),hB2.trans (hb3.mono hB2.size)⟩
  ·have H2:=hid h2
   clear h2
   cases h3:decide (A.ls=B.ls)
   ·have H3:=hid h3
    clear h3
    go_enter Tryz.func306,Tryz.ntmps306
    go_wp2_with (first
     | (go_at_call 333;refine (Kv H2 hA.lm hB.lm hA2.ms hBb.ms).mono ?_;rintro e w3 ⟨rfl,hb3⟩;obtain ⟨a0,a1,a2,a3⟩:=xA.ext hb3 xA.lt;obtain ⟨b0,b1,b2,b3⟩:=xB.ext hb3 xB.lt)
     | (go_at_call 334;refine (JK H3 hA.ll hB.ll (hA2.ext hb3).ls (hBb.ext hb3).ls hA.le hB.le).mono ?_;rintro e w4 ⟨rfl,hb4⟩))
    go_ret
    exact ⟨Zm (by unfold Vh;rw [H3.out];simp),(hB2.trans (hb3.mono hB2.size)).trans (hb4.mono (by have:=hB2.size;have:=hb3.size;omega))⟩
   ·have H3:=hid h3
    clear h3
    cases h4:decide (A.ds=B.ds)
    all_goals
     have H4:=hid h4
     clear h4
     go_enter Tryz.func306,Tryz.ntmps306
     go_wp2_with (first
      | (go_at_call_of 333 am;(with_reducible refine (Kv H2 hA.lm hB.lm hA2.ms hBb.ms).mono ?_);rintro e w3 ⟨rfl,hb3⟩;obtain ⟨a0,a1,a2,a3⟩:=xA.ext hb3 xA.lt;obtain ⟨b0,b1,b2,b3⟩:=xB.ext hb3 xB.lt)
      | (go_at_call 334;refine (JK H3 hA.ll hB.ll (hA2.ext hb3).ls (hBb.ext hb3).ls hA.le hB.le).mono ?_;rintro e w4 ⟨rfl,hb4⟩;obtain ⟨d0,d1,d2,d3⟩:=(xA.ext hb3 xA.lt).ext hb4 (by have:=xA.lt;have:=hb3.size;omega);obtain ⟨e0,e1,e2,e3⟩:=(xB.ext hb3 xB.lt).ext hb4 (by have:=xB.lt;have:=hb3.size;omega))
      | (go_at_call 333;(with_reducible refine (Kv H4 hA.ld hB.ld ((hA2.ext hb3).ext hb4).ds ((hBb.ext hb3).ext hb4).ds).mono ?_);rintro e w5 ⟨rfl,hb5⟩))
     go_ret
     exact ⟨Zm (by unfold Vh;rw [H2.out,H3.out,H4.out,decide_eq_true H1.out];rfl),((hB2.trans (hb3.mono hB2.size)).trans (hb4.mono (by have:=hB2.size;have:=hb3.size;omega))).trans (hb5.mono (by have:=hB2.size;have:=hb3.size;have:=hb4.size;omega))⟩
 ·have h1':(A.id == B.id)=false:=by simpa using h1
  have H1:Hid (¬ A.id=B.id):=h1
  clear h1
  go_enter Tryz.func306,Tryz.ntmps306
  go_wp2
  go_ret
  exact ⟨Zm (by unfold Vh;rw [decide_eq_false H1.out];rfl),hB2⟩
set_option maxRecDepth 100000 in
set_option maxHeartbeats 3200000 in
theorem za5 (hA:Zt w am al ad A) (hB:Zt w bm bl bd B) :
  Calls Tryz.prog 15 #[.agg #[.int .u64 A.id,.slice am A.ms.length cm,.slice al A.ls.length cl,.slice ad A.ds.length cd],.agg #[.int .u64 B.id,.slice bm B.ms.length em,.slice bl B.ls.length el,.slice bd B.ds.length ed]] w λe w'=>e=.returned (.bool (Vh A B))∧Below w.heap.size w w':=by
 have hB2:Below w.heap.size w ((w.alloc (.cells #[.int .u64 A.id,.slice am A.ms.length cm,.slice al A.ls.length cl,.slice ad A.ds.length cd] 35)).alloc (.cells #[.int .u64 B.id,.slice bm B.ms.length em,.slice bl B.ls.length el,.slice bd B.ds.length ed] 35)):=(bra).alloc (by simp) _
 have hA2:=hA.ext hB2
 have hBb:=hB.ext hB2
 have xA:ZB ((w.alloc (.cells #[.int .u64 A.id,.slice am A.ms.length cm,.slice al A.ls.length cl,.slice ad A.ds.length cd] 35)).alloc (.cells #[.int .u64 B.id,.slice bm B.ms.length em,.slice bl B.ls.length el,.slice bd B.ds.length ed] 35)) w.heap.size A am al ad cm cl cd:=(ZB.made (V:=A) w).ext (bra) (by simp)
 have xB:ZB ((w.alloc (.cells #[.int .u64 A.id,.slice am A.ms.length cm,.slice al A.ls.length cl,.slice ad A.ds.length cd] 35)).alloc (.cells #[.int .u64 B.id,.slice bm B.ms.length em,.slice bl B.ls.length el,.slice bd B.ds.length ed] 35)) (w.heap.size+1) B bm bl bd em el ed:=by
  have:=ZB.made (V:=B) (am:=bm) (al:=bl) (ad:=bd) (cm:=em) (cl:=el) (cd:=ed) (w.alloc (.cells #[.int .u64 A.id,.slice am A.ms.length cm,.slice al A.ls.length cl,.slice ad A.ds.length cd] 35))
  simpa using this
 have hAll:=hA.ll
 have hBll:=hB.ll
 by_cases h1:A.id=B.id
 ·have h1':(A.id != B.id)=false:=by simpa using h1
  have H1:=hid h1
  clear h1
  cases h2:decide (A.ms=B.ms)
  ·have H2:=hid h2
   clear h2
   go_enter Tryz.func15,Tryz.ntmps15
   go_wp2_with (go_at_call 37;refine (VP H2 hA.lm hB.lm hA2.ms hBb.ms).mono ?_;rintro e w3 ⟨rfl,hb3⟩)
   go_ret
   exact ⟨Zm (by unfold Vh;rw [H2.out];simp),hB2.trans (hb3.mono hB2.size)⟩
  ·have H2:=hid h2
   clear h2
   cases h4:decide (A.ds=B.ds)
   ·have H4:=hid h4
    clear h4
    go_enter Tryz.func15,Tryz.ntmps15
    go_wp2_with (first
     | (go_at_call_of 37 am;(with_reducible refine (VP H2 hA.lm hB.lm hA2.ms hBb.ms).mono ?_);rintro e w3 ⟨rfl,hb3⟩;obtain ⟨a0,a1,a2,a3⟩:=xA.ext hb3 xA.lt;obtain ⟨b0,b1,b2,b3⟩:=xB.ext hb3 xB.lt)
     | (go_at_call 37;(with_reducible refine (VP H4 hA.ld hB.ld (hA2.ext hb3).ds (hBb.ext hb3).ds).mono ?_);rintro e w4 ⟨rfl,hb4⟩))
    go_ret
    exact ⟨Zm (by unfold Vh;rw [H4.out];simp),(hB2.trans (hb3.mono hB2.size)).trans (hb4.mono (by have:=hB2.size;have:=hb3.size;omega))⟩
   ·have H4:=hid h4
    clear h4
    by_cases hl:A.ls.length=B.ls.length
    ·have hl':((A.ls.length:Int) != (B.ls.length:Int))=false:=by rw [hl];simp
     have hsp:=GB hl
     have HL:=hid hl
     have HSP:Hid (Vh A B=Vg A.ls B.ls):=by unfold Vh Hid;rw [H2.out,H4.out,decide_eq_true H1.out,← hsp];simp
     clear hl hsp
     go_enter Tryz.func15,Tryz.ntmps15
     go_wp2_with (first
      | (go_at_call_of 37 am;(with_reducible refine (VP H2 hA.lm hB.lm hA2.ms hBb.ms).mono ?_);rintro e w3 ⟨rfl,hb3⟩;obtain ⟨a0,a1,a2,a3⟩:=xA.ext hb3 xA.lt;obtain ⟨b0,b1,b2,b3⟩:=xB.ext hb3 xB.lt)
      | (go_at_call 37;(with_reducible refine (VP H4 hA.ld hB.ld (hA2.ext hb3).ds (hBb.ext hb3).ds).mono ?_);rintro e w4 ⟨rfl,hb4⟩;obtain ⟨d0,d1,d2,d3⟩:=(xA.ext hb3 xA.lt).ext hb4 (by have:=xA.lt;have:=hb3.size;omega);obtain ⟨e0,e1,e2,e3⟩:=(xB.ext hb3 xB.lt).ext hb4 (by have:=xB.lt;have:=hb3.size;omega)))
     have s3:=hb3.size
     have s4:=hb4.size
     have s2:=hB2.size
     have xA4:=(xA.ext hb3 xA.lt).ext hb4 (by have:=xA.lt;omega)
     have xB4:=(xB.ext hb3 xB.lt).ext hb4 (by have:=xB.lt;omega)
     have hA4:=(hA2.ext hb3).ext hb4
     have hB4:=(hBb.ext hb3).ext hb4
     have hW4:Below w.heap.size w w4:=(hB2.trans (hb3.mono s2)).trans (hb4.mono (by omega))
     clear hb3 hb4 hA2 hBb xA xB a0 a1 a2 a3 b0 b1 b2 b3 d0 d1 d2 d3 e0 e1 e2 e3 hB2
     go_loopw [4,5] (λrs kv wr=>rs=.bool false∧∃k:Nat,k≤A.ls.length∧kv=.int .i64 k∧Hid (Vh A B=Vg (A.ls.drop k) (B.ls.drop k))∧Below w4.heap.size w4 wr) (λ_ kv _=>A.ls.length - (intOf kv).toNat)
     case atStart=>exact ⟨rfl,0,Nat.zero_le _,rfl,HSP,Below.refl _ _⟩
     case round =>
      obtain ⟨rfl,k,hk,rfl,ha,hb⟩:=hrel
      obtain ⟨a0,a1,a2,a3⟩:=xA4.ext hb xA4.lt
      obtain ⟨b0,b1,b2,b3⟩:=xB4.ext hb xB4.lt
      by_cases hkt:k<A.ls.length
      ·have hkt':k<B.ls.length:=by have:=HL.out;omega
       obtain ⟨p1,o1,a1',c1,l1,rfl,hx1,q1,r1⟩:=hA4.ls.at hb rfl hkt
       obtain ⟨p2,o2,a2',c2,l2,rfl,hx2,q2,r2⟩:=hB4.ls.at hb rfl hkt'
       have hl1:l1.length≤70368744177664:=hA.le l1 (by rw [hx1];exact List.getElem_mem _)
       have hl2:l2.length≤70368744177664:=hB.le l2 (by rw [hx2];exact List.getElem_mem _)
       have hd:=JU hkt hkt' hx1 hx2
       have HD:=hid hd
       have u1:=Za a2
       have u2:=Za b2
       have u3:=Za q1
       have u4:=Za q2
       clear hd hx1 hx2
       cases hxy:decide (l1=l2)
       ·have HXY:=hid hxy
        clear hxy
        go_wp2
        refine Ze (w:=wr) (Below.refl _ _) (by kernel_rfl) (by kernel_rfl) ?_
        repeat (go_big_quiet_step (exact EM HXY hl1 hl2 r1 r2))
        refine wpQuiet_nil ?_
        rintro w9 ⟨⟨_,hb9⟩,rfl⟩
        go_wp2
        go_ret
        exact ⟨Zm (by rw [ha.out,HD.out,if_neg (of_decide_eq_false HXY.out)]),hW4.trans ((hb.trans (hb9.mono hb.size)).mono hW4.size)⟩
       ·have HXY:=hid hxy
        clear hxy
        go_wp2
        refine Ze (w:=wr) (Below.refl _ _) (by kernel_rfl) (by kernel_rfl) ?_
        repeat (go_big_quiet_step (exact EM HXY hl1 hl2 r1 r2))
        refine wpQuiet_nil ?_
        rintro w9 ⟨⟨_,hb9⟩,rfl⟩
        go_wp2
        go_roundw
        case rel=>exact ⟨rfl,k+1,by omega,by go_num,(ha.out.trans (by rw [HD.out,if_pos (of_decide_eq_true HXY.out)]):_),hb.trans (hb9.mono hb.size)⟩
        case measure=>simp [intOf];omega
      ·go_wp2
       go_ret
       exact ⟨Zm (by rw [ha.out,List.drop_eq_nil_of_le (by omega)];rfl),hW4.trans (hb.mono hW4.size)⟩
    ·have hl':((A.ls.length:Int) != (B.ls.length:Int))=true:=by rw [bne_iff_ne];omega
     have HNE:Hid (Vh A B=false):=by
      have:decide (A.ls=B.ls)=false:=by simp;intro e;exact hl (by rw [e])
      unfold Vh Hid;rw [this];simp
     clear hl
     go_enter Tryz.func15,Tryz.ntmps15
     go_wp2_with (first
      | (go_at_call_of 37 am;(with_reducible refine (VP H2 hA.lm hB.lm hA2.ms hBb.ms).mono ?_);rintro e w3 ⟨rfl,hb3⟩;obtain ⟨a0,a1,a2,a3⟩:=xA.ext hb3 xA.lt;obtain ⟨b0,b1,b2,b3⟩:=xB.ext hb3 xB.lt)
      | (go_at_call 37;(with_reducible refine (VP H4 hA.ld hB.ld (hA2.ext hb3).ds (hBb.ext hb3).ds).mono ?_);rintro e w4 ⟨rfl,hb4⟩;obtain ⟨d0,d1,d2,d3⟩:=(xA.ext hb3 xA.lt).ext hb4 (by have:=xA.lt;have:=hb3.size;omega);obtain ⟨e0,e1,e2,e3⟩:=(xB.ext hb3 xB.lt).ext hb4 (by have:=xB.lt;have:=hb3.size;omega)))
     go_ret
     exact ⟨Zm HNE.out.symm,(hB2.trans (hb3.mono hB2.size)).trans (hb4.mono (by have:=hB2.size;have:=hb3.size;omega))⟩
 ·have h1':(A.id != B.id)=true:=by simpa using h1
  have H1:Hid (¬ A.id=B.id):=h1
  clear h1
  go_enter Tryz.func15,Tryz.ntmps15
  go_wp2
  go_ret
  exact ⟨Zm (by unfold Vh;rw [decide_eq_false H1.out];rfl),hB2⟩
end
theorem zcy (A:Zs):Vh A A=true:=by simp [Vh]
instance:DecidableEq Zs:=λa b=>by
 obtain ⟨a1,a2,a3,a4⟩:=a
 obtain ⟨b1,b2,b3,b4⟩:=b
 exact decidable_of_iff (a1=b1∧a2=b2∧a3=b3∧a4=b4) (by simp)
structure Xu where
 kind:Int
 fr:Pid
 num:Nat
 vw:Nat
 data:List Nat
 v:Zs
def Ez (p:Pid):Bool:=decide (p.1<16) && decide (0<p.2)
def zaE (n:Nat):Bool:=decide (1≤n) && decide (n≤4611686018427387904)
def YE (c:Xu):Nat :=
 if c.kind=1 then (if c.fr=(0,0)∧c.num=0∧c.vw=0∧c.data=[]∧c.v=ZS then 0 else 1)
 else if c.kind=2 then (if Ez c.fr=true∧zaE c.num=true∧zaE c.vw=true∧c.v=ZS then (if 200<c.data.length then 14 else 0) else 1)
 else if c.kind=3 then (if c.fr=(0,0)∧c.num=0∧c.vw=0∧c.data=[]∧Vu c.v=true then 0 else 1)
 else 1
def zeroC:Xu:=⟨0,(0,0),0,0,[],ZS⟩
structure Kd where
 v:Nat
 ap:Nat
 be:Nat
 st:Nat
 sus:List Pid
def GF (p q:Pid):Bool:=decide (p.1<q.1∨p.1=q.1∧p.2<q.2)
def susB:Option Pid→List Pid→Bool
 | _,[]=>true
 | pr,p :: l=>(Ez p && (match pr with | none=>true | some q=>GF q p)) && susB (some p) l
def YC (x:Kd):Bool:=decide (x.v≤4611686018427387904) && (decide (x.ap≤4611686018427387904) && (decide (x.be≤4611686018427387904) && (decide (x.st≤4611686018427387904) && (decide (x.sus.length≤24) && susB none x.sus))))
def beatF (x:Kd):List Nat:=ZW x.v ++ (ZW x.ap ++ (ZW x.be ++ (ZW x.st ++ zct x.sus)))
def JV (bs:List Nat):List Int:=bs.map λb:Nat=>Int.ofNat b
theorem QE:∀{xs ys:List Nat},(∀b∈xs,b<256)→(∀b∈ys,b<256)→(Lib.bytesOf (JV xs)=Lib.bytesOf (JV ys)↔xs=ys)
 | [],[],_,_=>by simp
 | x :: xs,[],_,_=>by simp [Lib.bytesOf,JV]
 | [],y :: ys,_,_=>by simp [Lib.bytesOf,JV]
 | x :: xs,y :: ys,hx,hy=>by
  have ih:=QE (xs:=xs) (ys:=ys) (λb hb=>hx b (by simp [hb])) (λb hb=>hy b (by simp [hb]))
  have h1:=hx x (by simp)
  have h2:=hy y (by simp)
  have hu:UInt8.ofNat x=UInt8.ofNat y↔x=y:=by
   constructor
   ·intro h
    have:=congrArg UInt8.toNat h
    simp at this
    omega
   ·rintro rfl;rfl
  simp only [Lib.bytesOf,JV,List.map_cons,List.cons.injEq,Int.toNat_natCast,Int.ofNat_eq_natCast] at ih ⊢
  rw [hu,ih]
theorem Jc {a:Option Addr} {c n:Nat} {xs:List Nat} {w:World} (hn:xs.length=n) (hx:Zg w a xs) :
  (convert 46 9 (.slice a n c)).run Tryz.prog w=.ok (.string (strOfNums (JV xs))) w:=by
 have hs:Tryz.prog.underlying 46=some (.slice 5):=by kernel_rfl
 have he:Tryz.prog.underlying 5=some (.int .u8):=by kernel_rfl
 have hd:Tryz.prog.underlying 9=some .string:=by kernel_rfl
 subst hn
 rcases hx with rfl | ⟨b,off,rfl,hlt,hc⟩
 ·rw [show strOfNums (JV [])=ByteArray.empty from rfl,List.length_nil]
  rw [run_convert_bytes_string w 46 9 5 _ 0 c hs he hd]
  cases a <;> simp [Conv.bytesToString,loadCells]
  all_goals rfl
 ·exact run_convert_bytes_arg (P:=Tryz.prog) w 46 5 hs he b off xs.length c (JV xs) (by simp [JV]) (λi hi=>by rw [hc i hi];simp [JV,List.getD,List.getElem?_eq_getElem hi]) 9 hd
set_option maxRecDepth 100000 in
set_option maxHeartbeats 800000 in
theorem zcL {a b:Option Addr} {ca cb n m:Nat} {xs ys:List Nat} {w:World} (hn:Hid (xs.length=n)) (hm:Hid (ys.length=m)) (hbx:∀b∈xs,b<256) (hby:∀b∈ys,b<256) (hx:Zg w a xs) (hy:Zg w b ys) :
  Calls Tryz.prog 307 #[.slice a n ca,.slice b m cb] w λe w'=>e=.returned (.bool (decide (xs=ys)))∧w'=w:=by
 have g1:=Jc (c:=ca) hn.out hx
 have g2:=Jc (c:=cb) hm.out hy
 have hr:((strOfNums (JV xs)).toList == (strOfNums (JV ys)).toList)=decide (xs=ys):=by
  rw [Lib.strOfNums_toList,Lib.strOfNums_toList,Bool.eq_iff_iff]
  simp [QE hbx hby]
 have HR:=hid hr
 clear hr hn hm hx hy hbx hby
 go_enter Tryz.func307,Tryz.ntmps307
 go_wp2
 go_ret
 exact ⟨Zm HR.out,rfl⟩
theorem zdf {a b:Option Addr} {ca cb n m:Nat} {xs ys:List Nat} {w:World} {r:Bool} (h:Hid (decide (xs=ys)=r)) (hn:Hid (xs.length=n)) (hm:Hid (ys.length=m)) (hbx:∀b∈xs,b<256) (hby:∀b∈ys,b<256) (hx:Zg w a xs) (hy:Zg w b ys) :
  Calls Tryz.prog 307 #[.slice a n ca,.slice b m cb] w λe w'=>e=.returned (.bool r)∧w'=w:=by
 have:=zcL (ca:=ca) (cb:=cb) (w:=w) hn hm hbx hby hx hy
 rw [h.out] at this;exact this
set_option maxRecDepth 100000 in
set_option maxHeartbeats 800000 in
theorem zbg (n:Nat) (w:World):Calls Tryz.prog 296 #[.int .u64 n] w λe w'=>e=.returned (.bool (zaE n))∧w'=w:=by
 by_cases h1:1≤n
 ·have h1':decide ((n:Int) ≥ 1)=true:=by simp;omega
  have h1'':decide ((1:Int)≤n)=true:=by simp;omega
  by_cases h2:n≤4611686018427387904
  ·have h2':decide ((n:Int)≤4611686018427387904)=true:=by simp;omega
   have HR:Hid (zaE n=true):=by unfold zaE Hid;simp [h1,h2]
   clear h1 h2
   go_enter Tryz.func296,Tryz.ntmps296
   go_wp2
   go_ret
   exact ⟨Zm HR.out.symm,rfl⟩
  ·have h2':decide ((n:Int)≤4611686018427387904)=false:=by simp;omega
   have HR:Hid (zaE n=false):=by unfold zaE Hid;simp [h1,h2]
   clear h1 h2
   go_enter Tryz.func296,Tryz.ntmps296
   go_wp2
   go_ret
   exact ⟨Zm HR.out.symm,rfl⟩
 ·have h1':decide ((n:Int) ≥ 1)=false:=by simp;omega
  have h1'':decide ((1:Int)≤n)=false:=by simp;omega
  have HR:Hid (zaE n=false):=by unfold zaE Hid;simp [h1]
  clear h1
  go_enter Tryz.func296,Tryz.ntmps296
  go_wp2
  go_ret
  exact ⟨Zm HR.out.symm,rfl⟩
set_option maxRecDepth 100000 in
set_option maxHeartbeats 800000 in
theorem mayP_any (x y:Int) (hy:0≤y) (w:World):Calls Tryz.prog 159 #[.agg #[.int .u16 x,.int .u32 y]] w λe w'=>e=.returned (.bool (Ez (x,y)))∧Below w.heap.size w w':=by
 by_cases h1:x<16
 ·have h1':decide (x<16)=true:=by simpa using h1
  by_cases h2:y=0
  ·have h2':(y != 0)=false:=by simp [h2]
   have HR:Hid (Ez (x,y)=false):=by unfold Ez Hid;simp [h1,h2]
   clear h1 h2 hy
   go_enter Tryz.func159,Tryz.ntmps159
   go_wp2
   go_ret
   exact ⟨Zm HR.out.symm,bra⟩
  ·have h2':(y != 0)=true:=by simp [h2]
   have HR:Hid (Ez (x,y)=true):=by unfold Ez Hid;simp [h1];omega
   clear h1 h2 hy
   go_enter Tryz.func159,Tryz.ntmps159
   go_wp2
   go_ret
   exact ⟨Zm HR.out.symm,bra⟩
 ·have h1':decide (x<16)=false:=by simpa using h1
  have HR:Hid (Ez (x,y)=false):=by unfold Ez Hid;simp [h1]
  clear h1 hy
  go_enter Tryz.func159,Tryz.ntmps159
  go_wp2
  go_ret
  exact ⟨Zm HR.out.symm,bra⟩
def Gp (da am al ad:Option Addr) (dc cm cl cd:Nat) (c:Xu):Array Value :=
 #[.int .i64 c.kind,.int .u16 c.fr.1,.int .u32 c.fr.2,.int .u64 c.num,.int .u64 c.vw,.slice da c.data.length dc,.int .u64 c.v.id,.slice am c.v.ms.length cm,.slice al c.v.ls.length cl,.slice ad c.v.ds.length cd]
structure Eb (w:World) (da am al ad:Option Addr) (c:Xu):Prop where
 dr:Zg w da c.data
 dl:c.data.length≤70368744177664
 db:∀b∈c.data,b<256
 v:Zt w am al ad c.v
theorem Eb.ext {w w':World} {da am al ad:Option Addr} {c:Xu} (h:Eb w da am al ad c) (hb:Below w.heap.size w w'):Eb w' da am al ad c :=
 ⟨h.dr.ext hb,h.dl,h.db,h.v.ext hb⟩
structure XX (w:World) (b:Nat) (c:Xu) (da am al ad:Option Addr) (dc cm cl cd:Nat):Prop where
 c0:w.cell? ⟨b,0,none⟩=some (.int .i64 c.kind)
 c1:w.cell? ⟨b,1,none⟩=some (.int .u16 c.fr.1)
 c2:w.cell? ⟨b,2,none⟩=some (.int .u32 c.fr.2)
 c3:w.cell? ⟨b,3,none⟩=some (.int .u64 c.num)
 c4:w.cell? ⟨b,4,none⟩=some (.int .u64 c.vw)
 c5:w.cell? ⟨b,5,none⟩=some (.slice da c.data.length dc)
 c6:w.cell? ⟨b,6,none⟩=some (.int .u64 c.v.id)
 c7:w.cell? ⟨b,7,none⟩=some (.slice am c.v.ms.length cm)
 c8:w.cell? ⟨b,8,none⟩=some (.slice al c.v.ls.length cl)
 c9:w.cell? ⟨b,9,none⟩=some (.slice ad c.v.ds.length cd)
section
variable {w w':World} {b:Nat} {c:Xu} {da am al ad:Option Addr} {dc cm cl cd:Nat}
theorem XX.lt (h:XX w b c da am al ad dc cm cl cd):b<w.heap.size:=World.block_lt_of_cell? w _ h.c0
theorem XX.ext (h:XX w b c da am al ad dc cm cl cd) {B:Nat} (hb:Below B w w') (hB:b<B):XX w' b c da am al ad dc cm cl cd:=by
 have g:∀k,w'.cell? ⟨b,k,none⟩=w.cell? ⟨b,k,none⟩:=λk=>hb.cell (by exact hB)
 exact ⟨(g 0).trans h.c0,(g 1).trans h.c1,(g 2).trans h.c2,(g 3).trans h.c3,(g 4).trans h.c4,(g 5).trans h.c5,(g 6).trans h.c6,(g 7).trans h.c7,(g 8).trans h.c8,(g 9).trans h.c9⟩
theorem XX.made (w:World):XX (w.alloc (.cells (Gp da am al ad dc cm cl cd c) 126)) w.heap.size c da am al ad dc cm cl cd:=by
 unfold Gp
 exact ⟨by simp,by simp,by simp,by simp,by simp,by simp,by simp,by simp,by simp,by simp⟩
end
def XK (a b:Xu):Bool:=decide (a.kind=b.kind) && (decide (a.fr=b.fr) && (decide (a.num=b.num) && (decide (a.vw=b.vw) && (decide (a.data=b.data) && Vh a.v b.v))))
theorem zcb {a b:Option Addr} {ca cb n m:Nat} {xs ys:List Nat} {w:World} {r:Bool} (h:Hid (decide (xs=ys)=r)) (hn:Hid (xs.length=n)) (hm:Hid (ys.length=m)) (hbx:∀b∈xs,b<256) (hby:∀b∈ys,b<256) (hx:Zg w a xs) (hy:Zg w b ys) :
  Calls Tryz.prog 307 #[.slice a n ca,.slice b m cb] w λe w'=>e=.returned (.bool r)∧Below w.heap.size w w' :=
 (zdf h hn hm hbx hby hx hy).mono λ_ _ ⟨h1,h2⟩=>⟨h1,h2 ▸ Below.refl _ _⟩
theorem za8 {A B:Zs} {am al ad bm bl bd:Option Addr} {cm cl cd em el ed:Nat} {w:World} {r:Bool} (h:Hid (Vh A B=r)) (hA:Zt w am al ad A) (hB:Zt w bm bl bd B) :
  Calls Tryz.prog 306 #[.agg #[.int .u64 A.id,.slice am A.ms.length cm,.slice al A.ls.length cl,.slice ad A.ds.length cd],.agg #[.int .u64 B.id,.slice bm B.ms.length em,.slice bl B.ls.length el,.slice bd B.ds.length ed]] w λe w'=>e=.returned (.bool r)∧Below w.heap.size w w':=by
 have:=zai A B am al ad bm bl bd cm cl cd em el ed w hA hB
 rw [h.out] at this;exact this
set_option maxRecDepth 100000 in
set_option maxHeartbeats 6400000 in
theorem KX {A B:Xu} {da am al ad db bm bl bd:Option Addr} {dc cm cl cd ec em el ed:Nat} {w:World} (hA:Eb w da am al ad A) (hB:Eb w db bm bl bd B) :
  Calls Tryz.prog 297 #[.agg (Gp da am al ad dc cm cl cd A),.agg (Gp db bm bl bd ec em el ed B)] w λe w'=>e=.returned (.bool (XK A B))∧Below w.heap.size w w':=by
 have hB2:Below w.heap.size w ((w.alloc (.cells (Gp da am al ad dc cm cl cd A) 126)).alloc (.cells (Gp db bm bl bd ec em el ed B) 126)):=(bra).alloc (by simp) _
 have hA2:=hA.ext hB2
 have hBb:=hB.ext hB2
 have xA:XX ((w.alloc (.cells (Gp da am al ad dc cm cl cd A) 126)).alloc (.cells (Gp db bm bl bd ec em el ed B) 126)) w.heap.size A da am al ad dc cm cl cd:=(XX.made (c:=A) w).ext (bra) (by simp)
 have xB:XX ((w.alloc (.cells (Gp da am al ad dc cm cl cd A) 126)).alloc (.cells (Gp db bm bl bd ec em el ed B) 126)) (w.heap.size+1) B db bm bl bd ec em el ed:=by
  have:=XX.made (c:=B) (da:=db) (am:=bm) (al:=bl) (ad:=bd) (dc:=ec) (cm:=em) (cl:=el) (cd:=ed) (w.alloc (.cells (Gp da am al ad dc cm cl cd A) 126))
  simpa using this
 have hAdl:=hA.dl
 have hBdl:=hB.dl
 obtain ⟨a0,a1,a2,a3,a4,a5,a6,a7,a8,a9⟩:=id xA
 obtain ⟨b0,b1,b2,b3,b4,b5,b6,b7,b8,b9⟩:=id xB
 have hdr:=hA2.dr
 have hdrb:=hBb.dr
 have hdb:=hA2.db
 have hdbb:=hBb.db
 have hvA:=hA2.v
 have hvB:=hBb.v
 have he:=λw=>VK A.fr.1 A.fr.2 B.fr.1 B.fr.2 w
 have hl:∀(x:Xu) (da am al ad:Option Addr) (dc cm cl cd:Nat),Gp da am al ad dc cm cl cd x=#[.int .i64 x.kind,.int .u16 x.fr.1,.int .u32 x.fr.2,.int .u64 x.num,.int .u64 x.vw,.slice da x.data.length dc,.int .u64 x.v.id,.slice am x.v.ms.length cm,.slice al x.v.ls.length cl,.slice ad x.v.ds.length cd]:=λ_ _ _ _ _ _ _ _ _=>rfl
 simp only [hl] at *
 clear hA hB hA2 hBb hl
 have HNA:Hid (A.data.length=A.data.length):=hid rfl
 have HNB:Hid (B.data.length=B.data.length):=hid rfl
 by_cases h1:A.kind=B.kind
 ·have h1':(A.kind == B.kind)=true:=by simpa using h1
  have H1:=hid h1
  clear h1
  by_cases h2:A.fr=B.fr
  ·rw [show decide ((A.fr.1,A.fr.2)=(B.fr.1,B.fr.2))=true from decide_eq_true (p:=(A.fr.1,A.fr.2)=(B.fr.1,B.fr.2)) h2] at he
   have H2:=hid h2
   clear h2
   by_cases h3:A.num=B.num
   ·have h3':((A.num:Int) == (B.num:Int))=true:=by rw [beq_iff_eq];omega
    have H3:=hid h3
    clear h3
    by_cases h4:A.vw=B.vw
    ·have h4':((A.vw:Int) == (B.vw:Int))=true:=by rw [beq_iff_eq];omega
     have H4:=hid h4
     clear h4
     cases h5:decide (A.data=B.data)
     ·have H5:=hid h5
      clear h5
      go_enter Tryz.func297,Tryz.ntmps297
      go_wp2_with (first
       | (go_at_call 307;refine (zcb H5 HNA HNB hdb hdbb hdr hdrb).mono ?_;rintro e w3 ⟨rfl,hb3⟩))
      go_ret
      exact ⟨Zm (by unfold XK;simp only [H1.out,H2.out,H3.out,H4.out,decide_true,Bool.true_and];rw [H5.out];rfl),hB2.trans (hb3.mono hB2.size)⟩
     ·have H5:=hid h5
      clear h5
      obtain ⟨r,hr⟩:∃r,Vh A.v B.v=r:=⟨_,rfl⟩
      have HR:=hid hr
      clear hr
      go_enter Tryz.func297,Tryz.ntmps297
      go_wp2_with (first
       | (go_at_call 307;refine (zcb H5 HNA HNB hdb hdbb hdr hdrb).mono ?_;rintro e w3 ⟨rfl,hb3⟩;obtain ⟨p0,p1,p2,p3,p4,p5,p6,p7,p8,p9⟩:=xA.ext hb3 xA.lt;obtain ⟨q0,q1,q2,q3,q4,q5,q6,q7,q8,q9⟩:=xB.ext hb3 xB.lt)
       | (go_at_call 306;refine (za8 HR (hvA.ext hb3) (hvB.ext hb3)).mono ?_;rintro e w4 ⟨rfl,hb4⟩))
      go_ret
      exact ⟨Zm (by unfold XK;simp only [H1.out,H2.out,H3.out,H4.out,decide_true,Bool.true_and];rw [H5.out,HR.out];rfl),(hB2.trans (hb3.mono hB2.size)).trans (hb4.mono (by have:=hB2.size;have:=hb3.size;omega))⟩
    ·have h4':((A.vw:Int) == (B.vw:Int))=false:=by rw [beq_eq_false_iff_ne];omega
     have H4:Hid (¬ (A.vw=B.vw)):=h4
     clear h4
     go_enter Tryz.func297,Tryz.ntmps297
     go_wp2
     go_ret
     exact ⟨Zm (by unfold XK;(try simp only [decide_true,Bool.true_and,H1.out,H2.out,H3.out]);rw [decide_eq_false H4.out];rfl),hB2⟩
   ·have h3':((A.num:Int) == (B.num:Int))=false:=by rw [beq_eq_false_iff_ne];omega
    have H3:Hid (¬ (A.num=B.num)):=h3
    clear h3
    go_enter Tryz.func297,Tryz.ntmps297
    go_wp2
    go_ret
    exact ⟨Zm (by unfold XK;(try simp only [decide_true,Bool.true_and,H1.out,H2.out]);rw [decide_eq_false H3.out];rfl),hB2⟩
  ·rw [show decide ((A.fr.1,A.fr.2)=(B.fr.1,B.fr.2))=false from decide_eq_false (p:=(A.fr.1,A.fr.2)=(B.fr.1,B.fr.2)) h2] at he
   have H2:Hid (¬ (A.fr=B.fr)):=h2
   clear h2
   go_enter Tryz.func297,Tryz.ntmps297
   go_wp2
   go_ret
   exact ⟨Zm (by unfold XK;(try simp only [decide_true,Bool.true_and,H1.out]);rw [decide_eq_false H2.out];rfl),hB2⟩
 ·have h1':(A.kind == B.kind)=false:=by simpa using h1
  have H1:Hid (¬ (A.kind=B.kind)):=h1
  clear h1
  go_enter Tryz.func297,Tryz.ntmps297
  go_wp2
  go_ret
  exact ⟨Zm (by unfold XK;(try simp only [decide_true,Bool.true_and]);rw [decide_eq_false H1.out];rfl),hB2⟩
end Go.Proofs.YtcdpaflmofljaaaGreat
