import Derived.Test.YtcdpaflmofljaaaGreatChecked
import Derived.WalkKit
import Derived.WalkLawsBesides
import Derived.WalkSpells
import Derived.Deep.QuietTactic
import Derived.BigQuiet
import Derived.Deep.RegionHeld
import Derived.Deep.MidRow
import Derived.Laws.MakeOwn
import Derived.Laws.CopyOwn
import Derived.Maps.AppendAt
import Derived.Laws.BitsAllLaws
import Derived.Lib.SliceRun
import Derived.Lib.AppendZerosOnto
import Derived.Deep.RegionWith
import Derived.Deep.RegionHeld3
import Derived.Maps.OwnSet
/- Parts of the proof of NodeNil: Base CZ X1 X2 X3 X5a X7 X8 W2 Maps W3 W4 W5 W6 W7 W8 R1. -/
namespace Go.Proofs.YtcdpaflmofljaaaGreat
open Go.RowKit
theorem hid {p:Prop} (h:p):Hid p:=h
theorem ZE {k:IntKind} {a b:Int} (h:a=b):Ending.returned (.int k a)=.returned (.int k b):=by rw [h]
theorem Zm {a b:Bool} (h:a=b):Ending.returned (.bool a)=.returned (.bool b):=by rw [h]
abbrev Pid:=Int × Int
def Zb (w:World) (a:Option Addr) (xs:List Pid):Prop :=
 xs=[]∨∃b off,a=some ⟨b,off,none⟩∧b<w.heap.size∧∀i (h:i<xs.length),w.cell? ⟨b,off+i * 2,none⟩=some (.int .u16 xs[i].1)∧w.cell? ⟨b,off+i * 2+1,none⟩=some (.int .u32 xs[i].2)
theorem Zb.get {w:World} {a:Option Addr} {xs:List Pid} (h:Zb w a xs) (h0:0<xs.length) :
  ∃b off,a=some ⟨b,off,none⟩∧b<w.heap.size∧∀i (h:i<xs.length),w.cell? ⟨b,off+i * 2,none⟩=some (.int .u16 xs[i].1)∧w.cell? ⟨b,off+i * 2+1,none⟩=some (.int .u32 xs[i].2):=by
 rcases h with rfl | h
 ·simp at h0
 ·exact h
theorem Zb.below {w w':World} {a:Option Addr} {xs:List Pid} (h:Zb w a xs) {B:Nat} (hb:Below B w w') (hB:∀b off,a=some ⟨b,off,none⟩→b<B):Zb w' a xs:=by
 rcases h with rfl | ⟨b,off,rfl,hlt,hc⟩
 ·exact .inl rfl
 ·refine .inr ⟨b,off,rfl,by have:=hb.size;omega,λi hi=>?_⟩
  have:=hB b off rfl
  rw [hb.cell (by exact this),hb.cell (by exact this)]
  exact hc i hi
theorem Zb.ext {w w':World} {a:Option Addr} {xs:List Pid} (h:Zb w a xs) (hb:Below w.heap.size w w'):Zb w' a xs:=by
 rcases h with rfl | ⟨b,off,rfl,hlt,hc⟩
 ·exact .inl rfl
 ·exact Zb.below (.inr ⟨b,off,rfl,hlt,hc⟩) hb (λb' off' e=>by cases e;exact hlt)
theorem Zb.at {w wr:World} {a:Option Addr} {xs:List Pid} (h:Zb w a xs) {B:Nat} (hb:Below B w wr) (hB:B=w.heap.size) {k:Nat} (hk:k<xs.length) :
  ∃b off x y,a=some ⟨b,off,none⟩∧(x,y)=xs[k]∧wr.cell? ⟨b,off+k * 2,none⟩=some (.int .u16 x)∧wr.cell? ⟨b,off+k * 2+1,none⟩=some (.int .u32 y):=by
 subst hB
 obtain ⟨b,off,rfl,hlt,hc⟩:=h.get (by omega)
 refine ⟨b,off,xs[k].1,xs[k].2,rfl,rfl,?_,?_⟩
 ·rw [hb.cell (by exact hlt)];exact (hc k hk).1
 ·rw [hb.cell (by exact hlt)];exact (hc k hk).2
theorem Xq {B:Nat} {a w:World} (h:Below B a w) (n:Nat):Below B a (w.drewN n):=⟨h.os,h.tape,h.output,h.size,h.block⟩
def YI (p:Pid):List Pid→Nat→Int
 | [],_=>-1
 | x :: xs,k=>if x=p then k else YI p xs (k+1)
def Ks (xs:List Pid) (p:Pid):Int:=YI p xs 0
theorem VM {xs:List Pid} {k:Nat} (h:k<xs.length) (p:Pid):YI p (xs.drop k) k=if xs[k]=p then (k:Int) else YI p (xs.drop (k+1)) (k+1):=by
 rw [List.drop_eq_getElem_cons h];rfl
theorem GO {xs:List Pid} {k:Nat} (h:xs.length≤k) (p:Pid):YI p (xs.drop k) k=-1:=by
 rw [List.drop_eq_nil_of_le h];rfl
theorem JY {W w1:World} (hb:Below W.heap.size W w1):(∀b o,b<W.heap.size→w1.cell? ⟨b,o,none⟩=W.cell? ⟨b,o,none⟩)∧(∀b o,b<W.heap.size→w1.frozen? ⟨b,o,none⟩=W.frozen? ⟨b,o,none⟩) :=
 ⟨λb o h=>hb.cell (p:=⟨b,o,none⟩) h,λb o h=>hb.frozen (p:=⟨b,o,none⟩) h⟩
def Zp (w:World) (a:Option Addr) (ls:List (List Pid)):Prop :=
 ls=[]∨∃b off,a=some ⟨b,off,none⟩∧b<w.heap.size∧∀i (h:i<ls.length),∃ai ci,w.cell? ⟨b,off+i,none⟩=some (.slice ai ls[i].length ci)∧Zb w ai ls[i]
theorem Zp.ext {w w':World} {a:Option Addr} {ls:List (List Pid)} (h:Zp w a ls) (hb:Below w.heap.size w w'):Zp w' a ls:=by
 rcases h with rfl | ⟨b,off,rfl,hlt,hc⟩
 ·exact .inl rfl
 ·refine .inr ⟨b,off,rfl,by have:=hb.size;omega,λi hi=>?_⟩
  obtain ⟨ai,ci,h1,h2⟩:=hc i hi
  exact ⟨ai,ci,by rw [hb.cell (by exact hlt)];exact h1,h2.ext hb⟩
theorem Zp.at {w wr:World} {a:Option Addr} {ls:List (List Pid)} (h:Zp w a ls) {B:Nat} (hb:Below B w wr) (hB:B=w.heap.size) {k:Nat} (hk:k<ls.length) :
  ∃b off ai ci l,a=some ⟨b,off,none⟩∧l=ls[k]∧wr.cell? ⟨b,off+k,none⟩=some (.slice ai l.length ci)∧Zb wr ai l:=by
 subst hB
 rcases h with rfl | ⟨b,off,rfl,hlt,hc⟩
 ·simp at hk
 ·obtain ⟨ai,ci,h1,h2⟩:=hc k hk
  exact ⟨b,off,ai,ci,ls[k],rfl,rfl,by rw [hb.cell (by exact hlt)];exact h1,h2.ext hb⟩
structure Zs where
 id:Int
 ms:List Pid
 ls:List (List Pid)
 ds:List Pid
structure Zt (w:World) (am al ad:Option Addr) (V:Zs):Prop where
 ms:Zb w am V.ms
 ls:Zp w al V.ls
 ds:Zb w ad V.ds
 lm:V.ms.length≤70368744177664
 ll:V.ls.length≤70368744177664
 ld:V.ds.length≤70368744177664
 le:∀l∈V.ls,l.length≤70368744177664
theorem Zt.ext {w w':World} {am al ad:Option Addr} {V:Zs} (h:Zt w am al ad V) (hb:Below w.heap.size w w'):Zt w' am al ad V :=
 ⟨h.ms.ext hb,h.ls.ext hb,h.ds.ext hb,h.lm,h.ll,h.ld,h.le⟩
theorem VK (a b c d:Int) (w:World):(binOp .eql 25 (.agg #[.int .u16 a,.int .u32 b]) (.agg #[.int .u16 c,.int .u32 d])).run Tryz.prog w=.ok (.bool (decide ((a,b)=(c,d)))) w:=by
 have hS:Tryz.prog.underlying 25=some (.struct (Tryz.prog.fieldsOf 25)):=by kernel_rfl
 have hp:Tryz.prog.stoodInHeld 25=false:=by kernel_rfl
 rw [run_eql_struct,show (10000:Nat)=9999+1 from rfl,run_equalIn_agg w 9999 25 _ _ hS hp]
 simp only [Program.fieldsOf,Tryz.underlying25]
 go_simp
 by_cases h1:a=c <;> by_cases h2:b=d <;> simp [h1,h2]
theorem zee (a b c d:Int) (w:World):(binOp .neq 25 (.agg #[.int .u16 a,.int .u32 b]) (.agg #[.int .u16 c,.int .u32 d])).run Tryz.prog w=.ok (.bool (!decide ((a,b)=(c,d)))) w:=by
 have hS:Tryz.prog.underlying 25=some (.struct (Tryz.prog.fieldsOf 25)):=by kernel_rfl
 have hp:Tryz.prog.stoodInHeld 25=false:=by kernel_rfl
 rw [run_neq_struct,show (10000:Nat)=9999+1 from rfl,run_equalIn_agg w 9999 25 _ _ hS hp]
 simp only [Program.fieldsOf,Tryz.underlying25]
 go_simp
 by_cases h1:a=c <;> by_cases h2:b=d <;> simp [h1,h2]
end Go.Proofs.YtcdpaflmofljaaaGreat
namespace Go.Proofs.YtcdpaflmofljaaaGreat
open Go.RowKit
theorem bra {w:World} {o:Obj}:Below w.heap.size w (w.alloc o):=(Below.refl _ _).alloc (Nat.le_refl _) _
theorem lay:(∀(a:Go.Act) (d:Nat) (v:Value),a.put (some d) v={ a with tmps:=a.tmps.setIfInBounds d v })∧(∀(a:Go.Act) (v:Value),a.put none v=a)∧(∀(l:List Value) (i:Nat) (v:Value),l.toArray.setIfInBounds i v=(l.set i v).toArray)∧(∀(x v:Value) (l:List Value),(x :: l).set 0 v=v :: l)∧(∀(x v:Value) (l:List Value) (i:Nat),(x :: l).set (i+1) v=x :: l.set i v)∧(∀(α:Type) (l:List α) (i:Nat) (h:i<l.toArray.size),l.toArray[i]=l[i]'h)∧(∀(α:Type) (x:α) (l:List α) (h:0<(x :: l).length),(x :: l)[0]'h=x)∧(∀(α:Type) (x:α) (l:List α) (i:Nat) (h:i+1<(x :: l).length),(x :: l)[i+1]'h=l[i]'(Nat.lt_of_succ_lt_succ h)) :=
 ⟨λ_ _ _=>rfl,λ_ _=>rfl,λ_ _ _=>by simp,λ_ _ _=>rfl,λ_ _ _ _=>rfl,λ_ _ _ _=>rfl,λ_ _ _ _=>rfl,λ_ _ _ _ _=>rfl⟩
section
variable {P:Program} {md:Region.Mode} {ops:Array Oper} {Q:Exit→Go.Act→World→Prop} {S:World→Prop} {fuel:Nat} {listed:Array Bool} {a:Go.Act} {w:World} {oi:Oper}
theorem tkT (i:Nat) (v:Value) (hi:ops[i]?=some oi) (hy:YieldsIf P ops S oi v a) (h:wpAnyH P md ops Q S fuel (listed.setIfInBounds i true) (a.put oi.dst v) w)
  (hQ:∀c a w,Q (.panic c) (a.put oi.dst v) w→Q (.panic c) a w:=by exact λ_ _ _ h=>h) (hs:Region.noSelect ops=true:=by kernel_rfl) (hf:Region.free md ops listed i=true:=by kernel_rfl) (hr:(Region.ready md ops listed).contains i=true:=by kernel_rfl) (hS:S w:=by assumption):wpAnyH P md ops Q S (fuel+1) listed a w :=
 wpAnyH_take hi hs hf hr hQ hy hS h
theorem tkU (i:Nat) (hi:ops[i]?=some oi) (h:wpAnyH P md ops Q S fuel (listed.setIfInBounds i true) (a.put oi.dst undef) w) (hw:Region.wanted oi (yielded ops a.tmps)=false:=by rfl)
  (hQ:∀c a w,Q (.panic c) (a.put oi.dst undef) w→Q (.panic c) a w:=by exact λ_ _ _ h=>h) (hs:Region.noSelect ops=true:=by kernel_rfl) (hf:Region.free md ops listed i=true:=by kernel_rfl) (hr:(Region.ready md ops listed).contains i=true:=by kernel_rfl) (hS:S w:=by assumption):wpAnyH P md ops Q S (fuel+1) listed a w :=
 wpAnyH_take hi hs hf hr hQ (Or.inr ⟨hw,rfl⟩) hS h
theorem tkP (i:Nat) (v:Value) (hi:ops[i]?=some oi) (hy:∀w,S w→(execOp a.eval oi).run P w=.ok (.value v) w) (h:wpAnyH P md ops Q S fuel (listed.setIfInBounds i true) (a.put oi.dst v) w) (hw:Region.wanted oi (yielded ops a.tmps)=true:=by rfl)
  (hQ:∀c a w,Q (.panic c) (a.put oi.dst v) w→Q (.panic c) a w:=by exact λ_ _ _ h=>h) (hs:Region.noSelect ops=true:=by kernel_rfl) (hf:Region.free md ops listed i=true:=by kernel_rfl) (hr:(Region.ready md ops listed).contains i=true:=by kernel_rfl) (hS:S w:=by assumption):wpAnyH P md ops Q S (fuel+1) listed a w :=
 wpAnyH_take hi hs hf hr hQ (Or.inl ⟨hw,hy⟩) hS h
theorem tkv {a':Go.Act} (i:Nat) (v:Value) (hi:ops[i]?=some oi) (h:wpAnyH P md ops Q S fuel (listed.setIfInBounds i true) a' w) (ha:a.put oi.dst v=a':=by (try simp only [lay]);exact rfl) (hw:Region.wanted oi (yielded ops a.tmps)=true:=by rfl)
  (hy:∀w,S w→(execOp a.eval oi).run P w=.ok (.value v) w:=by intro W hSw;(try dsimp only at hSw);go_simp)
  (hQ:∀c a w,Q (.panic c) (a.put oi.dst v) w→Q (.panic c) a w:=by exact λ_ _ _ h=>h) (hs:Region.noSelect ops=true:=by kernel_rfl) (hf:Region.free md ops listed i=true:=by kernel_rfl) (hr:(Region.ready md ops listed).contains i=true:=by kernel_rfl) (hS:S w:=by assumption):wpAnyH P md ops Q S (fuel+1) listed a w :=
 wpAnyH_take hi hs hf hr hQ (Or.inl ⟨hw,hy⟩) hS (ha ▸ h)
theorem rd {rs:List Nat} (h:AllReadyH P md ops Q S fuel listed a w rs) (hr:Region.ready md ops listed=rs:=by kernel_rfl) (hne:rs≠[]:=by simp):wpAnyH P md ops Q S (fuel+1) listed a w:=wpAnyH_ready hr hne h
theorem rd1 (i:Nat) (ho:ops[i]?=some oi) (h:∀K':Go.Act→World→Prop,Shut (∀a w,S w→(S w→wpAnyH P md ops Q S fuel (listed.setIfInBounds i true) a w)→K' a w)→if Region.wanted oi (yielded ops a.tmps)=true then Oper.wp P oi a w K' Q else K' (a.put oi.dst undef) w)
  (hr:Region.ready md ops listed=[i]:=by kernel_rfl):wpAnyH P md ops Q S (fuel+1) listed a w:=wpAnyH_ready hr (by simp) (AllReadyH.cons ho h AllReadyH.nil)
theorem rhd {R:World→Prop} {id:Nat} (HS:∀W,R W→S W) (h0:R w.drew) (h:S w.drew→wpAnyH P .any ops Q S ops.size (Array.replicate ops.size false) a w.drew) (hm:P.follows .mixedOrders=true:=by kernel_rfl):(Code.region id ops true).wp P Q a w:=wp_region_held_drew hm (HS _ h0) h
theorem dn (h:Q .normal a w) (hr:Region.ready md ops listed=[]:=by kernel_rfl):wpAnyH P md ops Q S fuel listed a w:=wpAnyH_done hr h fuel
end
theorem Xx (b off n:Nat):(⟨b,off,none⟩:Addr).add n=⟨b,off+n,none⟩:=by
 unfold Addr.add;split <;> simp_all
theorem Zk {w wr:World} {a:Addr} {v:Value} (h:w.cell? a=some v) (hb:Below w.heap.size w wr):wr.cell? a=some v:=(hb.cell (World.block_lt_of_cell? w _ h)).trans h
def u8V (b:Nat):Value:=.int .u8 b
def u8C (bs:List Nat):List Value:=bs.map u8V
theorem QV (bs:List Nat):(u8C bs).length=bs.length:=by simp [u8C]
theorem u8C_app (xs ys:List Nat):u8C (xs ++ ys)=u8C xs ++ u8C ys:=by simp [u8C]
theorem zdK (xs:List Nat):∀u∈u8C xs,u.oneCell'=true:=by
 intro u hu
 obtain ⟨b,_,rfl⟩:=List.mem_map.1 hu
 rfl
def Zg (w:World) (a:Option Addr) (bs:List Nat):Prop :=
 bs=[]∨∃b off,a=some ⟨b,off,none⟩∧b<w.heap.size∧∀i (h:i<bs.length),w.cell? ⟨b,off+i,none⟩=some (.int .u8 (bs[i]:Nat))
theorem Zg.ext {w w':World} {a:Option Addr} {bs:List Nat} (h:Zg w a bs) (hb:Below w.heap.size w w'):Zg w' a bs:=by
 rcases h with rfl | ⟨b,off,rfl,hlt,hc⟩
 ·exact .inl rfl
 ·exact .inr ⟨b,off,rfl,by have:=hb.size;omega,λi hi=>by rw [hb.cell (by exact hlt)];exact hc i hi⟩
theorem Zg.alloc {w:World} {a:Option Addr} {bs:List Nat} (h:Zg w a bs) (o:Obj):Zg (w.alloc o) a bs:=h.ext (bra)
theorem Zg.at {w wr:World} {a:Option Addr} {bs:List Nat} (h:Zg w a bs) {B:Nat} (hb:Below B w wr) (hB:B=w.heap.size) {k:Nat} (hk:k<bs.length) :
  ∃b off x,a=some ⟨b,off,none⟩∧x=bs[k]∧wr.cell? ⟨b,off+k,none⟩=some (.int .u8 (x:Nat)):=by
 subst hB
 rcases h with rfl | ⟨b,off,rfl,hlt,hc⟩
 ·simp at hk
 ·exact ⟨b,off,bs[k],rfl,rfl,by rw [hb.cell (by exact hlt)];exact hc k hk⟩
theorem Zg.cells {w:World} {b off:Nat} {bs:List Nat} (hc:∀i (h:i<bs.length),w.cell? ⟨b,off+i,none⟩=some (.int .u8 (bs[i]:Nat))) :
  ∀j u,(u8C bs)[j]?=some u→w.cell? ((⟨b,off,none⟩:Addr).add j)=some u:=by
 intro j u hu
 have hj:j<(u8C bs).length:=(List.getElem?_eq_some_iff.1 hu).1
 rw [QV] at hj
 rw [Xx]
 rw [hc j hj,← hu]
 simp [u8C,u8V,hj]
theorem Zg.upto {w:World} {a:Option Addr} {bs:List Nat} (k:Nat) (h:Zg w a bs):Zg w a (bs.take k):=by
 rcases h with rfl | ⟨b,off,rfl,hlt,hc⟩
 ·exact .inl (by simp)
 ·exact .inr ⟨b,off,rfl,hlt,λi hi=>by rw [List.getElem_take];exact hc i (by simp at hi;omega)⟩
theorem infoB:(Tryz.prog.info? 5).map (λi=>(i.zero,i.size,i.bytes))=some (some (.int .u8 0),1,1):=by kernel_rfl
def Ys (w:World) (base:Nat) (v:Value) (bs:List Nat):Prop:=w.ownsRow base 5 1 v bs.length (u8C bs)
theorem Ys.nil (w:World) (base:Nat):Ys w base (.slice none 0 0) []:=World.ownsRow_nil _ _ _ _
theorem Ys.ext {w w':World} {base:Nat} {v:Value} {bs:List Nat} (h:Ys w base v bs) (hb:Below w.heap.size w w'):Ys w' base v bs:=by
 refine ⟨h.1,?_⟩
 rcases h.2 with hn | ⟨g,cap,cur,rfl,hbb,hgg,rest⟩
 ·exact .inl hn
 ·exact .inr ⟨g,cap,cur,rfl,hbb,(hb.block g (Array.getElem?_eq_some_iff.1 hgg).1).trans hgg,rest⟩
theorem Ys.alloc {w:World} {base:Nat} {v:Value} {bs:List Nat} (h:Ys w base v bs) (o:Obj):Ys (w.alloc o) base v bs:=h.ext (bra)
theorem Ys.mono {w:World} {b b':Nat} {v:Value} {bs:List Nat} (h:Ys w b v bs) (hb:b'≤b):Ys w b' v bs:=by
 refine ⟨h.1,?_⟩
 rcases h.2 with hn | ⟨g,cap,cur,rfl,hbb,rest⟩
 ·exact .inl hn
 ·exact .inr ⟨g,cap,cur,rfl,Nat.le_trans hb hbb,rest⟩
theorem Ys.row {w:World} {base:Nat} {v:Value} {bs:List Nat} (h:Ys w base v bs):∃a c,v=.slice a bs.length c∧Zg w a bs∧∀b off,a=some ⟨b,off,none⟩→base≤b:=by
 have hcells:=λg=>World.ownsRow.cells (g:=g) h
 rcases h.2 with ⟨rfl,hn⟩ | ⟨g,cap,cur,rfl,hb,hg,hnc,hcm,hcs,htake⟩
 ·exact ⟨none,0,by rw [hn],.inl (List.length_eq_zero_iff.1 hn),by simp⟩
 ·refine ⟨_,cap,rfl,.inr ⟨g,0,rfl,(Array.getElem?_eq_some_iff.1 hg).1,λi hi=>?_⟩,λb off e=>by cases e;exact hb⟩
  have h1:=hcells g rfl i (.int .u8 (bs[i]:Nat)) (by simp [u8C,u8V,hi])
  rw [Xx] at h1
  exact h1
theorem Ys.butT {w w':World} {base t:Nat} {v:Value} {bs:List Nat} (h:Ys w base v bs) (hb:∀k,k≠t→w'.heap[k]?=w.heap[k]?) (ht:some t≠v.ownBlock):Ys w' base v bs:=by
 refine ⟨h.1,?_⟩
 rcases h.2 with hn | ⟨g,cap,cur,rfl,hbb,hgg,rest⟩
 ·exact .inl hn
 ·exact .inr ⟨g,cap,cur,rfl,hbb,(hb g (λe=>ht (by rw [e];rfl))).trans hgg,rest⟩
theorem zbb {w:World} {base:Nat} {v:Value} {xs ys:List Nat} (hown:Ys w base v xs) {a:Option Addr} {c:Nat} (hy:Zg w a ys) (hlen:xs.length+ys.length≤1099511627776) (hbase:base≤w.heap.size) (ty:TypeId) :
  ∃v' w',(Builtin.append_ #[46,46] ty #[v,.slice a ys.length c]).run Tryz.prog w=.ok v' w'∧Ys w' base v' (xs ++ ys)∧w.grownBy w' v.ownBlock∧(v'.ownBlock=v.ownBlock∨v'.ownBlock=some w.heap.size):=by
 obtain ⟨i0,hi,hz0,hz1,hz2⟩:=info_parts infoB
 have main:∀ad:Addr,a=some ad→(∀j u,(u8C ys)[j]?=some u→w.cell? (ad.add j)=some u)→∃v' w',(Builtin.append_ #[46,46] ty #[v,.slice a ys.length c]).run Tryz.prog w=.ok v' w'∧Ys w' base v' (xs ++ ys)∧w.grownBy w' v.ownBlock∧(v'.ownBlock=v.ownBlock∨v'.ownBlock=some w.heap.size):=by
  intro ad he hc
  subst he
  obtain ⟨v',w',hr,h2,h3,h4,h5⟩:=run_append_own_at (P:=Tryz.prog) w base 46 ty 5 i0 _ 1 1 Tryz.underlying46 hi hz0 hz1 hz2 rfl (by decide) v xs.length (u8C xs) hown ad ys.length c (u8C ys) (by rw [QV];omega) hc (zdK ys) (by unfold maxLen;omega) (by omega) hbase
  refine ⟨v',w',hr,?_,h3,h5⟩
  unfold Ys;rw [List.length_append,u8C_app];exact h2
 rcases hy with rfl | ⟨b,off,rfl,hlt,hc⟩
 ·cases a with
  | some ad=>exact main ad rfl (by simp [u8C])
  | none =>
   refine ⟨v,w,?_,by simpa using hown,⟨rfl,rfl,rfl,Nat.le_refl _,λ_ _ _=>rfl⟩,.inl rfl⟩
   rcases hown.2 with ⟨rfl,hn⟩ | ⟨g,cap,cur,rfl,hb,hg,hnc,hcm,hcs,htake⟩
   ·simp [Builtin.append_,run_underlying Tryz.underlying46,sizeOf,typeInfo,hi,Builtin.lenOf,Builtin.firstCells]
   ·simp [Builtin.append_,run_underlying Tryz.underlying46,sizeOf,typeInfo,hi,Builtin.lenOf,Builtin.firstCells,hnc,storeCells]
 ·exact main _ rfl (Zg.cells hc)
theorem Xt {w:World} {ops:Array Oper} {rest:List Oper} {o:Oper} {a:Act} {Q:Exit→Act→World→Prop} {s x:Operand} {base:Nat} {v:Value} {xs ys:List Nat} (hown:Ys w base v xs) {ad:Option Addr} {c n:Nat} (hy:Zg w ad ys) (hn:Hid (ys.length=n))
  (hlen:xs.length+n≤1099511627776) (hbase:base≤w.heap.size)
  (hg:o.guard=none) (ho:o.op=.call { callee:=.builtin .append,args:=#[s,x],argTypes:=#[46,46] }) (hs:a.eval s=v) (hx:a.eval x=.slice ad n c)
  (h:∀v' w',Ys w' base v' (xs ++ ys)→w.grownBy w' v.ownBlock→(v'.ownBlock=v.ownBlock∨v'.ownBlock=some w.heap.size)→wpList Tryz.prog ops Q rest (a.put o.dst v') w'):wpList Tryz.prog ops Q (o :: rest) a w:=by
 have hn:=hn.out;subst hn
 obtain ⟨v',w',hr,h2,h3,h4⟩:=zbb hown (c:=c) hy hlen hbase o.type
 exact Lib.wpList_append_run w hg s x 46 46 ho _ _ hs hx v' w' hr (h v' w' h2 h3 h4)
theorem Zg.one (w:World) (x:Nat):Zg (w.alloc (.cells #[.int .u8 x] 5)) (some ⟨w.heap.size,0,none⟩) [x] :=
 .inr ⟨w.heap.size,0,rfl,by simp,λi hi=>by
  have:i=0:=by simpa using hi
  subst this;simp⟩
theorem Vm {B:Nat} {w0 w w':World} {base:Nat} {v:Value} {xs:List Nat} (hb:Below B w0 w) (hg:w.grownBy w' v.ownBlock) (hown:Ys w base v xs) (hB:B≤w.heap.size) (hbase:B≤base):Below B w0 w' :=
 hb.grown hg hB (λg hg=>Nat.le_trans hbase (World.ownsRow.lt hown g hg).1)
theorem zdt (w:World) (n m:Nat) (h:n+m≤1099511627776):(Instr.makeSlice 46 (.int .i64 (n:Nat)) (.int .i64 ((n:Int)+(m:Int)))).run Tryz.prog w=.ok (.slice (some ⟨w.heap.size,0,none⟩) n (n+m)) (w.alloc (.cells (madeCells #[.int .u8 0] (n+m)) 5)):=by
 obtain ⟨i0,hi,hz0,hz1,hz2⟩:=info_parts infoB
 have:=run_make (P:=Tryz.prog) w 46 5 i0 (.int .u8 0) Tryz.underlying46 hi hz0 .i64 .i64 (n:Nat) ((n:Int)+(m:Int)) (by omega) (by omega) (by rw [hz2];omega) (by omega)
 rw [hz1] at this
 have e1:((n:Int)+(m:Int)).toNat=n+m:=by omega
 have e2:((n:Nat):Int).toNat=n:=by omega
 rw [e1,e2] at this
 simpa [Value.cells] using this
def ZW (n:Nat):List Nat:=if h:n<128 then [n] else (n % 128+128) :: ZW (n / 128)
termination_by n
decreasing_by omega
theorem Fq {n:Nat} (h:n<128):ZW n=[n]:=by rw [ZW];simp [h]
theorem zbJ {n:Nat} (h:¬ n<128):ZW n=(n % 128+128) :: ZW (n / 128):=by rw [ZW];simp [h]
theorem EA:∀(k n:Nat),n<128 ^ (k+1)→(ZW n).length≤k+1
 | 0,n,h=>by rw [Fq (by simpa using h)];simp
 | k+1,n,h=>by
  by_cases hn:n<128
  ·rw [Fq hn];simp
  ·rw [zbJ hn]
   have:=EA k (n / 128) (by rw [Nat.pow_succ] at h;omega)
   simp;omega
theorem ZT {n:Nat} (h:n<18446744073709551616):(ZW n).length≤10:=EA 9 n (by omega)
def YP:Nat→Nat→List Nat→Nat × Nat × Nat
 | _,_,[]=>(0,0,2)
 | i,n,c :: cs=>if i=9∧1<c then (0,0,5) else if c<128 then (if c=0∧0<i then (0,0,5) else (n+c % 128 * 128 ^ i,i+1,0)) else YP (i+1) (n+c % 128 * 128 ^ i) cs
def Kr (bs:List Nat):Nat × Nat × Nat:=YP 0 0 bs
theorem EZ {bs:List Nat} {i n k:Nat} (h:k<bs.length) {c:Nat} (hc:c=bs[k]):YP i n (bs.drop k)=if i=9∧1<c then (0,0,5) else if c<128 then (if c=0∧0<i then (0,0,5) else (n+c % 128 * 128 ^ i,i+1,0)) else YP (i+1) (n+c % 128 * 128 ^ i) (bs.drop (k+1)):=by
 rw [List.drop_eq_getElem_cons h,← hc];rfl
theorem Kx:∀(bs:List Nat) (i n:Nat),i≤9→n<128 ^ i→(YP i n bs).2.2=0→(YP i n bs).1<18446744073709551616∧i<(YP i n bs).2.1∧(YP i n bs).2.1≤i+bs.length∧(YP i n bs).2.1≤10
 | [],i,n,_,_,h=>by simp [YP] at h
 | c :: cs,i,n,hi,hn,h=>by
  unfold YP at h ⊢
  by_cases h1:i=9∧1<c
  ·rw [if_pos h1] at h;simp at h
  ·rw [if_neg h1] at h ⊢
   by_cases h2:c<128
   ·rw [if_pos h2] at h ⊢
    by_cases h3:c=0∧0<i
    ·rw [if_pos h3] at h;simp at h
    ·rw [if_neg h3] at h ⊢
     refine ⟨?_,by simp,by simp <;> omega,by simp <;> omega⟩
     have hc:c % 128=c:=Nat.mod_eq_of_lt h2
     simp only [hc]
     by_cases h9:i=9
     ·subst h9;have:c≤1:=by omega
      have:(128:Nat) ^ 9=9223372036854775808:=by decide
      have:c * 128 ^ 9≤1 * 128 ^ 9:=Nat.mul_le_mul_right _ ‹c≤1›
      omega
     ·have h8:128 ^ i * 128≤128 ^ 9:=by rw [←Nat.pow_succ];exact Nat.pow_le_pow_right (by decide) (by omega)
      have:(128:Nat) ^ 9=9223372036854775808:=by decide
      have:c * 128 ^ i≤127 * 128 ^ i:=Nat.mul_le_mul_right _ (by omega)
      omega
   ·rw [if_neg h2] at h ⊢
    by_cases h9:i=9
    ·subst h9;exact absurd ⟨rfl,by omega⟩ h1
    ·have hm:n+c % 128 * 128 ^ i<128 ^ (i+1):=by
      rw [Nat.pow_succ]
      have:c % 128 * 128 ^ i≤127 * 128 ^ i:=Nat.mul_le_mul_right _ (by omega)
      omega
     have:=Kx cs (i+1) _ (by omega) hm h
     simp only [List.length_cons];omega
set_option maxRecDepth 100000 in
set_option maxHeartbeats 800000 in
theorem room_any {a:Option Addr} {c n:Nat} {bs:List Nat} {w:World} (m:Nat) (hn:Hid (bs.length=n)) (hl:n≤549755813888) (hm:m≤549755813888) (hrow:Zg w a bs) :
  Calls Tryz.prog 215 #[.slice a n c,.int .i64 m] w λe w'=>∃v,e=.returned v∧Ys w' w.heap.size v bs∧Below w.heap.size w w':=by
 obtain ⟨i0,hi,hz0,hz1,hz2⟩:=info_parts infoB
 have hmk:=zdt w n m (by omega)
 obtain ⟨Z,hZ⟩:∃Z,madeCells #[.int .u8 0] (n+m)=Z:=⟨_,rfl⟩
 have hZs:Z.size=n+m:=by rw [←hZ];exact size_madeCells _ _
 rw [hZ] at hmk
 have HZ:=hid hZs
 clear hZ hZs
 have hsz:(Tryz.prog.info? 5).map (·.size)=some 1:=by rw [hi];simp [hz1]
 have hB:Below w.heap.size w (w.alloc (.cells Z 5)):=bra
 have hpos:0<(u8C bs).length→(some ⟨w.heap.size,0,none⟩:Option Addr)=some ⟨w.heap.size,0,none⟩∧∃ad,a=some ad∧∀j v,(u8C bs)[j]?=some v→(w.alloc (.cells Z 5)).cell? (ad.add j)=some v:=by
  intro h
  rcases hrow.alloc (.cells Z 5) with rfl | ⟨b,off,rfl,hlt,hc⟩
  ·simp [u8C] at h
  ·exact ⟨rfl,_,rfl,Zg.cells hc⟩
 have HPOS:=hid hpos
 have HSZ:=hid hsz
 clear hpos hsz
 go_enter Tryz.func215,Tryz.ntmps215
 go_wp2_with (with_reducible refine wpList_copy_splice rfl (.tmp 13) (.tmp 14) 46 46 rfl 5 Tryz.underlying46 HSZ.out (some ⟨w.heap.size,0,none⟩) a n (n+m) n c rfl rfl w.heap.size 0 Z.toList 5 (by rw [Array.toArray_toList];exact heap_alloc_new w _) (u8C bs) (by rw [QV,hn.out];simp) HPOS.out (by rw [QV,hn.out];have:=HZ.out;simp;omega) (zdK bs) w.heap.size w hB (Nat.le_refl _) ?_;intro w4 hg4 hb4)
 go_ret
 refine ⟨_,rfl,?_,hb4⟩
 unfold Ys
 rw [hn.out]
 have h1:=hg4.out
 have hlen:(u8C bs).length=n:=by rw [QV,hn.out]
 have hZt:Z.toList.length=n+m:=by have:=HZ.out;simpa using this
 refine ⟨by rw [hlen];omega,.inr ⟨w.heap.size,n+m,(splice Z.toList 0 (u8C bs)).toArray,rfl,Nat.le_refl _,h1,by omega,by unfold maxLen;omega,?_,?_⟩⟩
 ·simp [length_splice Z.toList 0 (u8C bs) (by omega),hZt]
 ·simp [splice,hlen]
theorem or128 (n:Nat):bits .or .u8 ((n:Int) % 256) 128=((n % 128+128:Nat):Int):=by
 have:=u8_or_nat (n % 256) 128 (by omega) (by decide)
 rw [show ((128:Nat):Int)=128 from rfl,show ((n % 256:Nat):Int)=(n:Int) % 256 by omega] at this
 rw [this]
 congr 1
 have h2:=Nat.two_pow_add_eq_or_of_lt (i:=7) (b:=n % 128) (by omega) 1
 have h3:n % 256 ||| 128=n % 128 ||| 128:=by
  apply Nat.eq_of_testBit_eq
  intro j
  rw [Nat.testBit_or,Nat.testBit_or,show (256:Nat)=2 ^ 8 from rfl,show n % 128=n % 2 ^ 7 from rfl,Nat.testBit_mod_two_pow,Nat.testBit_mod_two_pow]
  have e:(128:Nat).testBit j=decide (j=7):=by
   rw [show (128:Nat)=2 ^ 7 from rfl,Nat.testBit_two_pow]
   rw [Bool.eq_iff_iff];simp;omega
  rw [e]
  by_cases h:j=7
  ·simp [h]
  ·have:(j<8↔j<7):=by omega
   simp [h,this]
 rw [h3,Nat.or_comm]
 simpa [Nat.add_comm] using h2.symm
set_option maxRecDepth 100000 in
set_option maxHeartbeats 1600000 in
theorem JO {a:Option Addr} {c n:Nat} {bs:List Nat} {w:World} (m:Nat) (hn:Hid (bs.length=n)) (hl:n≤274877906944) (hm:m<18446744073709551616) (hrow:Zg w a bs) :
  Calls Tryz.prog 116 #[.slice a n c,.int .u64 m] w λe w'=>∃v,e=.returned v∧Ys w' w.heap.size v (bs ++ ZW m)∧Below w.heap.size w w':=by
 have hl10:=ZT hm
 obtain ⟨F,hF⟩:∃F,bs ++ ZW m=F:=⟨_,rfl⟩
 have hFl:F.length≤n+10:=by rw [←hF,List.length_append,hn.out];omega
 rw [hF]
 have HF:=hid hF
 clear hF
 go_enter Tryz.func116,Tryz.ntmps116
 go_wp2_with (go_at_call 215;refine (room_any 10 hn (by omega) (by decide) hrow).mono ?_;rintro e w1 ⟨v1,rfl,hown1,hb1⟩)
 go_loopw [1,5] (λi v wr=>∃(k:Nat) (got:List Nat),k<18446744073709551616∧i=.int .u64 k∧Hid (F=got ++ ZW k)∧Ys wr w.heap.size v got∧Below w.heap.size w wr) (λi _ _=>(intOf i).toNat)
 case atStart=>exact ⟨m,bs,hm,rfl,HF.out.symm,hown1,hb1⟩
 case round =>
  obtain ⟨k,got,hk,rfl,hM,hown,hb⟩:=hrel
  have hgl:got.length≤n+10:=by have:=congrArg List.length hM.out;rw [List.length_append] at this;omega
  have hsz:=hb.size
  by_cases hge:128≤k
  ·have hge':decide (128≤k)=true:=by simpa using hge
   obtain ⟨x,hx⟩:∃x,k % 128+128=x:=⟨_,rfl⟩
   have e2:bits .or .u8 ((k:Int) % 256) 128=((x:Nat):Int):=by rw [←hx];exact or128 k
   have hM2:Hid (F=(got ++ [x]) ++ ZW (k / 128)):=hid (by rw [hM.out,zbJ (by omega),hx];simp)
   clear hx
   go_wp2_with (at_builtin;refine Xt (hown.alloc _) (Zg.one _ x) (hid rfl) (by simp;omega) (by simp;omega) rfl rfl rfl rfl ?_;intro v2 w2 hown2 hg2 hat2)
   have hB2:Below w.heap.size w w2:=Vm (hb.alloc hsz _) hg2 (hown.alloc _) (by simp;omega) (Nat.le_refl _)
   go_roundw
   case rel=>exact ⟨k / 128,got ++ [x],by omega,by go_num,hM2,hown2,hB2⟩
   case measure=>simp [intOf];omega
  ·have hge':decide (128≤k)=false:=by simpa using hge
   have hM2:Hid (F=got ++ [k]):=hid (by rw [hM.out,Fq (by omega)])
   have e3:(k:Int) % 256=k:=by omega
   go_wp2_with (at_builtin;refine Xt (hown.alloc _) (Zg.one _ k) (hid rfl) (by simp;omega) (by simp;omega) rfl rfl rfl rfl ?_;intro v2 w2 hown2 hg2 hat2)
   have hB2:Below w.heap.size w w2:=Vm (hb.alloc hsz _) hg2 (hown.alloc _) (by simp;omega) (Nat.le_refl _)
   go_ret
   exact ⟨_,rfl,by rw [hM2.out];exact hown2,hB2⟩
def triV (q:Nat × Nat × Nat):Value:=.tuple #[.int .u64 q.1,.int .i64 q.2.1,.int .i64 q.2.2]
theorem zbS {i:Nat} (h:i≤9):128 ^ i≤9223372036854775808:=by
 have:(128:Nat) ^ i≤128 ^ 9:=Nat.pow_le_pow_right (by decide) h
 have e:(128:Nat) ^ 9=9223372036854775808:=by decide
 omega
theorem zcD {i n c:Nat} (hi:i≤9) (hn:n<128 ^ i) (hc:i=9→c≤1):n+c % 128 * 128 ^ i<18446744073709551616∧c % 128 * 128 ^ i<18446744073709551616:=by
 by_cases h9:i=9
 ·subst h9
  have:=hc rfl
  have e:(128:Nat) ^ 9=9223372036854775808:=by decide
  have:c % 128 * 128 ^ 9≤1 * 128 ^ 9:=Nat.mul_le_mul_right _ (by omega)
  omega
 ·have h8:128 ^ (i+1)≤9223372036854775808:=zbS (by omega)
  rw [Nat.pow_succ] at h8
  have:c % 128 * 128 ^ i≤127 * 128 ^ i:=Nat.mul_le_mul_right _ (by omega)
  omega
theorem zeb {i n c:Nat} (hn:n<128 ^ i):n+c % 128 * 128 ^ i<128 ^ (i+1):=by
 rw [Nat.pow_succ]
 have:c % 128 * 128 ^ i≤127 * 128 ^ i:=Nat.mul_le_mul_right _ (by omega)
 omega
theorem or_part {i n c:Nat} (hn:n<128 ^ i):n ||| c % 128 * 128 ^ i=n+c % 128 * 128 ^ i:=by
 have e:(128:Nat) ^ i=2 ^ (7 * i):=by rw [Nat.pow_mul]
 rw [e] at hn ⊢
 have:=Nat.two_pow_add_eq_or_of_lt hn (c % 128)
 rw [Nat.or_comm,Nat.mul_comm (c % 128),← this,Nat.add_comm]
theorem zbW {m x k:Nat} (hm:m<128 ^ k) (hk:k≤9) (hx:x<256) (hc:k=9→x≤1) :
  bits .or .u64 (m:Int) (IntKind.u64.wrap (IntKind.u64.wrap (bits .and .u8 (x:Int) 127) * 2 ^ (7 * k)))=((m+x % 128 * 128 ^ k:Nat):Int):=by
 have h1:=u8_and_nat x 127 hx (by decide)
 rw [show ((127:Nat):Int)=127 from rfl] at h1
 have h2:x &&& 127=x % 128:=Nat.and_two_pow_sub_one_eq_mod x 7
 obtain ⟨b1,b2⟩:=zcD hk hm hc
 have e:((2:Int) ^ (7 * k))=((128 ^ k:Nat):Int):=by
  have h:(128:Nat) ^ k=2 ^ (7 * k):=by rw [Nat.pow_mul]
  rw [h];simp
 have w1:IntKind.u64.wrap ((x % 128:Nat):Int)=((x % 128:Nat):Int):=by rw [IntKind.wrap_u64];omega
 have w2:IntKind.u64.wrap (((x % 128 * 128 ^ k:Nat)):Int)=((x % 128 * 128 ^ k:Nat):Int):=by rw [IntKind.wrap_u64];omega
 rw [h1,h2,w1,e,← Int.natCast_mul,w2]
 have h3:=u64_or_nat m (x % 128 * 128 ^ k) (by have:=zbS hk;omega) b2
 rw [h3,or_part hm]
theorem VI {q:Nat × Nat × Nat} {x y z:Int} (h:Hid (q=(x.toNat,y.toNat,z.toNat))) (hx:0≤x) (hy:0≤y) (hz:0≤z):Ending.returned (triV q)=.returned (.tuple #[.int .u64 x,.int .i64 y,.int .i64 z]):=by
 rw [h.out]
 unfold triV
 simp only [show ((x.toNat:Nat):Int)=x by omega,show ((y.toNat:Nat):Int)=y by omega,show ((z.toNat:Nat):Int)=z by omega]
set_option maxRecDepth 100000 in
set_option maxHeartbeats 1600000 in
theorem Ep {a:Option Addr} {c n:Nat} {bs:List Nat} {w:World} (hn:Hid (bs.length=n)) (hl:n≤70368744177664) (hby:∀b∈bs,b<256) (hrow:Zg w a bs) :
  Calls Tryz.prog 123 #[.slice a n c] w λe w'=>e=.returned (triV (Kr bs))∧w=w':=by
 obtain ⟨G,hG⟩:∃G,Kr bs=G:=⟨_,rfl⟩
 rw [hG]
 have HG:Hid (G=YP 0 0 bs):=hid hG.symm
 have HBY:=hid hby
 clear hG hby
 go_enter Tryz.func123,Tryz.ntmps123
 go_wp2
 go_loop [2,9] (λv i=>∃k m:Nat,k≤n∧k≤9∧m<128 ^ k∧v=.int .u64 m∧i=.int .i64 k∧Hid (G=YP k m (bs.drop k))) (λ_ i=>n - (intOf i).toNat)
 case atStart=>exact ⟨0,0,by omega,by omega,by decide,rfl,rfl,HG⟩
 case round =>
  obtain ⟨k,m,hk,hk9,hm,rfl,rfl,hM⟩:=hrel
  by_cases hlt:k<n
  ·have hlt':decide (k<n)=true:=by simpa using hlt
   have hkb:k<bs.length:=by rw [hn.out];exact hlt
   obtain ⟨pb,po,x,rfl,hx,d1⟩:=hrow.at (Below.refl _ _) rfl hkb
   have hx256:x<256:=HBY.out x (by rw [hx];exact List.getElem_mem _)
   have HGD:=hid (EZ (i:=k) (n:=m) hkb hx)
   have HM:=hid hm
   clear hx hm
   by_cases hA:k=9∧1<x
   ·have HE:Hid (G=(0,0,5)):=hid (by rw [hM.out,HGD.out,if_pos hA])
    obtain ⟨h9,h1x⟩:=hA
    subst h9
    have t4:decide (1<x)=true:=by simpa using h1x
    go_wp2
    exact bodyPost_ret (v:=.tuple #[.int .u64 0,.int .i64 0,.int .i64 5]) (by simp [results,Tryz.results123,go_sem]) rfl ⟨(VI (x:=0) (y:=0) (z:=5) HE (by decide) (by decide) (by decide)).symm,rfl⟩
   ·by_cases h9:k=9
    ·obtain rfl:k=9:=h9
     have hx1:x≤1:=by
      by_cases h1:1<x
      ·exact absurd ⟨rfl,h1⟩ hA
      ·omega
     have hsv:=zbW (x:=x) HM.out (by decide) hx256 (λ_=>hx1)
     have HSV:=hid hsv
     have HA:=hid hA
     clear hsv hA
     rcases (show x=0∨x=1 by omega) with rfl | rfl
     ·have HE:Hid (G=(0,0,5)):=hid (by rw [hM.out,HGD.out,if_neg HA.out,if_pos (by decide),if_pos (by decide)])
      go_wp2
      exact bodyPost_ret (v:=.tuple #[.int .u64 0,.int .i64 0,.int .i64 5]) (by simp [results,Tryz.results123,go_sem]) rfl ⟨(VI (x:=0) (y:=0) (z:=5) HE (by decide) (by decide) (by decide)).symm,rfl⟩
     ·obtain ⟨N,hN⟩:∃N,m+1 % 128 * 128 ^ 9=N:=⟨_,rfl⟩
      have HE:Hid (G=(N,10,0)):=hid (by rw [hM.out,HGD.out,if_neg HA.out,if_pos (by decide),if_neg (by decide),hN])
      rw [hN] at HSV
      clear hN
      go_wp2
      exact bodyPost_ret (v:=.tuple #[.int .u64 ((N:Nat):Int),.int .i64 (10),.int .i64 0]) (by simp [results,Tryz.results123,go_sem];first | done | exact HSV.out | (have h:=HSV.out;simpa using h)) rfl ⟨(VI (x:=((N:Nat):Int)) (y:=10) (z:=0) (hid (by rw [HE.out];simp <;> omega)) (by omega) (by omega) (by decide)).symm,rfl⟩
    ·have hsv:=zbW (x:=x) HM.out hk9 hx256 (λh=>absurd h h9)
     have HSV:=hid hsv
     have HA:=hid hA
     have hn9:=HM.out
     have H9:=hid h9
     have t1:decide (k=9)=false:=by simpa using h9
     have t2:decide ((k:Int)=9)=false:=by simp;omega
     have t3:((k:Int) == 9)=false:=by simp;omega
     have hnx:=zeb (c:=x) HM.out
     have HNX:=hid hnx
     obtain ⟨N,hN⟩:∃N,m+x % 128 * 128 ^ k=N:=⟨_,rfl⟩
     rw [hN] at HSV HNX HGD
     clear hsv hA hn9 hnx hN h9
     by_cases hB:x<128
     ·have t4:decide (x<128)=true:=by simpa using hB
      by_cases hx0:x=0
      ·subst hx0
       by_cases hk0:0<k
       ·have t5:decide (0<k)=true:=by simpa using hk0
        have HE:Hid (G=(0,0,5)):=hid (by rw [hM.out,HGD.out,if_neg HA.out,if_pos hB,if_pos ⟨rfl,hk0⟩])
        go_wp2
        exact bodyPost_ret (v:=.tuple #[.int .u64 0,.int .i64 0,.int .i64 5]) (by simp [results,Tryz.results123,go_sem]) rfl ⟨(VI (x:=0) (y:=0) (z:=5) HE (by decide) (by decide) (by decide)).symm,rfl⟩
       ·have t5:decide (0<k)=false:=by simpa using hk0
        have HE:Hid (G=(N,k+1,0)):=hid (by rw [hM.out,HGD.out,if_neg HA.out,if_pos hB,if_neg (λh=>hk0 h.2)])
        have h6:=HSV.out
        go_wp2
        exact bodyPost_ret (v:=.tuple #[.int .u64 ((N:Nat):Int),.int .i64 ((k:Int)+1),.int .i64 0]) (by simp [results,Tryz.results123,go_sem];first | done | exact HSV.out | (have h:=HSV.out;simpa using h)) rfl ⟨(VI (x:=((N:Nat):Int)) (y:=(k:Int)+1) (z:=0) (hid (by rw [HE.out];simp <;> omega)) (by omega) (by omega) (by decide)).symm,rfl⟩
      ·have t6:decide (x=0)=false:=by simpa using hx0
       have t7:decide ((x:Int)=0)=false:=by simp;omega
       have t8:((x:Int) == 0)=false:=by simp;omega
       have HE:Hid (G=(N,k+1,0)):=hid (by rw [hM.out,HGD.out,if_neg HA.out,if_pos hB,if_neg (λh=>hx0 h.1)])
       have h6:=HSV.out
       go_wp2
       exact bodyPost_ret (v:=.tuple #[.int .u64 ((N:Nat):Int),.int .i64 ((k:Int)+1),.int .i64 0]) (by simp [results,Tryz.results123,go_sem];first | done | exact HSV.out | (have h:=HSV.out;simpa using h)) rfl ⟨(VI (x:=((N:Nat):Int)) (y:=(k:Int)+1) (z:=0) (hid (by rw [HE.out];simp <;> omega)) (by omega) (by omega) (by decide)).symm,rfl⟩
     ·have t4:decide (x<128)=false:=by simpa using hB
      have hM2:Hid (G=YP (k+1) N (bs.drop (k+1))):=hid (by rw [hM.out,HGD.out,if_neg HA.out,if_neg hB])
      have h6:=HSV.out
      go_wp2
      go_round
      case rel=>exact ⟨k+1,N,by omega,by have:=H9.out;omega,HNX.out,rfl,by go_num,hM2⟩
      case measure=>simp [intOf];omega
  ·have HE:Hid (G=(0,0,2)):=hid (by rw [hM.out,List.drop_eq_nil_of_le (by rw [hn.out];omega)];rfl)
   have hlt':decide (k<n)=false:=by simpa using hlt
   go_wp2
   exact bodyPost_ret (v:=.tuple #[.int .u64 0,.int .i64 0,.int .i64 2]) (by simp [results,Tryz.results123,go_sem]) rfl ⟨(VI (x:=0) (y:=0) (z:=2) HE (by decide) (by decide) (by decide)).symm,rfl⟩
def zaC (p:Pid):List Nat:=ZW p.1.toNat ++ ZW p.2.toNat
def EF (b:List Nat):Pid × Nat × Nat :=
 if (Kr b).2.2≠0 then ((0,0),0,(Kr b).2.2)
 else if (Kr (b.drop (Kr b).2.1)).2.2≠0 then ((0,0),0,(Kr (b.drop (Kr b).2.1)).2.2)
 else if 65535<(Kr b).1∨4294967295<(Kr (b.drop (Kr b).2.1)).1 then ((0,0),0,5)
 else ((((Kr b).1:Nat),((Kr (b.drop (Kr b).2.1)).1:Nat)),(Kr b).2.1+(Kr (b.drop (Kr b).2.1)).2.1,0)
def okP (p:Pid):Prop:=0≤p.1∧p.1<65536∧0≤p.2∧p.2<4294967296
theorem Yi {a:Option Addr} {c n:Nat} {bs:List Nat} {w:World} {x u e:Nat} (h:Hid (Kr bs=(x,u,e))) (hn:Hid (bs.length=n)) (hl:n≤70368744177664) (hby:∀b∈bs,b<256) (hrow:Zg w a bs) :
  Calls Tryz.prog 123 #[.slice a n c] w λe' w'=>e'=.returned (.tuple #[.int .u64 x,.int .i64 u,.int .i64 e])∧w=w':=by
 have:=Ep (c:=c) (w:=w) hn hl hby hrow
 rw [h.out] at this;exact this
theorem QI {a:Option Addr} {c n:Nat} {bs F:List Nat} {w:World} {m:Nat} (hF:Hid (bs ++ ZW m=F)) (hn:Hid (bs.length=n)) (hl:n≤274877906944) (hm:m<18446744073709551616) (hrow:Zg w a bs) :
  Calls Tryz.prog 116 #[.slice a n c,.int .u64 m] w λe w'=>∃a' c',e=.returned (.slice a' F.length c')∧Ys w' w.heap.size (.slice a' F.length c') F∧Zg w' a' F∧Below w.heap.size w w':=by
 refine (JO (c:=c) m hn hl hm hrow).mono ?_
 rintro e w' ⟨v,rfl,hown,hb⟩
 rw [hF.out] at hown
 obtain ⟨a',c',rfl,hr,-⟩:=hown.row
 exact ⟨a',c',rfl,hown,hr,hb⟩
set_option maxRecDepth 100000 in
set_option maxHeartbeats 1600000 in
theorem zc1 {a:Option Addr} {c n:Nat} {bs:List Nat} {w:World} (x y:Nat) (hn:Hid (bs.length=n)) (hl:n≤137438953472) (hx:x<65536) (hy:y<4294967296) (hrow:Zg w a bs) :
  Calls Tryz.prog 117 #[.slice a n c,.agg #[.int .u16 x,.int .u32 y]] w λe w'=>∃v,e=.returned v∧Ys w' w.heap.size v (bs ++ (ZW x ++ ZW y))∧Below w.heap.size w w':=by
 have hB:Below w.heap.size w (w.alloc (.cells #[.int .u16 x,.int .u32 y] 25)):=bra
 have hr1:=hrow.ext hB
 have hlx:=ZT (n:=x) (by omega)
 obtain ⟨F,hF⟩:∃F,bs ++ ZW x=F:=⟨_,rfl⟩
 obtain ⟨NF,hNF⟩:∃NF,F.length=NF:=⟨_,rfl⟩
 have hNFl:NF≤n+10:=by rw [←hNF,← hF,List.length_append,hn.out];omega
 have HF2:Hid (bs ++ (ZW x ++ ZW y)=F ++ ZW y):=hid (by rw [←hF,List.append_assoc])
 have hc0:(w.alloc (.cells #[.int .u16 x,.int .u32 y] 25)).cell? ⟨w.heap.size,0,none⟩=some (.int .u16 x):=by simp
 have hc1:(w.alloc (.cells #[.int .u16 x,.int .u32 y] 25)).cell? ⟨w.heap.size,1,none⟩=some (.int .u32 y):=by simp
 have HF:=hid hF
 have HNF:=hid hNF
 clear hF hNF
 obtain ⟨w1,hw1⟩:∃w1,w.alloc (.cells #[.int .u16 x,.int .u32 y] 25)=w1:=⟨_,rfl⟩
 rw [hw1] at hB hr1 hc0 hc1
 have H0:Below w1.heap.size w1 w1.drew:=(Below.refl _ _).drew
 have HS:Hid (∀W,Below w1.heap.size w1 W→Below w1.heap.size w1 W∧W.cell? ⟨w.heap.size,0,none⟩=some (.int .u16 x)∧W.cell? ⟨w.heap.size,1,none⟩=some (.int .u32 y)):=hid λW h=>⟨h,Zk hc0 h,Zk hc1 h⟩
 have C1:Hid (∀W,Below w1.heap.size w1 W→Calls Tryz.prog 116 #[.slice a n c,.int .u64 x] W λe w'=>∃a' c',e=.returned (.slice a' NF c')∧Zg w' a' F∧Below w1.heap.size w1 w'):=hid λW h=>((QI HF hn (by omega) (by omega) (hr1.ext h)).mono λe w' ⟨a',c',h1,_,h3,h4⟩=>⟨a',c',by rw [←HNF.out];exact h1,h3,h.trans (h4.mono h.size)⟩)
 have C2:Hid (∀W a' c',Below w1.heap.size w1 W→Zg W a' F→Calls Tryz.prog 116 #[.slice a' NF c',.int .u64 y] W λe w'=>∃v,e=.returned v∧Ys w' w1.heap.size v (F ++ ZW y)∧Below w1.heap.size w1 w'):=hid λW a' c' h hr=>((JO y HNF (by omega) (by omega) hr).mono λe w' ⟨v,h1,h3,h4⟩=>⟨v,h1,h3.mono h.size,h.trans (h4.mono h.size)⟩)
 clear hr1 hc0 hc1 hrow
 have ew1:IntKind.u64.wrap ((x:Nat):Int)=((x:Nat):Int):=by rw [IntKind.wrap_u64];omega
 have ew2:IntKind.u64.wrap ((y:Nat):Int)=((y:Nat):Int):=by rw [IntKind.wrap_u64];omega
 go_enter Tryz.func117,Tryz.ntmps117
 go_wp2
 go_region_held3 (λW=>Below w1.heap.size w1 W∧W.cell? ⟨w.heap.size,0,none⟩=some (.int .u16 x)∧W.cell? ⟨w.heap.size,1,none⟩=some (.int .u32 y)) (first | exact HS.out _ H0 | exact HS.out _ (by assumption)) (first
  | ((go_at_call 116;(with_reducible refine (C1.out _ (by first | exact H0 | assumption)).mono ?_);rintro e w11 ⟨a11,c11,rfl,hrow11,hb11⟩))
  | ((go_at_call 116;(with_reducible refine (C2.out _ _ _ (by assumption) (by assumption)).mono ?_);rintro e w12 ⟨v12,rfl,hown12,hb12⟩)))
 all_goals (
  clear ew1 ew2
  go_wp2
  go_ret
  exact ⟨_,rfl,by rw [HF2.out];exact hown12.mono hB.size,hB.trans (hb12.mono hB.size)⟩)
theorem Vn {a:Option Addr} {n c k:Nat} (h:k≤n) (W:World):(Instr.slice 46 (.slice a n c) (some (.int .i64 k)) none none).run Tryz.prog W=.ok (.slice (if c=k then a else a.map (·.add (k * 1))) (n - k) (c - k)) W:=by
 have hs:∀W,(sizeOf 5).run Tryz.prog W=.ok 1 W:=λW=>Tryz.sizeOf5 W
 simp [Instr.slice,run_underlying Tryz.underlying46,Instr.sliceBounds,run_sliceBound,hs,Result.andThen,h]
theorem Zg.cut {w:World} {a:Option Addr} {bs:List Nat} (h:Zg w a bs) {k c:Nat} (hc:bs.length≤c):Zg w (if c=k then a else a.map (·.add (k * 1))) (bs.drop k):=by
 by_cases hk:k<bs.length
 ·rw [if_neg (by omega)]
  rcases h with rfl | ⟨b,off,rfl,hb,hcell⟩
  ·simp at hk
  ·refine .inr ⟨b,off+k,by simp [Xx],hb,λi hi=>?_⟩
   simp only [List.length_drop] at hi
   have:=hcell (k+i) (by omega)
   rw [List.getElem_drop,show off+k+i=off+(k+i) by omega]
   exact this
 ·rw [List.drop_eq_nil_of_le (by omega)];exact .inl rfl
def pidT (q:Pid × Nat × Nat):Value:=.tuple #[.agg #[.int .u16 q.1.1,.int .u32 q.1.2],.int .i64 q.2.1,.int .i64 q.2.2]
set_option maxRecDepth 100000 in
set_option maxHeartbeats 3200000 in
theorem zc3 {a:Option Addr} {c n:Nat} {bs:List Nat} {w:World} (hn:Hid (bs.length=n)) (hc:n≤c) (hl:n≤70368744177664) (hby:∀b∈bs,b<256) (hrow:Zg w a bs) :
  Calls Tryz.prog 122 #[.slice a n c] w λe w'=>e=.returned (pidT (EF bs))∧Below w.heap.size w w':=by
 have hB:Below w.heap.size w (w.alloc (.cells #[.int .u16 0,.int .u32 0] 25)):=bra
 have hr1:=hrow.ext hB
 obtain ⟨⟨x1,u1,e1⟩,hG1⟩:∃q,Kr bs=q:=⟨_,rfl⟩
 have HG1:=hid hG1
 have hok1:=Kx bs 0 0 (by decide) (by decide)
 rw [show YP 0 0 bs=Kr bs from rfl,hG1] at hok1
 simp only at hok1
 have HBY:=hid hby
 by_cases he1:e1=0
 ·subst he1
  obtain ⟨q1,q2,q3,q4⟩:=hok1 rfl
  have hu1:u1≤n:=by rw [←hn.out];omega
  obtain ⟨A1,hA1⟩:∃A,(if c=u1 then a else a.map (·.add (u1 * 1)))=A:=⟨_,rfl⟩
  have hrun:=λW=>Vn (a:=a) (c:=c) hu1 W
  have hr2:=hr1.cut (k:=u1) (c:=c) (by rw [hn.out];exact hc)
  rw [hA1] at hr2
  simp only [hA1] at hrun
  obtain ⟨n2,hn2⟩:∃n2,n - u1=n2:=⟨_,rfl⟩
  obtain ⟨c2,hc2⟩:∃c2,c - u1=c2:=⟨_,rfl⟩
  simp only [hn2,hc2] at hrun
  have hnd:Hid ((bs.drop u1).length=n2):=hid (by rw [List.length_drop,hn.out,hn2])
  have hby2:∀b∈bs.drop u1,b<256:=λb hb=>HBY.out b (List.mem_of_mem_drop hb)
  obtain ⟨⟨x2,u2,e2⟩,hG2⟩:∃q,Kr (bs.drop u1)=q:=⟨_,rfl⟩
  have HG2:=hid hG2
  have hok2:=Kx (bs.drop u1) 0 0 (by decide) (by decide)
  rw [show YP 0 0 (bs.drop u1)=Kr (bs.drop u1) from rfl,hG2] at hok2
  simp only at hok2
  have hn2l:n2≤70368744177664:=by omega
  have HBY2:=hid hby2
  have HN2:=hid hn2
  clear hA1 hn2 hc2 hby2 hG1 hG2 hok1 hby
  by_cases he2:e2=0
  ·subst he2
   obtain ⟨p1,p2,p3,p4⟩:=hok2 rfl
   rw [hnd.out] at p3
   clear hok2
   by_cases hb1:65535<x1
   ·have HE:Hid (EF bs=((0,0),0,5)):=hid (by unfold EF;simp only [HG1.out,HG2.out];rw [if_neg (by simp),if_neg (by simp),if_pos (.inl hb1)])
    have t1:decide (65535<x1)=true:=by simpa using hb1
    have t1':decide ((65535:Int)<x1)=true:=by simp;omega
    go_enter Tryz.func122,Tryz.ntmps122
    go_wp2_with (first
     | (go_at_call 123;(with_reducible refine (Yi HG1 hn hl HBY.out hr1).mono ?_);rintro e w' ⟨rfl,rfl⟩)
     | (go_at_call 123;(with_reducible refine (Yi HG2 hnd hn2l HBY2.out hr2).mono ?_);rintro e w' ⟨rfl,rfl⟩))
    exact bodyPost_ret (v:=.tuple #[.agg #[.int .u16 0,.int .u32 0],.int .i64 0,.int .i64 5]) (by simp [results,Tryz.results122,go_sem]) rfl ⟨by rw [HE.out];rfl,bra⟩
   ·have t1:decide (65535<x1)=false:=by simpa using hb1
    have t1':decide ((65535:Int)<x1)=false:=by simp;omega
    by_cases hb2:4294967295<x2
    ·have HE:Hid (EF bs=((0,0),0,5)):=hid (by unfold EF;simp only [HG1.out,HG2.out];rw [if_neg (by simp),if_neg (by simp),if_pos (.inr hb2)])
     have t2:decide (4294967295<x2)=true:=by simpa using hb2
     have t2':decide ((4294967295:Int)<x2)=true:=by simp;omega
     go_enter Tryz.func122,Tryz.ntmps122
     go_wp2_with (first
      | (go_at_call 123;(with_reducible refine (Yi HG1 hn hl HBY.out hr1).mono ?_);rintro e w' ⟨rfl,rfl⟩)
      | (go_at_call 123;(with_reducible refine (Yi HG2 hnd hn2l HBY2.out hr2).mono ?_);rintro e w' ⟨rfl,rfl⟩))
     exact bodyPost_ret (v:=.tuple #[.agg #[.int .u16 0,.int .u32 0],.int .i64 0,.int .i64 5]) (by simp [results,Tryz.results122,go_sem]) rfl ⟨by rw [HE.out];rfl,bra⟩
    ·have t2:decide (4294967295<x2)=false:=by simpa using hb2
     have t2':decide ((4294967295:Int)<x2)=false:=by simp;omega
     have HE:Hid (EF bs=((((x1:Nat):Int),((x2:Nat):Int)),u1+u2,0)):=hid (by unfold EF;simp only [HG1.out,HG2.out];rw [if_neg (by simp),if_neg (by simp),if_neg (by omega)])
     have m1:(x1:Int) % 65536=x1:=by omega
     have m2:(x2:Int) % 4294967296=x2:=by omega
     go_enter Tryz.func122,Tryz.ntmps122
     go_wp2_with (first
      | (go_at_call 123;(with_reducible refine (Yi HG1 hn hl HBY.out hr1).mono ?_);rintro e w' ⟨rfl,rfl⟩)
      | (go_at_call 123;(with_reducible refine (Yi HG2 hnd hn2l HBY2.out hr2).mono ?_);rintro e w' ⟨rfl,rfl⟩))
     exact bodyPost_ret (v:=.tuple #[.agg #[.int .u16 (x1:Nat),.int .u32 (x2:Nat)],.int .i64 ((u1:Int)+(u2:Int)),.int .i64 0]) (by simp [results,Tryz.results122,go_sem]) rfl ⟨by rw [HE.out];rfl,bra⟩
  ·have HE:Hid (EF bs=((0,0),0,e2)):=hid (by unfold EF;simp only [HG1.out,HG2.out];rw [if_neg (by simp),if_pos he2])
   have t1:decide (e2=0)=false:=by simpa using he2
   have t2:decide ((e2:Int)=0)=false:=by simp;omega
   have t3:((e2:Int) == 0)=false:=by simp;omega
   have t4:((e2:Int) != 0)=true:=by simp;omega
   clear hok2
   go_enter Tryz.func122,Tryz.ntmps122
   go_wp2_with (first
    | (go_at_call 123;(with_reducible refine (Yi HG1 hn hl HBY.out hr1).mono ?_);rintro e w' ⟨rfl,rfl⟩)
    | (go_at_call 123;(with_reducible refine (Yi HG2 hnd hn2l HBY2.out hr2).mono ?_);rintro e w' ⟨rfl,rfl⟩))
   exact bodyPost_ret (v:=.tuple #[.agg #[.int .u16 0,.int .u32 0],.int .i64 0,.int .i64 (e2:Nat)]) (by simp [results,Tryz.results122,go_sem]) rfl ⟨by rw [HE.out];rfl,bra⟩
 ·have HE:Hid (EF bs=((0,0),0,e1)):=hid (by unfold EF;simp only [HG1.out];rw [if_pos he1])
  have t1:decide (e1=0)=false:=by simpa using he1
  have t2:decide ((e1:Int)=0)=false:=by simp;omega
  have t3:((e1:Int) == 0)=false:=by simp;omega
  have t4:((e1:Int) != 0)=true:=by simp;omega
  clear hok1 hG1 hby
  go_enter Tryz.func122,Tryz.ntmps122
  go_wp2_with (go_at_call 123;(with_reducible refine (Yi HG1 hn hl HBY.out hr1).mono ?_);rintro e w' ⟨rfl,rfl⟩)
  exact bodyPost_ret (v:=.tuple #[.agg #[.int .u16 0,.int .u32 0],.int .i64 0,.int .i64 (e1:Nat)]) (by simp [results,Tryz.results122,go_sem]) rfl ⟨by rw [HE.out];rfl,bra⟩
set_option maxHeartbeats 400000 in
theorem QZ (a:Option Addr) (c:Nat) (xs:List Pid) (id inc:Int) (w:World) (hn:xs.length≤70368744177664) (hrow:Zb w a xs) :
  Calls Tryz.prog 166 #[.slice a xs.length c,.agg #[.int .u16 id,.int .u32 inc]] w λe w'=>e=.returned (.int .i64 (Ks xs (id,inc)))∧Below w.heap.size w w':=by
 go_enter Tryz.func166,Tryz.ntmps166
 go_wp2
 go_loopw [4,8] (λr i wr=>r=.int .i64 0∧∃k:Nat,k≤xs.length∧i=.int .i64 k∧Hid (Ks xs (id,inc)=YI (id,inc) (xs.drop k) k)∧Below w.heap.size w wr∧wr.cell? ⟨w.heap.size,0,none⟩=some (.int .u16 id)∧wr.cell? ⟨w.heap.size,1,none⟩=some (.int .u32 inc)) (λ_ i _=>xs.length - (intOf i).toNat)
 case atStart=>exact ⟨rfl,0,Nat.zero_le _,rfl,rfl,bra,by simp,by simp⟩
 case round =>
  obtain ⟨rfl,k,hk,rfl,ha,hb,c0,c1⟩:=hrel
  by_cases hlt:k<xs.length
  ·obtain ⟨b,off,x,y,rfl,hx,d1,d2⟩:=hrow.at hb rfl hlt
   have HX:=hid hx
   clear hx hrow
   have he:=λw=>VK id inc x y w
   go_wp2
   go_quiet (fail)
   all_goals go_wp2
   ·have h:=‹id=x∧inc=y›
    go_ret
    exact ⟨ZE (by rw [ha.out,VM hlt,if_pos (by rw [←HX.out,h.1,h.2])]),Xq hb _⟩
   ·have h:=‹¬id=x∨¬inc=y›
    go_roundw
    case rel=>exact ⟨rfl,k+1,by omega,by go_num,(ha.out.trans (by rw [VM hlt,if_neg (by rw [←HX.out];simp;omega)]):_),Xq hb _,by simpa using c0,by simpa using c1⟩
    case measure=>simp [intOf];omega
  ·go_wp2
   go_ret
   exact ⟨ZE (by rw [ha.out,GO (by omega)]),hb⟩
theorem JG {p:Pid}:∀{xs:List Pid} {k:Nat},YI p xs k<0↔p ∉ xs
 | [],_=>by simp [YI]
 | x :: xs,k=>by
  unfold YI
  split
  ·next h=>simp [h]
  ·next h =>
   rw [JG]
   have h':¬ p=x:=λe=>h e.symm
   simp [h']
theorem zbe {p:Pid} {xs:List Pid}:decide (0≤Ks xs p)=decide (p∈xs):=by
 have:=JG (p:=p) (xs:=xs) (k:=0)
 unfold Ks
 by_cases h:p∈xs <;> simp [h] <;> simp [h] at this <;> omega
theorem Vb (a:Option Addr) (c:Nat) (xs:List Pid) (id inc:Int) (w:World) (hn:xs.length≤70368744177664) (hrow:Zb w a xs) :
  Calls Tryz.prog 66 #[.slice a xs.length c,.agg #[.int .u16 id,.int .u32 inc]] w λe w'=>e=.returned (.bool (decide ((id,inc)∈xs)))∧Below w.heap.size w w':=by
 go_enter Tryz.func66,Tryz.ntmps66
 go_wp2_with (go_at_call 166;refine (QZ _ _ _ _ _ _ hn (hrow.ext (bra))).mono ?_;rintro e w1 ⟨rfl,hb1⟩)
 go_ret
 exact ⟨Zm zbe,(bra).trans (hb1.mono (by simp))⟩
theorem zdU (a:Option Addr) (c:Nat) (xs:List Pid) (bp:Nat) (id inc:Int) (w:World) (hn:xs.length≤70368744177664) (hrow:Zb w a xs)
  (h0:w.cell? ⟨bp,0,none⟩=some (.int .u16 id)) (h1:w.cell? ⟨bp,1,none⟩=some (.int .u32 inc)) :
  Calls Tryz.prog 205 #[.slice a xs.length c,.pointer (some ⟨bp,0,none⟩)] w λe w'=>e=.returned (.bool (decide ((id,inc)∈xs)))∧Below w.heap.size w w':=by
 go_enter Tryz.func205,Tryz.ntmps205
 go_wp2_with (go_at_call 66;refine (Vb _ _ _ _ _ _ hn hrow).mono ?_;rintro e w1 ⟨rfl,hb1⟩)
 go_ret
 exact ⟨rfl,hb1⟩
def Xr (p:Pid):List (List Pid)→Nat→Int
 | [],_=>-1
 | x :: xs,k=>if p∈x then k else Xr p xs (k+1)
def XV (ls:List (List Pid)) (p:Pid):Int:=Xr p ls 0
theorem Jj {xs:List (List Pid)} {k:Nat} (h:k<xs.length) (p:Pid):Xr p (xs.drop k) k=if p∈xs[k] then (k:Int) else Xr p (xs.drop (k+1)) (k+1):=by
 rw [List.drop_eq_getElem_cons h];rfl
theorem zad {xs:List (List Pid)} {k:Nat} (h:xs.length≤k) (p:Pid):Xr p (xs.drop k) k=-1:=by
 rw [List.drop_eq_nil_of_le h];rfl
set_option maxHeartbeats 400000 in
theorem FN (a:Option Addr) (c:Nat) (ls:List (List Pid)) (bp:Nat) (id inc:Int) (w:World) (hn:ls.length≤70368744177664) (hl:∀l∈ls,l.length≤70368744177664) (hrow:Zp w a ls)
  (h0:w.cell? ⟨bp,0,none⟩=some (.int .u16 id)) (h1:w.cell? ⟨bp,1,none⟩=some (.int .u32 inc)) :
  Calls Tryz.prog 204 #[.slice a ls.length c,.func (.func 205) #[] #[.pointer (some ⟨bp,0,none⟩)]] w λe w'=>e=.returned (.int .i64 (XV ls (id,inc)))∧Below w.heap.size w w':=by
 have hbp:=World.block_lt_of_cell? w _ h0
 simp only at hbp
 go_enter Tryz.func204,Tryz.ntmps204
 go_wp2
 go_loopw [4,8] (λr i wr=>r=.int .i64 0∧∃k:Nat,k≤ls.length∧i=.int .i64 k∧Hid (XV ls (id,inc)=Xr (id,inc) (ls.drop k) k)∧Below w.heap.size w wr) (λ_ i _=>ls.length - (intOf i).toNat)
 case atStart=>exact ⟨rfl,0,Nat.zero_le _,rfl,rfl,Below.refl _ _⟩
 case round =>
  obtain ⟨rfl,k,hk,rfl,ha,hb⟩:=hrel
  by_cases hlt:k<ls.length
  ·obtain ⟨b,off,ai,ci,l,rfl,hx,d1,d2⟩:=hrow.at hb rfl hlt
   have hll:l.length≤70368744177664:=hl l (by rw [hx];exact List.getElem_mem _)
   have HX:=hid hx
   clear hx hrow
   have e0:=(hb.cell (p:=⟨bp,0,none⟩) hbp).trans h0
   have e1:=(hb.cell (p:=⟨bp,1,none⟩) hbp).trans h1
   go_wp2_with (go_at_call 205;refine (zdU _ _ _ _ _ _ _ hll d2 e0 e1).mono ?_;rintro e w1 ⟨rfl,hb1⟩)
   ·have h:=‹(id,inc)∈l›
    go_ret
    exact ⟨ZE (by rw [ha.out,Jj hlt,if_pos (by rw [←HX.out];exact h)]),hb.trans (hb1.mono hb.size)⟩
   ·have h:=‹¬(id,inc)∈l›
    go_roundw
    case rel=>exact ⟨rfl,k+1,by omega,by go_num,(ha.out.trans (by rw [Jj hlt,if_neg (by rw [←HX.out];exact h)]):_),hb.trans (hb1.mono hb.size)⟩
    case measure=>simp [intOf];omega
  ·go_wp2
   go_ret
   exact ⟨ZE (by rw [ha.out,zad (by omega)]),hb⟩
open Go.Instr Go.MapKept
def Yk {α β:Type} [DecidableEq α] (x:α):List (α × β)→Nat→Option (Nat × β)
 | [],_=>none
 | p :: l,i=>if x=p.1 then some (i,p.2) else Yk x l (i+1)
def Yz {α β:Type} [DecidableEq α] (x:α):List (α × β)→Option β
 | []=>none
 | p :: l=>if x=p.1 then some p.2 else Yz x l
def ins {α β:Type} [DecidableEq α] (x:α) (v:β):List (α × β)→List (α × β)
 | []=>[(x,v)]
 | p :: l=>if x=p.1 then (x,v) :: l else p :: ins x v l
def del {α β:Type} [DecidableEq α] (x:α):List (α × β)→List (α × β)
 | []=>[]
 | p :: l=>if x=p.1 then l else p :: del x l
structure Kz (P:Program) (K:TypeId) {α:Type} [DecidableEq α] (ke:α→Value):Prop where
 find:∀(x:α) (L:List (α × Value)) (es:List MapEntry) (w:World),es.map (λe=>(e.key,e.val))=L.map (λp=>(ke p.1,p.2)) →
  (findKey K (ke x) es).run P w=.ok (Yk x L 0) w
 check:∀(b:Bool) (x:α) (w:World),(checkKey b 10000 K (ke x)).run P w=.ok () w
 same:∀x,sameBits 10000 (ke x) (ke x)=true
def zdv (es:Array MapEntry) (clock:Nat):Prop:=(es.toList.map (·.born)).Nodup∧∀e∈es.toList,e.born<clock
def Zj {α β:Type} (w:World) (r:Nat) (ke:α→Value) (ve:β→Value) (L:List (α × β)):Prop :=
 ∃es clock,w.heap[r]?=some (.map es clock)∧es.toList.map (λe=>(e.key,e.val))=L.map (λp=>(ke p.1,ve p.2))∧zdv es clock
section
set_option linter.unusedSectionVars false
variable {α β:Type} [DecidableEq α] {ke:α→Value} {ve:β→Value} {P:Program} {K:TypeId}
theorem Zj.lt {w:World} {r:Nat} {L:List (α × β)} (h:Zj w r ke ve L):r<w.heap.size:=by
 obtain ⟨es,clock,hb,_⟩:=h
 exact (Array.getElem?_eq_some_iff.1 hb).1
theorem Zj.same {w w':World} {r:Nat} {L:List (α × β)} (h:Zj w r ke ve L) (hb:w'.heap[r]?=w.heap[r]?):Zj w' r ke ve L:=by
 obtain ⟨es,clock,h1,h2⟩:=h
 exact ⟨es,clock,hb.trans h1,h2⟩
theorem Zj.ext {w w':World} {r:Nat} {L:List (α × β)} (h:Zj w r ke ve L) (hb:Below w.heap.size w w'):Zj w' r ke ve L :=
 h.same (hb.block _ h.lt)
theorem Zj.alloc {w:World} {r:Nat} {L:List (α × β)} (h:Zj w r ke ve L) (o:Obj):Zj (w.alloc o) r ke ve L :=
 h.ext (bra)
theorem Zj.setCell {w:World} {r:Nat} {L:List (α × β)} (h:Zj w r ke ve L) {p:Addr} (hp:r≠p.block) (u:Value):Zj (w.setCell p u) r ke ve L :=
 h.same (Below.heap_setCell _ _ _ _ hp)
theorem Zj.made (w:World):Zj (w.alloc (.map #[] 0)) w.heap.size ke ve ([]:List (α × β)) :=
 ⟨#[],0,(MapKept.heap_alloc w _).1,rfl,by simp [zdv]⟩
theorem Zj.made' (w:World) {r:Nat} (h:r=w.heap.size):Zj (w.alloc (.map #[] 0)) r ke ve ([]:List (α × β)):=by
 subst h;exact Zj.made w
theorem Ek (f:β→Value) (x:α):∀(L:List (α × β)) (i:Nat),Yk x (L.map λp=>(p.1,f p.2)) i=(Yk x L i).map λq=>(q.1,f q.2)
 | [],_=>rfl
 | p :: l,i=>by
  simp only [List.map_cons,Yk]
  split
  ·rfl
  ·exact Ek f x l (i+1)
theorem XM (x:α):∀(L:List (α × β)) (i:Nat),(Yk x L i).map (·.2)=Yz x L
 | [],_=>rfl
 | p :: l,i=>by
  simp only [Yk,Yz]
  split
  ·rfl
  ·exact XM x l (i+1)
theorem Xo {x:α}:∀{L:List (α × β)} {i j:Nat} {v:β},Yk x L i=some (j,v)→i≤j∧j - i<L.length∧(∃u,L[j - i]?=some (x,u))∧∀u,ins x u L=L.set (j - i) (x,u)
 | [],_,_,_,h=>by simp [Yk] at h
 | p :: l,i,j,v,h=>by
  simp only [Yk] at h
  split at h
  ·next hx =>
   simp only [Option.some.injEq,Prod.mk.injEq] at h
   obtain ⟨rfl,rfl⟩:=h
   refine ⟨Nat.le_refl _,by simp,⟨p.2,by simp [hx]⟩,λu=>by simp [ins,hx]⟩
  ·next hx =>
   obtain ⟨h1,h2,h3,h4⟩:=Xo h
   have e:j - i=(j - (i+1))+1:=by omega
   refine ⟨by omega,by simp;omega,?_,λu=>?_⟩
   ·rw [e];simpa using h3
   ·rw [e];simp only [ins,if_neg hx,List.set_cons_succ,h4 u]
theorem GA {x:α}:∀{L:List (α × β)} {i:Nat},Yk x L i=none→∀u,ins x u L=L ++ [(x,u)]
 | [],_,_,u=>rfl
 | p :: l,i,h,u=>by
  simp only [Yk] at h
  split at h
  ·simp at h
  ·next hx=>simp [ins,if_neg hx,GA h u]
theorem Kq {w:World} {L:List (α × β)} (kk:Kz P K ke) {es:Array MapEntry} (he:es.toList.map (λe=>(e.key,e.val))=L.map (λp=>(ke p.1,ve p.2))) (x:α) :
  (findKey K (ke x) es.toList).run P w=.ok ((Yk x L 0).map λq=>(q.1,ve q.2)) w:=by
 rw [kk.find x (L.map λp=>(p.1,ve p.2)) es.toList w (by rw [he];simp),Ek]
theorem Zj.lookup_ok {w:World} {r:Nat} {L:List (α × β)} (h:Zj w r ke ve L) (kk:Kz P K ke) {t e:TypeId} (ht:P.underlying t=some (.map K e))
  {z:Value} (hz:(zeroValue e).run P w=.ok z w) (x:α) :
  (Instr.lookup t (.map (some r)) (ke x) true).run P w=.ok (.tuple #[((Yz x L).map ve).getD z,.bool (Yz x L).isSome]) w:=by
 obtain ⟨es,clock,hb,he,_⟩:=h
 have hf:=Kq (w:=w) kk he x
 have hl:=XM x L 0
 cases hq:Yk x L 0 with
 | none =>
  rw [hq] at hl hf
  simp [Instr.lookup,run_underlying ht,MapKept.run_getObj_map hb,kk.check,hf,Result.andThen,← hl,hz]
 | some q =>
  rw [hq] at hl hf
  simp [Instr.lookup,run_underlying ht,MapKept.run_getObj_map hb,kk.check,hf,Result.andThen,← hl]
theorem Zj.lookup_no {w:World} {r:Nat} {L:List (α × β)} (h:Zj w r ke ve L) (kk:Kz P K ke) {t e:TypeId} (ht:P.underlying t=some (.map K e))
  {z:Value} (hz:(zeroValue e).run P w=.ok z w) (x:α) :
  (Instr.lookup t (.map (some r)) (ke x) false).run P w=.ok (((Yz x L).map ve).getD z) w:=by
 obtain ⟨es,clock,hb,he,_⟩:=h
 have hf:=Kq (w:=w) kk he x
 have hl:=XM x L 0
 cases hq:Yk x L 0 with
 | none =>
  rw [hq] at hl hf
  simp [Instr.lookup,run_underlying ht,MapKept.run_getObj_map hb,kk.check,hf,Result.andThen,← hl,hz]
 | some q =>
  rw [hq] at hl hf
  simp [Instr.lookup,run_underlying ht,MapKept.run_getObj_map hb,kk.check,hf,Result.andThen,← hl]
structure But (r:Nat) (w w':World):Prop where
 os:w'.os=w.os
 tape:w'.tape=w.tape
 output:w'.output=w.output
 size:w'.heap.size=w.heap.size
 block:∀k,k≠r→w'.heap[k]?=w.heap[k]?
theorem But.below {r B:Nat} {w w':World} (h:But r w w') (hB:B≤r):Below B w w' :=
 ⟨h.os,h.tape,h.output,by rw [h.size];exact Nat.le_refl _,λk hk=>h.block k (by omega)⟩
theorem But.cell {r:Nat} {w w':World} (h:But r w w') {p:Addr} (hp:p.block≠r):w'.cell? p=w.cell? p:=World.cell?_of_block (w:=w) (h.block p.block hp)
theorem But.of_set (w:World) (r:Nat) (o:Obj):But r w { w with heap:=w.heap.setIfInBounds r o } :=
 ⟨rfl,rfl,rfl,by simp,λk hk=>by simp [Ne.symm hk]⟩
theorem zbK {x:α} {L:List (α × β)} {q:Nat × β} (h:Yk x L 0=some q):q.1<L.length:=by
 obtain ⟨j,v⟩:=q
 have:=(Xo h).2.1
 simpa using this
theorem Zj.update {w:World} {r:Nat} {L:List (α × β)} (h:Zj w r ke ve L) (kk:Kz P K ke) {t e:TypeId} (ht:P.underlying t=some (.map K e)) (x:α) (v:β) :
  ∃w',(Instr.mapUpdate t (.map (some r)) (ke x) (ve v)).run P w=.ok () w'∧Zj w' r ke ve (ins x v L)∧But r w w':=by
 obtain ⟨es,clock,hb,he,hbn⟩:=h
 have hf:=Kq (w:=w) kk he x
 have hlen:es.toList.length=L.length:=by simpa using congrArg List.length he
 cases hq:Yk x L 0 with
 | none =>
  rw [hq] at hf
  refine ⟨{ w with heap:=w.heap.setIfInBounds r (.map (es.push { key:=ke x,val:=ve v,born:=clock }) (clock+1)) },
   by simp [Instr.mapUpdate,run_underlying ht,MapKept.run_getObj_map hb,kk.check,hf,run_setObj_map _ hb,Result.andThen],⟨_,_,(heap_set hb).1,?_,?_⟩,But.of_set _ _ _⟩
  ·rw [GA hq];simp [he]
  ·obtain ⟨h1,h2⟩:=hbn
   refine ⟨?_,?_⟩
   ·simp only [Array.toList_push,List.map_append,List.map_cons,List.map_nil]
    rw [List.nodup_append]
    refine ⟨h1,by simp,?_⟩
    intro a ha b hb'
    simp at hb';subst hb'
    obtain ⟨e0,he0,rfl⟩:=List.mem_map.1 ha
    exact Nat.ne_of_lt (h2 e0 he0)
   ·intro e0 he0
    simp only [Array.toList_push,List.mem_append,List.mem_singleton] at he0
    rcases he0 with he0 | rfl
    ·have:=h2 e0 he0;omega
    ·simp
 | some q =>
  obtain ⟨j,u⟩:=q
  have hlt:=zbK hq
  obtain ⟨_,_,⟨u',hu'⟩,hins⟩:=Xo hq
  simp only [Nat.sub_zero] at hu' hins hlt
  rw [hq] at hf
  have hj:∃e0,es[j]?=some e0∧e0.key=ke x:=by
   have:(es.toList.map (λe=>(e.key,e.val)))[j]?=some (ke x,ve u'):=by rw [he,List.getElem?_map,hu'];rfl
   rw [List.getElem?_map] at this
   cases hej:es.toList[j]? with
   | none=>rw [hej] at this;simp at this
   | some e0 =>
    rw [hej] at this
    simp at this
    exact ⟨e0,by simpa using hej,this.1⟩
  obtain ⟨e0,hej,hek⟩:=hj
  refine ⟨{ w with heap:=w.heap.setIfInBounds r (.map (es.modify j λe=>{ e with key:=ke x,val:=ve v }) clock) },
   by simp [Instr.mapUpdate,run_underlying ht,MapKept.run_getObj_map hb,kk.check,hf,hej,hek,Instr.keyThatStays,kk.same,run_setObj_map _ hb,Result.andThen],⟨_,_,(heap_set hb).1,?_,?_⟩,But.of_set _ _ _⟩
  ·rw [hins]
   apply List.ext_getElem?
   intro i
   have hi:(es.toList.map (λe=>(e.key,e.val)))[i]?=(L.map (λp=>(ke p.1,ve p.2)))[i]?:=by rw [he]
   simp only [List.getElem?_map,Array.toList_modify,List.getElem?_modify,List.getElem?_set] at hi ⊢
   by_cases hij:j=i
   ·subst hij
    simp [hlt,hej]
   ·simp [hij] at hi ⊢
    exact hi
  ·obtain ⟨h1,h2⟩:=hbn
   have hborn:(es.modify j λe=>{ e with key:=ke x,val:=ve v }).toList.map (·.born)=es.toList.map (·.born):=by
    apply List.ext_getElem?
    intro i
    simp only [List.getElem?_map,Array.toList_modify,List.getElem?_modify]
    split
    ·cases es.toList[i]? <;> simp
    ·simp
   refine ⟨by rw [hborn];exact h1,λe1 he1=>?_⟩
   have:e1.born∈es.toList.map (·.born):=by rw [←hborn];exact List.mem_map_of_mem he1
   obtain ⟨e2,he2,heq⟩:=List.mem_map.1 this
   rw [←heq];exact h2 e2 he2
theorem Zj.len {w:World} {r:Nat} {L:List (α × β)} (h:Zj w r ke ve L) {t e:TypeId} (ht:P.underlying t=some (.map K e)) (ty:TypeId) :
  (Builtin.len_ #[t] ty #[.map (some r)]).run P w=.ok (.int .i64 L.length) w:=by
 obtain ⟨es,clock,hb,he,_⟩:=h
 have hlen:es.size=L.length:=by simpa using congrArg List.length he
 simp [Builtin.len_,run_underlying ht,MapKept.run_getObj_map hb,Result.andThen,goInt,hlen]
end
theorem Zw {α β:Type} [DecidableEq α] {ke:α→Value} {ve:β→Value} {P:Program} {K:TypeId} (kk:Kz P K ke) {w:World} {ops:Array Oper} {rest:List Oper} {o:Oper} {a:Act} {Q:Exit→Act→World→Prop}
  {m x:Operand} {t e:TypeId} (ht:P.underlying t=some (.map K e)) (z:Value) (hz:∀w,(zeroValue e).run P w=.ok z w) {r:Nat} {L:List (α × β)} (hM:Zj w r ke ve L) (y:α) (V:Value) (hV:((Yz y L).map ve).getD z=V) {bs:Bool} (hs:Hid ((Yz y L).isSome=bs))
  (hg:o.guard=none) (hop:o.op=Op.lookup t m x true) (hm:a.eval m=.map (some r)) (hx:a.eval x=ke y)
  (hK:wpList P ops Q rest (a.put o.dst (.tuple #[V,.bool bs])) w) :
  wpList P ops Q (o :: rest) a w:=by
 refine wpList_plain hg λK' hK'=>?_
 have hrun:=hM.lookup_ok kk ht (hz w) y
 rw [hV,hs.out] at hrun
 unfold Oper.wp
 simp [execOp,hop,hm,hx,hrun,Result.andThen]
 exact hK' _ _ hK
abbrev e16:Int→Value:=λx=>.int .u16 x
abbrev eU:Unit→Value:=λ_=>.agg #[]
abbrev eI:Int→Value:=λx=>.int .i64 x
theorem XA {α:Type} [DecidableEq α] (y:α) (L:List (α × Unit)):((Yz y L).map eU).getD (.agg #[])=.agg #[]:=by cases Yz y L <;> rfl
theorem FH {α:Type} [DecidableEq α] (y:α) (L:List (α × Int)):((Yz y L).map eI).getD (.int .i64 0)=.int .i64 ((Yz y L).getD 0):=by cases Yz y L <;> rfl
theorem Ya {α β:Type} [DecidableEq α] {ke:α→Value} {ve:β→Value} {P:Program} {K:TypeId} (kk:Kz P K ke) {w:World} {ops:Array Oper} {rest:List Oper} {o:Oper} {a:Act} {Q:Exit→Act→World→Prop}
  {m x v:Operand} {t e:TypeId} (ht:P.underlying t=some (.map K e)) {r:Nat} {L:List (α × β)} (hM:Zj w r ke ve L) (y:α) (u:β)
  (hg:o.guard=none) (hop:o.op=Op.mapUpdate t m x v) (hm:a.eval m=.map (some r)) (hx:a.eval x=ke y) (hv:a.eval v=ve u)
  (hK:∀w',Zj w' r ke ve (ins y u L)→But r w w'→wpList P ops Q rest (a.put o.dst undef) w') :
  wpList P ops Q (o :: rest) a w:=by
 refine wpList_plain hg λK' hK'=>?_
 obtain ⟨w',hrun,r1,r2⟩:=hM.update kk ht y u
 unfold Oper.wp
 simp [execOp,hop,hm,hx,hv,hrun,Result.andThen]
 exact hK' _ _ (hK w' r1 r2)
theorem key16 (K:TypeId) (hK:Tryz.prog.underlying K=some (.int .u16)):Kz Tryz.prog K (λ(x:Int)=>Value.int .u16 x) where
 find:=by
  intro x L es w h
  simp only [findKey,Sem.run_bind,run_underlying hK,Result.andThen]
  have:∀(es:List MapEntry) (L:List (Int × Value)) (i:Nat),es.map (λe=>(e.key,e.val))=L.map (λp=>(Value.int .u16 p.1,p.2))→findNow (.int .u16) (.int .u16 x) es i=some (Yk x L i):=by
   intro es
   induction es with
   | nil=>intro L i h;cases L with | nil=>rfl | cons _ _=>simp at h
   | cons e es ih =>
    intro L i h
    cases L with
    | nil=>simp at h
    | cons p L =>
     simp only [List.map_cons,List.cons.injEq,Prod.mk.injEq] at h
     obtain ⟨⟨h1,h2⟩,h3⟩:=h
     simp only [findNow,h1,sameNow,Yk,if_true]
     by_cases hx:x=p.1
     ·simp [hx,h2]
     ·have hb:(x == p.1)=false:=by simpa using hx
      simp [hx,hb,ih L (i+1) h3]
  rw [this es L 0 h]
  simp
 check:=by intro b x w;exact run_checkKey (n:=9999) hK (by simp [IsKey]) b
 same:=by intro x;simp [sameBits]
theorem XF:Kz Tryz.prog 22 (λ(x:Int)=>Value.int .u16 x):=key16 22 Tryz.underlying22
abbrev Yg (p:Pid):Value:=.agg #[.int .u16 p.1,.int .u32 p.2]
theorem zeg (a b c d:Int) (w:World):(Op.equal 25 (.agg #[.int .u16 a,.int .u32 b]) (.agg #[.int .u16 c,.int .u32 d])).run Tryz.prog w=.ok (decide ((a,b)=(c,d))) w:=by
 have hS:Tryz.prog.underlying 25=some (.struct (Tryz.prog.fieldsOf 25)):=by kernel_rfl
 have hp:Tryz.prog.stoodInHeld 25=false:=by kernel_rfl
 unfold Op.equal Op.maxDepth
 rw [show (10000:Nat)=9999+1 from rfl,run_equalIn_agg w 9999 25 _ _ hS hp]
 simp only [Program.fieldsOf,Tryz.underlying25]
 go_simp
 by_cases h1:a=c <;> by_cases h2:b=d <;> simp [h1,h2]
theorem Xa:Kz Tryz.prog 25 Yg where
 find:=by
  intro x L es w h
  cases es with
  | nil =>
   cases L with
   | nil=>simp [findKey,run_underlying Tryz.underlying25,Result.andThen,findNow,Yk]
   | cons _ _=>simp at h
  | cons e es =>
   have hn:∀d,findNow (.struct d) (Yg x) (e :: es) 0=none:=by intro d;simp [findNow,sameNow]
   simp only [findKey,Sem.run_bind,run_underlying Tryz.underlying25,Result.andThen,hn]
   generalize e :: es=es' at h
   have:∀(es:List MapEntry) (L:List (Pid × Value)) (i:Nat),es.map (λe=>(e.key,e.val))=L.map (λp=>(Yg p.1,p.2))→(findAsking 25 (Yg x) es i).run Tryz.prog w=.ok (Yk x L i) w:=by
    intro es
    induction es with
    | nil=>intro L i h;cases L with | nil=>simp [findAsking,Yk] | cons _ _=>simp at h
    | cons e es ih =>
     intro L i h
     cases L with
     | nil=>simp at h
     | cons p L =>
      simp only [List.map_cons,List.cons.injEq,Prod.mk.injEq] at h
      obtain ⟨⟨h1,h2⟩,h3⟩:=h
      have he:=zeg x.1 x.2 p.1.1 p.1.2 w
      simp only [findAsking,h1,Sem.run_bind,he,Result.andThen,Yk]
      by_cases hx:x=p.1
      ·simp [hx,h2]
      ·simp [hx,ih L (i+1) h3]
   exact this es' L 0 h
 check:=by
  intro b x w
  kernel_rfl
 same:=by intro x;simp [sameBits]
theorem Km (w:World):(zeroValue 151).run Tryz.prog w=.ok (.agg #[]) w:=by kernel_rfl
theorem zcA (w:World):(zeroValue 3).run Tryz.prog w=.ok (.int .i64 0) w:=by kernel_rfl
def KM (p:Pid):Bool:=decide (p.1<16) && (p.2 != 0)
theorem zeB (x y:Int) (w:World):Calls Tryz.prog 159 #[.agg #[.int .u16 x,.int .u32 y]] w λe w'=>e=.returned (.bool (KM (x,y)))∧Below w.heap.size w w':=by
 have hB:Below w.heap.size w (w.alloc (.cells #[.int .u16 x,.int .u32 y] 25)):=bra
 by_cases h1:x<16
 ·have h1':decide (x<16)=true:=by simpa using h1
  go_enter Tryz.func159,Tryz.ntmps159
  go_wp2
  go_ret
  exact ⟨Zm (by simp [KM,h1]),hB⟩
 ·have h1':decide (x<16)=false:=by simpa using h1
  go_enter Tryz.func159,Tryz.ntmps159
  go_wp2
  go_ret
  exact ⟨Zm (by unfold KM;rw [show decide ((x,y).1<16)=false from h1'];rfl),hB⟩
theorem EU {x y:Int} {w:World} {bm:Bool} (h:Hid (KM (x,y)=bm)):Calls Tryz.prog 159 #[.agg #[.int .u16 x,.int .u32 y]] w λe w'=>e=.returned (.bool bm)∧Below w.heap.size w w':=by
 have:=zeB x y w
 rw [h.out] at this
 exact this
def XS (n:Nat):List (Int × Unit)→List Pid→Bool
 | _,[]=>decide (0<n) && decide (n≤24)
 | S,p :: l=>if (Yz p.1 S).isSome=true then false else if KM p then XS n (ins p.1 () S) l else false
def Xv (xs:List Pid):Bool:=XS xs.length [] xs
theorem zau {n:Nat} {S:List (Int × Unit)} {xs:List Pid} {k:Nat} (h:k<xs.length) {x y:Int} (hx:(x,y)=xs[k]) :
  XS n S (xs.drop k)=if (Yz x S).isSome=true then false else if KM (x,y) then XS n (ins x () S) (xs.drop (k+1)) else false:=by
 rw [List.drop_eq_getElem_cons h,← hx];rfl
def XE:List (Pid × Int)→List Pid→Nat→List (Pid × Int)
 | S,[],_=>S
 | S,p :: l,k=>XE (if (Yz p S).isSome=true then S else ins p (k:Int) S) l (k+1)
def XI (xs:List Pid):List (Pid × Int):=XE [] xs 0
theorem Gu {S:List (Pid × Int)} {xs:List Pid} {k:Nat} (h:k<xs.length) {x y:Int} (hx:(x,y)=xs[k]) :
  XE S (xs.drop k) k=XE (if (Yz (x,y) S).isSome=true then S else ins (x,y) (k:Int) S) (xs.drop (k+1)) (k+1):=by
 rw [List.drop_eq_getElem_cons h,← hx];rfl
def Yu (S:List (Pid × Int)):Int→List Pid→Bool
 | _,[]=>true
 | last,p :: l=>match Yz p S with
  | none=>false
  | some k=>if k≤last then false else Yu S k l
theorem Eh {S:List (Pid × Int)} {last:Int} {xs:List Pid} {k:Nat} (h:k<xs.length) {x y:Int} (hx:(x,y)=xs[k]) :
  Yu S last (xs.drop k)=match Yz (x,y) S with | none=>false | some k'=>if k'≤last then false else Yu S k' (xs.drop (k+1)):=by
 rw [List.drop_eq_getElem_cons h,← hx];rfl
structure ZP (w:World) (s r:Nat) (L:List (Pid × Unit)):Prop where
 box:w.cell? ⟨s,0,none⟩=some (.map (some r))
 map:Zj w r Yg eU L
theorem ZP.lt {w:World} {s r:Nat} {L:List (Pid × Unit)} (h:ZP w s r L):s<w.heap.size:=World.block_lt_of_cell? w _ h.box
theorem ZP.ext {w w':World} {s r:Nat} {L:List (Pid × Unit)} (h:ZP w s r L) (hb:Below w.heap.size w w'):ZP w' s r L :=
 ⟨by rw [hb.cell (by exact h.lt)];exact h.box,h.map.ext hb⟩
theorem ZP.alloc {w:World} {s r:Nat} {L:List (Pid × Unit)} (h:ZP w s r L) (o:Obj):ZP (w.alloc o) s r L:=h.ext (bra)
theorem ZP.drew {w:World} {s r:Nat} {L:List (Pid × Unit)} (h:ZP w s r L):ZP w.drew s r L:=h.ext (Below.refl _ _).drew
set_option maxHeartbeats 800000 in
set_option maxRecDepth 100000 in
theorem Kn (s r:Nat) (L:List (Pid × Unit)) (x y:Int) (bs:Bool) (w:World) (hS:ZP w s r L) (hl:Hid ((Yz (x,y) L).isSome=bs)) :
  Calls Tryz.prog 265 #[.pointer (some ⟨s,0,none⟩),.agg #[.int .u16 x,.int .u32 y]] w λe w'=>e=.returned (.bool bs)∧Below w.heap.size w w':=by
 have hlk:∀W,ZP W s r L→(Instr.lookup 150 (.map (some r)) (.agg #[.int .u16 x,.int .u32 y]) true).run Tryz.prog W=.ok (.tuple #[.agg #[],.bool bs]) W:=λW h=>by
  have:=h.map.lookup_ok Xa Tryz.underlying150 (Km W) (x,y)
  rw [XA,hl.out] at this
  exact this
 have hbx:∀W,ZP W s r L→W.cell? ⟨s,0,none⟩=some (.map (some r)):=λW h=>h.box
 have hS1:=hS.alloc (.cells #[.int .u16 x,.int .u32 y] 25)
 have hb1:Below w.heap.size w (w.alloc (.cells #[.int .u16 x,.int .u32 y] 25)):=bra
 go_enter Tryz.func265,Tryz.ntmps265
 go_wp2
 go_region_held3 (λW=>ZP W s r L∧W.cell? ⟨w.heap.size,0,none⟩=some (.int .u16 x)∧W.cell? ⟨w.heap.size,1,none⟩=some (.int .u32 y)) (first | exact ⟨hS1.drew,by simp,by simp⟩ | exact ⟨(hS1.alloc _).drew,by simp,by simp⟩) (fail)
 all_goals go_wp2
 all_goals go_ret
 all_goals exact ⟨rfl,(hb1.alloc hb1.size _).drew⟩
structure Mut (F:Nat→Prop) (w w':World):Prop where
 os:w'.os=w.os
 tape:w'.tape=w.tape
 output:w'.output=w.output
 size:w.heap.size≤w'.heap.size
 block:∀k,k<w.heap.size→¬ F k→w'.heap[k]?=w.heap[k]?
theorem Mut.refl (F:Nat→Prop) (w:World):Mut F w w:=⟨rfl,rfl,rfl,Nat.le_refl _,λ_ _ _=>rfl⟩
theorem Mut.trans {F:Nat→Prop} {a b c:World} (h:Mut F a b) (k:Mut F b c):Mut F a c :=
 ⟨k.os.trans h.os,k.tape.trans h.tape,k.output.trans h.output,Nat.le_trans h.size k.size,λi hi hf=>(k.block i (Nat.lt_of_lt_of_le hi h.size) hf).trans (h.block i hi hf)⟩
theorem Mut.of_below {F:Nat→Prop} {w w':World} (h:Below w.heap.size w w'):Mut F w w':=⟨h.os,h.tape,h.output,h.size,λk hk _=>h.block k hk⟩
theorem Mut.of_but {F:Nat→Prop} {r:Nat} {w w':World} (h:But r w w') (hr:F r):Mut F w w' :=
 ⟨h.os,h.tape,h.output,by rw [h.size];exact Nat.le_refl _,λk _ hf=>h.block k (λe=>hf (e ▸ hr))⟩
theorem Mut.mono {F G:Nat→Prop} {w w':World} (h:Mut F w w') (hFG:∀k,k<w.heap.size→F k→G k):Mut G w w' :=
 ⟨h.os,h.tape,h.output,h.size,λk hk hg=>h.block k hk (λhf=>hg (hFG k hk hf))⟩
theorem Mut.below {F:Nat→Prop} {w w':World} (h:Mut F w w') {B:Nat} (hB:B≤w.heap.size) (hF:∀k,F k→B≤k):Below B w w' :=
 ⟨h.os,h.tape,h.output,h.size,λk hk=>h.block k (by omega) (λhf=>by have:=hF k hf;omega)⟩
theorem Mut.cell {F:Nat→Prop} {w w':World} (h:Mut F w w') {p:Addr} (hp:p.block<w.heap.size) (hf:¬ F p.block):w'.cell? p=w.cell? p:=World.cell?_of_block (w:=w) (h.block p.block hp hf)
def Gm (p:Pid) (L:List (Pid × Unit)):List (Pid × Unit):=if (Yz p L).isSome=true then L else ins p () L
set_option maxHeartbeats 800000 in
set_option maxRecDepth 100000 in
theorem zaU (s r:Nat) (L:List (Pid × Unit)) (x y:Int) (w:World) (hS:ZP w s r L) :
  Calls Tryz.prog 238 #[.pointer (some ⟨s,0,none⟩),.agg #[.int .u16 x,.int .u32 y]] w λe w'=>e=.returned (.bool (!(Yz (x,y) L).isSome))∧ZP w' s r (Gm (x,y) L)∧Mut (λk=>k=r) w w':=by
 have hS1:=hS.alloc (.cells #[.int .u16 x,.int .u32 y] 25)
 have hb1:Below w.heap.size w (w.alloc (.cells #[.int .u16 x,.int .u32 y] 25)):=bra
 have hsr:s≠r:=λe=>by
  have h1:=hS.box
  obtain ⟨es,cl,h2,_⟩:=hS.map
  subst e
  simp [World.cell?,h2] at h1
 cases hs:(Yz (x,y) L).isSome
 ·have HS:=hid hs
  clear hs
  go_enter Tryz.func238,Tryz.ntmps238
  go_wp2_with (go_at_call 265;refine (Kn _ _ _ _ _ _ _ hS1 HS).mono ?_;rintro e w1 ⟨rfl,hb2⟩;obtain ⟨hc1,hf1⟩:=JY hb2)
  have hb12:=hb1.trans (hb2.mono hb1.size)
  have hz:=hb2.size
  simp at hz
  have hS2:=hS1.ext hb2
  obtain ⟨w2,hrun,hM2,hbut⟩:=hS2.drew.map.update Xa Tryz.underlying150 (x,y) ()
  have hrlt:=hS.map.lt
  have c0:w2.cell? ⟨s,0,none⟩=some (.map (some r)):=(hbut.cell (by exact hsr)).trans hS2.drew.box
  have e0:w1.drew.cell? ⟨w.heap.size,0,none⟩=some (.int .u16 x):=by simp [hc1]
  have e1:w1.drew.cell? ⟨w.heap.size,1,none⟩=some (.int .u32 y):=by simp [hc1]
  have c1:w2.cell? ⟨w.heap.size,0,none⟩=some (.int .u16 x):=(hbut.cell (by simp;omega)).trans e0
  have c2:w2.cell? ⟨w.heap.size,1,none⟩=some (.int .u32 y):=(hbut.cell (by simp;omega)).trans e1
  go_region_held3 (λW=>W.cell? ⟨s,0,none⟩=some (.map (some r))∧W.cell? ⟨w.heap.size,0,none⟩=some (.int .u16 x)∧W.cell? ⟨w.heap.size,1,none⟩=some (.int .u32 y)) (first | exact ⟨hS2.drew.box,e0,e1⟩ | exact ⟨c0,c1,c2⟩) (fail)
  go_wp2
  go_ret
  exact ⟨rfl,⟨c0,by unfold Gm;rw [HS.out];exact hM2⟩,(Mut.of_below hb12.drew).trans (Mut.of_but hbut rfl)⟩
 ·have HS:=hid hs
  clear hs
  go_enter Tryz.func238,Tryz.ntmps238
  go_wp2_with (go_at_call 265;refine (Kn _ _ _ _ _ _ _ hS1 HS).mono ?_;rintro e w1 ⟨rfl,hb2⟩;obtain ⟨hc1,hf1⟩:=JY hb2)
  go_ret
  exact ⟨rfl,by unfold Gm;rw [HS.out];exact hS1.ext hb2,Mut.of_below (hb1.trans (hb2.mono hb1.size))⟩
theorem add_is (s r:Nat) (L:List (Pid × Unit)) (x y:Int) {bs:Bool} (h:(Yz (x,y) L).isSome=bs) (w:World) (hS:ZP w s r L) :
  Calls Tryz.prog 238 #[.pointer (some ⟨s,0,none⟩),.agg #[.int .u16 x,.int .u32 y]] w λe w'=>e=.returned (.bool (!bs))∧ZP w' s r (Gm (x,y) L)∧Mut (λk=>k=r) w w':=by
 have:=zaU s r L x y w hS
 rw [h] at this
 exact this
theorem Jw (s r:Nat) (L:List (Pid × Unit)) (w:World) (hS:ZP w s r L) :
  Calls Tryz.prog 261 #[.pointer (some ⟨s,0,none⟩)] w λe w'=>e=.returned (.int .i64 L.length)∧w=w':=by
 have h0:=hS.box
 have hl:=hS.map.len Tryz.underlying150 3
 go_enter Tryz.func261,Tryz.ntmps261
 go_wp2
 go_ret
 exact ⟨rfl,rfl⟩
def Zx:List (Pid × Unit)→List Pid→List (Pid × Unit)
 | L,[]=>L
 | L,p :: l=>Zx (Gm p L) l
def KD:List (Pid × Unit)→List Pid→Nat
 | _,[]=>0
 | L,p :: l=>(if (Yz p L).isSome=true then 0 else 1)+KD (Gm p L) l
theorem Gh {L:List (Pid × Unit)} {xs:List Pid} {k:Nat} (h:k<xs.length) {x y:Int} (hx:(x,y)=xs[k]):Zx L (xs.drop k)=Zx (Gm (x,y) L) (xs.drop (k+1)):=by
 rw [List.drop_eq_getElem_cons h,← hx];rfl
theorem zbi {L:List (Pid × Unit)} {xs:List Pid} {k:Nat} (h:k<xs.length) {x y:Int} (hx:(x,y)=xs[k]):KD L (xs.drop k)=(if (Yz (x,y) L).isSome=true then 0 else 1)+KD (Gm (x,y) L) (xs.drop (k+1)):=by
 rw [List.drop_eq_getElem_cons h,← hx];rfl
theorem Zb.mut {F:Nat→Prop} {w w':World} {a:Option Addr} {xs:List Pid} (h:Zb w a xs) (hm:Mut F w w') (hF:∀b off,a=some ⟨b,off,none⟩→0<xs.length→¬ F b):Zb w' a xs:=by
 rcases h with rfl | ⟨b,off,rfl,hlt,hc⟩
 ·exact .inl rfl
 ·by_cases h0:0<xs.length
  ·refine .inr ⟨b,off,rfl,by have:=hm.size;omega,λi hi=>?_⟩
   have:=hF b off rfl h0
   rw [hm.cell (by exact hlt) (by exact this),hm.cell (by exact hlt) (by exact this)]
   exact hc i hi
  ·exact .inl (List.length_eq_zero_iff.1 (by omega))
theorem Zb.ne_map {w:World} {a:Option Addr} {xs:List Pid} (h:Zb w a xs) {r:Nat} {es:Array MapEntry} {cl:Nat} (hr:w.heap[r]?=some (.map es cl)) {b off:Nat} (ha:a=some ⟨b,off,none⟩) (h0:0<xs.length):b≠r:=by
 obtain ⟨b',off',rfl,_,hc⟩:=h.get h0
 cases ha
 intro e
 subst e
 have:=(hc 0 h0).1
 simp [World.cell?,hr] at this
theorem Zb.mutMap {w w':World} {a:Option Addr} {xs:List Pid} (h:Zb w a xs) {r:Nat} (hm:Mut (λk=>k=r) w w') {α β:Type} {ke:α→Value} {ve:β→Value} {L:List (α × β)} (hr:Zj w r ke ve L):Zb w' a xs:=by
 obtain ⟨es,cl,h2,_⟩:=hr
 exact h.mut hm λb off ha h0=>h.ne_map h2 ha h0
set_option maxHeartbeats 800000 in
set_option maxRecDepth 100000 in
theorem Eg (s r:Nat) (L:List (Pid × Unit)) (a:Option Addr) (c:Nat) (xs:List Pid) (w:World) (hn:xs.length≤70368744177664) (hrow:Zb w a xs) (hS:ZP w s r L) :
  Calls Tryz.prog 167 #[.pointer (some ⟨s,0,none⟩),.slice a xs.length c] w λe w'=>e=.returned (.int .i64 (KD L xs))∧ZP w' s r (Zx L xs)∧Mut (λk=>k=r) w w':=by
 go_enter Tryz.func167,Tryz.ntmps167
 go_wp2
 go_loopw [5,10] (λn i wr=>∃(k:Nat) (Lk:List (Pid × Unit)) (m:Nat),k≤xs.length∧i=.int .i64 k∧n=.int .i64 m∧m≤k∧Hid (Zx L xs=Zx Lk (xs.drop k))∧Hid (KD L xs=m+KD Lk (xs.drop k))∧ZP wr s r Lk∧Mut (λk=>k=r) w wr) (λ_ i _=>xs.length - (intOf i).toNat)
 case atStart=>exact ⟨0,L,0,Nat.zero_le _,rfl,rfl,Nat.le_refl _,rfl,(show KD L xs=0+KD L xs by omega),hS,Mut.refl _ _⟩
 case round =>
  obtain ⟨k,Lk,m,hk,rfl,rfl,hmk,hL,hN,hSk,hmut⟩:=hrel
  by_cases hlt:k<xs.length
  ·obtain ⟨b,off,x,y,rfl,hx,d1,d2⟩:=(hrow.mutMap hmut hS.map).at (Below.refl _ _) rfl hlt
   have hL1:=Gh (L:=Lk) hlt hx
   have hN1:=zbi (L:=Lk) hlt hx
   have HL1:=hid hL1
   have HN1:=hid hN1
   clear hx hrow hL1 hN1
   have hB1:Mut (λk=>k=r) w (wr.alloc (.cells #[.int .u16 x,.int .u32 y] 25)):=hmut.trans (Mut.of_below (bra))
   cases hs:(Yz (x,y) Lk).isSome
   ·have HS:=hid hs
    clear hs
    go_wp2_with (go_at_call 238;refine (add_is _ _ _ _ _ HS.out _ (hSk.alloc _)).mono ?_;rintro e w1 ⟨rfl,hS1,hm1⟩)
    go_roundw
    case rel=>exact ⟨k+1,_,m+1,by omega,by go_num,by go_num,by omega,hL.out.trans HL1.out,hN.out.trans (by rw [HN1.out,HS.out];simp;omega),hS1,hB1.trans hm1⟩
    case measure=>simp [intOf];omega
   ·have HS:=hid hs
    clear hs
    go_wp2_with (go_at_call 238;refine (add_is _ _ _ _ _ HS.out _ (hSk.alloc _)).mono ?_;rintro e w1 ⟨rfl,hS1,hm1⟩)
    go_roundw
    case rel=>exact ⟨k+1,_,m,by omega,by go_num,rfl,by omega,hL.out.trans HL1.out,hN.out.trans (by rw [HN1.out,HS.out];simp),hS1,hB1.trans hm1⟩
    case measure=>simp [intOf];omega
  ·go_wp2
   go_ret
   exact ⟨ZE (by rw [hN.out,List.drop_eq_nil_of_le (by omega)];simp [KD]),by rw [hL.out,List.drop_eq_nil_of_le (by omega)];exact hSk,hmut⟩
set_option maxHeartbeats 800000 in
theorem VL (a:Option Addr) (c:Nat) (xs:List Pid) (w:World) (hn:xs.length≤70368744177664) (hrow:Zb w a xs) :
  Calls Tryz.prog 69 #[.slice a xs.length c] w λe w'=>∃s r,e=.returned (.pointer (some ⟨s,0,none⟩))∧w.heap.size≤s∧w.heap.size≤r∧ZP w' s r (Zx [] xs)∧Below w.heap.size w w':=by
 have hmm:=@run_makeMap Tryz.prog
 have hB:Below w.heap.size w ((w.alloc (.map #[] 0)).alloc (.cells #[.map (some w.heap.size)] 244)):=(bra).alloc (by simp) _
 have hS:ZP ((w.alloc (.map #[] 0)).alloc (.cells #[.map (some w.heap.size)] 244)) (w.heap.size+1) w.heap.size []:=⟨by simp,(Zj.made _).alloc _⟩
 go_enter Tryz.func69,Tryz.ntmps69
 go_wp2_with (go_at_call 167;refine (Eg _ _ _ _ _ _ _ hn (hrow.ext hB) hS).mono ?_;rintro e w1 ⟨rfl,hS1,hm1⟩)
 go_ret
 exact ⟨_,_,rfl,by omega,Nat.le_refl _,hS1,hB.trans (hm1.below (by simp;omega) (λk hk=>by omega))⟩
theorem EE:(Tryz.prog.info? 25).map (λi=>(i.zero,i.size,i.bytes))=some (some (.agg #[.int .u16 0,.int .u32 0]),2,8):=by kernel_rfl
def ZD (xs:List Pid):List Value:=xs.flatMap λp=>[.int .u16 p.1,.int .u32 p.2]
theorem ZZ:∀(xs:List Pid),(ZD xs).length=xs.length * 2
 | []=>rfl
 | p :: l=>by
  have:=ZZ l
  unfold ZD at this ⊢
  simp only [List.flatMap_cons,List.length_append,List.length_cons,List.length_nil,this]
  omega
theorem Xi (xs ys:List Pid):ZD (xs ++ ys)=ZD xs ++ ZD ys:=by simp [ZD]
theorem XU:∀(xs:List Pid) (i:Nat) (h:i<xs.length),(ZD xs)[i * 2]?=some (.int .u16 xs[i].1)∧(ZD xs)[i * 2+1]?=some (.int .u32 xs[i].2)
 | p :: l,0,_=>by simp [ZD]
 | p :: l,i+1,h=>by
  have:=XU l i (by simpa using h)
  have e:ZD (p :: l)=[.int .u16 p.1,.int .u32 p.2] ++ ZD l:=by simp [ZD]
  rw [e,show (i+1) * 2=i * 2+2 by omega]
  constructor
  ·rw [List.getElem?_append_right (by simp)]
   simpa using this.1
  ·rw [List.getElem?_append_right (by simp)]
   simpa using this.2
theorem Kc (xs:List Pid):∀u∈ZD xs,u.oneCell'=true:=by
 intro u hu
 obtain ⟨p,_,hp⟩:=List.mem_flatMap.1 hu
 simp at hp
 rcases hp with rfl | rfl <;> rfl
theorem YN (b off n:Nat):(⟨b,off,none⟩:Addr).add n=⟨b,off+n,none⟩:=by
 unfold Addr.add;split <;> simp_all
theorem Zb.cells {w:World} {b off:Nat} {xs:List Pid} (hc:∀i (h:i<xs.length),w.cell? ⟨b,off+i * 2,none⟩=some (.int .u16 xs[i].1)∧w.cell? ⟨b,off+i * 2+1,none⟩=some (.int .u32 xs[i].2)) :
  ∀j u,(ZD xs)[j]?=some u→w.cell? ((⟨b,off,none⟩:Addr).add j)=some u:=by
 intro j u hu
 have hj:j<(ZD xs).length:=(List.getElem?_eq_some_iff.1 hu).1
 rw [ZZ] at hj
 rw [YN]
 have hi:j / 2<xs.length:=by omega
 obtain ⟨h1,h2⟩:=hc (j / 2) hi
 obtain ⟨g1,g2⟩:=XU xs (j / 2) hi
 rcases Nat.mod_two_eq_zero_or_one j with hm | hm
 ·have e:j / 2 * 2=j:=by omega
  rw [e] at h1 g1
  rw [h1,← g1,hu]
 ·have e:j / 2 * 2+1=j:=by omega
  rw [e] at g2
  rw [show off+j=off+j / 2 * 2+1 by omega,h2,← g2,hu]
def Zy (w:World) (base:Nat) (v:Value) (xs:List Pid):Prop:=w.ownsRow base 25 2 v xs.length (ZD xs)
theorem Zy.nil (w:World) (base:Nat):Zy w base (.slice none 0 0) []:=World.ownsRow_nil _ _ _ _
theorem Zy.row {w:World} {base:Nat} {v:Value} {xs:List Pid} (h:Zy w base v xs):∃a c,v=.slice a xs.length c∧Zb w a xs∧∀b off,a=some ⟨b,off,none⟩→base≤b:=by
 have hcells:=λg=>World.ownsRow.cells (g:=g) h
 rcases h.2 with ⟨rfl,hn⟩ | ⟨g,cap,cur,rfl,hb,hg,hnc,hcm,hcs,htake⟩
 ·exact ⟨none,0,by rw [hn],.inl (List.length_eq_zero_iff.1 hn),by simp⟩
 ·refine ⟨_,cap,rfl,.inr ⟨g,0,rfl,(Array.getElem?_eq_some_iff.1 hg).1,λi hi=>?_⟩,λb off e=>by cases e;exact hb⟩
  obtain ⟨g1,g2⟩:=XU xs i hi
  have h1:=hcells g rfl _ _ g1
  have h2:=hcells g rfl _ _ g2
  rw [YN] at h1 h2
  exact ⟨h1,h2⟩
theorem Zy.ext {w w':World} {base:Nat} {v:Value} {xs:List Pid} (h:Zy w base v xs) (hb:Below w.heap.size w w'):Zy w' base v xs:=by
 refine ⟨h.1,?_⟩
 rcases h.2 with hn | ⟨g,cap,cur,rfl,hbb,hgg,rest⟩
 ·exact .inl hn
 ·exact .inr ⟨g,cap,cur,rfl,hbb,(hb.block g (Array.getElem?_eq_some_iff.1 hgg).1).trans hgg,rest⟩
theorem za9 {w:World} {base:Nat} {v:Value} {xs ys:List Pid} (hown:Zy w base v xs) {a:Option Addr} {c:Nat} (hy:Zb w a ys) (hlen:xs.length+ys.length≤1099511627776) (hbase:base≤w.heap.size) (ty:TypeId) :
  ∃v' w',(Builtin.append_ #[26,26] ty #[v,.slice a ys.length c]).run Tryz.prog w=.ok v' w'∧Zy w' base v' (xs ++ ys)∧w.grownBy w' v.ownBlock∧(v'=.slice none 0 0↔v=.slice none 0 0∧ys=[]):=by
 obtain ⟨i0,hi,hz0,hz1,hz2⟩:=info_parts EE
 rcases hy with rfl | ⟨b,off,rfl,hlt,hc⟩
 ·refine ⟨v,w,?_,by simpa using hown,⟨rfl,rfl,rfl,Nat.le_refl _,λ_ _ _=>rfl⟩,by simp⟩
  rcases hown.2 with ⟨rfl,hn⟩ | ⟨g,cap,cur,rfl,hb,hg,hnc,hcm,hcs,htake⟩
  ·cases a <;> simp [Builtin.append_,run_underlying Tryz.underlying26,sizeOf,typeInfo,hi,Builtin.lenOf,Builtin.firstCells,loadCells,loadCellsFrom]
  ·cases a <;> simp [Builtin.append_,run_underlying Tryz.underlying26,sizeOf,typeInfo,hi,Builtin.lenOf,Builtin.firstCells,loadCells,loadCellsFrom,hnc,storeCells]
 ·obtain ⟨v',w',hr,h2,h3,h4⟩:=run_append_own (P:=Tryz.prog) w base 26 ty 25 i0 _ 2 8 Tryz.underlying26 hi hz0 hz1 hz2 rfl (by decide) v xs.length (ZD xs) hown ⟨b,off,none⟩ ys.length c (ZD ys) (ZZ ys) (Zb.cells hc) (Kc ys) (by unfold maxLen;omega) (by omega) hbase
  refine ⟨v',w',hr,?_,h3,?_⟩
  ·unfold Zy;rw [List.length_append,Xi];exact h2
  ·rw [h4,List.length_eq_zero_iff]
theorem ZQ {w:World} {ops:Array Oper} {rest:List Oper} {o:Oper} {a:Act} {Q:Exit→Act→World→Prop} {s x:Operand} {base:Nat} {v:Value} {xs ys:List Pid} (hown:Zy w base v xs) {ad:Option Addr} {c:Nat} (hy:Zb w ad ys)
  (hlen:xs.length+ys.length≤1099511627776) (hbase:base≤w.heap.size)
  (hg:o.guard=none) (ho:o.op=.call { callee:=.builtin .append,args:=#[s,x],argTypes:=#[26,26] }) (hs:a.eval s=v) (hx:a.eval x=.slice ad ys.length c)
  (h:∀v' w',Zy w' base v' (xs ++ ys)→w.grownBy w' v.ownBlock→(v'=.slice none 0 0↔v=.slice none 0 0∧ys=[])→wpList Tryz.prog ops Q rest (a.put o.dst v') w'):wpList Tryz.prog ops Q (o :: rest) a w:=by
 obtain ⟨v',w',hr,h2,h3,h4⟩:=za9 hown (c:=c) hy hlen hbase o.type
 exact Lib.wpList_append_run w hg s x 26 26 ho _ _ hs hx v' w' hr (h v' w' h2 h3 h4)
def Kg (ls:List (List Pid)):Nat:=(ls.map List.length).sum
theorem Ve {ls:List (List Pid)} {k:Nat} (h:k<ls.length):Kg (ls.take (k+1))=Kg (ls.take k)+ls[k].length:=by
 unfold Kg
 rw [List.take_succ_eq_append_getElem h,List.map_append,List.sum_append]
 simp only [List.map_cons,List.map_nil,List.sum_cons,List.sum_nil,Nat.add_zero]
theorem Vc (ls:List (List Pid)) (k:Nat):Kg (ls.take k)≤Kg ls:=by
 unfold Kg
 have h:ls=ls.take k ++ ls.drop k:=(List.take_append_drop k ls).symm
 conv=>rhs;rw [h]
 rw [List.map_append,List.sum_append]
 omega
theorem Jo {ls:List (List Pid)} {k:Nat} (h:ls.length≤k):Kg (ls.take k)=Kg ls:=by rw [List.take_of_length_le h]
theorem Jt {ls:List (List Pid)} {k:Nat} (h:k<ls.length):(ls.take (k+1)).flatten=(ls.take k).flatten ++ ls[k]:=by
 rw [List.take_succ_eq_append_getElem h,List.flatten_append];simp only [List.flatten_cons,List.flatten_nil,List.append_nil]
theorem XD (ls:List (List Pid)):ls.flatten.length=Kg ls:=by unfold Kg;rw [List.length_flatten]
theorem Zb.one (w:World) (x y:Int):Zb (w.alloc (.cells #[.int .u16 x,.int .u32 y] 25)) (some ⟨w.heap.size,0,none⟩) [(x,y)] :=
 .inr ⟨_,0,rfl,by simp,λi hi=>by
  have:i=0:=by simpa using hi
  subst this
  exact ⟨by simp,by simp⟩⟩
def XQ (S:List (Pid × Int)) (K:List Pid→Nat→Bool):List Pid→Nat→List (List Pid)→Bool
 | F,n,[]=>K F n
 | F,n,l :: r=>match l with
  | []=>false
  | p :: _=>if Yu S (-1) l then XQ S K (F ++ [p]) (n+l.length) r else false
def VT (V:Zs) (F:List Pid) (n:Nat):Bool :=
 decide (n=V.ms.length) && (decide ((Zx [] V.ls.flatten).length=n) && (Yu (XI V.ms) (-1) F && (decide (V.ds≠[]) && Yu (XI V.ms) (-1) V.ds)))
def Xh (V:Zs):Bool :=
 decide (1≤V.id) && (decide (V.id≤4611686018427387904) && (Xv V.ms && XQ (XI V.ms) (VT V) [] 0 V.ls))
def errB (b:Bool):Int:=if b then 0 else 1
theorem zbn {S:List (Pid × Int)} {K:List Pid→Nat→Bool} {F:List Pid} {n:Nat} {ls:List (List Pid)} {k:Nat} (h:k<ls.length) (h0:ls[k]=[]):XQ S K F n (ls.drop k)=false:=by
 rw [List.drop_eq_getElem_cons h,h0];rfl
theorem Ed {S:List (Pid × Int)} {K:List Pid→Nat→Bool} {F:List Pid} {n:Nat} {ls:List (List Pid)} {k:Nat} (h:k<ls.length) {l:List Pid} (hl:l=ls[k]) {p:Pid} (hp:l.head?=some p) :
  XQ S K F n (ls.drop k)=if Yu S (-1) l then XQ S K (F ++ [p]) (n+l.length) (ls.drop (k+1)) else false:=by
 rw [List.drop_eq_getElem_cons h,← hl]
 cases l with
 | nil=>simp at hp
 | cons q r=>simp at hp;subst hp;rfl
theorem checkB_1 {V:Zs} (h:¬ 1≤V.id):Xh V=false:=by
 unfold Xh;rw [decide_eq_false h,Bool.false_and]
theorem checkB_2 {V:Zs} (h:¬ V.id≤4611686018427387904):Xh V=false:=by
 unfold Xh;rw [decide_eq_false h,Bool.false_and,Bool.and_false]
theorem checkB_3 {V:Zs} (h:Xv V.ms=false):Xh V=false:=by
 unfold Xh;rw [h,Bool.false_and,Bool.and_false,Bool.and_false]
theorem checkB_4 {V:Zs} (h1:1≤V.id) (h2:V.id≤4611686018427387904) (h:Xv V.ms=true):Xh V=XQ (XI V.ms) (VT V) [] 0 V.ls:=by
 unfold Xh;rw [decide_eq_true h1,decide_eq_true h2,h,Bool.true_and,Bool.true_and,Bool.true_and]
abbrev YM (V:Zs) (am al ad:Option Addr) (cm cl cd:Nat):Value:=.agg #[.int .u64 V.id,.slice am V.ms.length cm,.slice al V.ls.length cl,.slice ad V.ds.length cd]
structure ZB (w:World) (b:Nat) (V:Zs) (am al ad:Option Addr) (cm cl cd:Nat):Prop where
 c0:w.cell? ⟨b,0,none⟩=some (.int .u64 V.id)
 c1:w.cell? ⟨b,1,none⟩=some (.slice am V.ms.length cm)
 c2:w.cell? ⟨b,2,none⟩=some (.slice al V.ls.length cl)
 c3:w.cell? ⟨b,3,none⟩=some (.slice ad V.ds.length cd)
section
variable {w w':World} {b:Nat} {V:Zs} {am al ad:Option Addr} {cm cl cd:Nat}
theorem ZB.lt (h:ZB w b V am al ad cm cl cd):b<w.heap.size:=World.block_lt_of_cell? w _ h.c0
theorem ZB.ext (h:ZB w b V am al ad cm cl cd) {B:Nat} (hb:Below B w w') (hB:b<B):ZB w' b V am al ad cm cl cd :=
 ⟨by rw [hb.cell (by exact hB)];exact h.c0,by rw [hb.cell (by exact hB)];exact h.c1,by rw [hb.cell (by exact hB)];exact h.c2,by rw [hb.cell (by exact hB)];exact h.c3⟩
theorem ZB.made (w:World):ZB (w.alloc (.cells #[.int .u64 V.id,.slice am V.ms.length cm,.slice al V.ls.length cl,.slice ad V.ds.length cd] 35)) w.heap.size V am al ad cm cl cd :=
 ⟨by simp,by simp,by simp,by simp⟩
end
structure YB (w:World) where
 W:World
 h:Below w.heap.size w W
instance extW_some (w:World):Nonempty (YB w):=⟨⟨w,Below.refl _ _⟩⟩
theorem Ze {P:Program} {w wr:World} {id:Nat} {Q:Exit→Act→World→Prop} {a:Act} {l:List Oper} (hb:Below w.heap.size w wr) (hm:P.follows .mixedOrders=true) (hB:Region.lexB .any l.toArray=true)
  (h:wpQuiet P l.toArray (λw'=>∃U:YB w,w'=U.W) (λa'=>∀w',(∃U:YB w,w'=U.W)→Q .normal a' w') l a):(Code.region id l.toArray true).wp P Q a wr :=
 wp_region_quiet (C:=λw'=>∃U:YB w,w'=U.W) hm hB ⟨⟨wr.drew,hb.drew⟩,rfl⟩ (by simpa using h)
theorem Zb.extw {w:World} {b off:Nat} {xs:List Pid} (hrow:Zb w (some ⟨b,off,none⟩) xs) {k:Nat} (hlt:k<xs.length) {x y:Int} (hx:(x,y)=xs[k]) :
  (∀U:YB w,U.W.cell? ⟨b,off+k * 2,none⟩=some (.int .u16 x))∧(∀U:YB w,U.W.cell? ⟨b,off+k * 2+1,none⟩=some (.int .u32 y)):=by
 constructor <;> intro U <;> obtain ⟨b',off',x',y',e,hx',h1,h2⟩:=hrow.at U.h rfl hlt <;> cases e <;> rw [←hx] at hx' <;> cases hx' <;> assumption
def mayR (p:Pid):Bool:=decide (p.1<16) && decide (0<p.2)
def zbB (ms:List Pid) (pr:Option Pid) (A:Int):Bool:=match pr with | none=>false | some q=>decide (A≤Ks ms q)
def Xw (ms:List Pid):Option Pid→List Pid→Bool
 | _,[]=>true
 | pr,p :: r=>if Ks ms p<0 then false else if zbB ms pr (Ks ms p) then false else Xw ms (some p) r
def zc4 (ms xs:List Pid):Bool:=Xw ms none xs
def JH (xs:List Pid) (k:Nat):Option Pid:=if k=0 then none else xs[k - 1]?
theorem zbt {xs:List Pid} {k:Nat} (h:k<xs.length) {x y:Int} (hx:(x,y)=xs[k]):JH xs (k+1)=some (x,y):=by
 simp [JH,h,hx]
end Go.Proofs.YtcdpaflmofljaaaGreat
