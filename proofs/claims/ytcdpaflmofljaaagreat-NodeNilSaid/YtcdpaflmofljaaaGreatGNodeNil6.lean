import Derived.Test.YtcdpaflmofljaaaGreatGNodeNil5
import Derived.Deep.Slices
import Derived.Lib.SmallJoins
import Derived.SizedLaws
import Derived.ProofKit
import Derived.OpenShut
import Derived.Lib.ItoaNum
import Derived.Lib.IndexMore
import Derived.Lib.ParseIntBCases
import Derived.Shelf.Strconv.Itoa1
import Derived.Lib.ItoaMem
import Derived.Lib.AppendIntMem
import Derived.Lib.ItoaWalk
import Derived.Lib.LaidTab
import Derived.Lib.Walk
import Derived.BigCall
import Derived.BigGuard
import Derived.Laws.BytesString
import Derived.Lib.SlBytesRow
import Derived.Lib.BufferRead
import Derived.ArgAppend
import Derived.Lib.SplitLaws
import Derived.Lib.AtoiAllCases
import Derived.Lib.AtoiBound
import Derived.Deep.CutBlock
import Derived.Lib.ConvBytes
import Derived.Lib.AtoiErrMem
import Derived.Deep.Cut
/- Parts of the proof of NodeNil: X50 XO X36 NB Y1 Z2 K1 K2 K3 K6 OS NC FD X29 X38 X39 X60 X61 X62 X64. -/
namespace Go.Proofs.YtcdpaflmofljaaaGreat
open Go.RowKit
theorem QK {p:Pid}:∀{pre suf:List Pid} {k:Nat},p ∉ pre→YI p (pre ++ p :: suf) k=((k+pre.length:Nat):Int)
 | [],suf,k,_=>by simp [YI]
 | q :: r,suf,k,h=>by
  simp only [List.mem_cons,not_or] at h
  simp only [List.cons_append,YI]
  rw [if_neg (λe=>h.1 e.symm),QK h.2]
  simp;omega
def Gn (base:Nat) (w:World) (am al ad:Option Addr) (V:Zs):Prop:=∀G:Nat→Prop,(∀k,G k→k<base)→∀W',Mut G w W'→Zt W' am al ad V
theorem Gn.r {base:Nat} {w:World} {am al ad:Option Addr} {V:Zs} (h:Gn base w am al ad V):Zt w am al ad V:=h (λ_=>False) (λ_ e=>e.elim) w (Mut.refl _ _)
theorem Gn.ext {base:Nat} {w w':World} {am al ad:Option Addr} {V:Zs} (h:Gn base w am al ad V) (hb:Below w.heap.size w w'):Gn base w' am al ad V:=λG hG W' hm=>h G hG W' ((Mut.of_below hb).trans hm)
theorem Gn.zero (base:Nat) (w:World):Gn base w none none none ZS:=λ_ _ W' _=>⟨.inl rfl,.inl rfl,.inl rfl,by simp [ZS],by simp [ZS],by simp [ZS],by simp [ZS]⟩
end Go.Proofs.YtcdpaflmofljaaaGreat
namespace Go.Proofs.YtcdpaflmofljaaaGreat
open Go.RowKit Go.Deep Go.Joins Go.ChangeShapes
def Sz {H:Type} (t:TypeId) (d:DataW H):Prop:=∀n∈d.weights Tryz.prog t,n≤reachBytes
theorem Sz.arg {H:Type} {ts:List TypeId} {ds:List (DataW H)} (h:(DataW.weightsEach Tryz.prog ts ds).all (·≤reachBytes)=true) {j:Nat} {t:TypeId} {d:DataW H} (ht:ts[j]?=some t) (hd:ds[j]?=some d):Sz t d:=by
 intro n hn
 have:=List.all_eq_true.1 h _ (DataW.weights_mem_each ht hd n hn)
 simpa using this
theorem KH {H:Type} {e:TypeId} {d:DataW H}:∀{l:List (DataW H)},d∈l→∀n∈d.weights Tryz.prog e,n∈DataW.weightsAll Tryz.prog e l
 | x :: l,h,n,hn=>by
  simp only [DataW.weightsAll,List.mem_append]
  rcases List.mem_cons.1 h with rfl | h
  ·exact .inl hn
  ·exact .inr (KH h n hn)
theorem Sz.slice {H:Type} {t e:TypeId} {elems spare:List (DataW H)} (h:Sz t (.slice elems spare)) (ht:Tryz.prog.underlying t=some (.slice e)) :
  (elems.length+spare.length) * Tryz.prog.bytesOf e≤reachBytes∧(∀d∈elems,Sz e d):=by
 have hw:∀n,n∈(DataW.slice elems spare).weights Tryz.prog t↔n=(elems.length+spare.length) * Tryz.prog.bytesOf e∨n∈DataW.weightsAll Tryz.prog e elems∨n∈DataW.weightsAll Tryz.prog e spare:=by
  intro n;simp [DataW.weights,ht]
 exact ⟨h _ ((hw _).2 (.inl rfl)),λd hd n hn=>h n ((hw _).2 (.inr (.inl (KH hd n hn))))⟩
theorem cellsU8:Tryz.prog.cellsOf 5=1:=by kernel_rfl
section
variable {H:Type} {enc:TypeId × Value→H} {w:World}
structure zdr (V:Zs):Prop where
 id:0≤V.id∧V.id<18446744073709551616
 ms:XC V.ms
 ls:∀l∈V.ls,XC l
 ds:XC V.ds
set_option maxRecDepth 100000 in
theorem zaQ {n:Nat} {cs:List Value} {x:DataW H × List MemPlace} (h:DataW.trod enc Tryz.prog w 0 (λ_=>true) true n 46 cs=some x) :
  ∃(a:Option Addr) (c:Nat) (bs:List Nat),cs=[.slice a bs.length c]∧Zg w a bs∧(∀b∈bs,b<256)∧bs.length≤c:=by
 rcases open_ints (x:=x) Tryz.underlying46 Tryz.underlying5 cellsU8 h with ⟨hcs,_⟩ | ⟨a,len,cap,zs,hcs,_,hl,hm,hz,hx,hcell,hwf⟩
 ·exact ⟨none,0,[],hcs,.inl rfl,(by intro x hx;cases hx),Nat.le_refl _⟩
 ·simp only [if_true] at hz
  have hzl:((zs.take len).map Int.toNat).length=len:=by simp;omega
  have hb:∀z∈zs,0≤z∧z≤255:=λz hz=>bounds_u8 (hwf z hz)
  refine ⟨some a,cap,(zs.take len).map Int.toNat,by rw [hzl,hcs],?_,?_,by rw [hzl];exact hl⟩
  ·by_cases h0:len=0
   ·subst h0;exact .inl (by simp)
   ·have ha:=hcell 0 (by omega)
    have hsp:a.spot=none:=by simpa [Addr.add] using World.cell?_spot ha
    obtain ⟨b,off,sp⟩:=a
    simp only at hsp
    subst hsp
    refine .inr ⟨b,off,rfl,?_,λi hi=>?_⟩
    ·have:=World.block_lt_of_cell? w _ ha
     simpa [Xx] using this
    ·have hi2:i<len:=by rw [hzl] at hi;exact hi
     have g:=hcell i (by omega)
     rw [Xx] at g
     rw [g]
     have hzi:i<zs.length:=by omega
     have hbz:=hb zs[i] (List.getElem_mem _)
     simp only [List.getElem_map,List.getElem_take,List.getD_eq_getElem?_getD,List.getElem?_eq_getElem hzi,Option.getD_some]
     congr 2;omega
  ·intro x hx'
   obtain ⟨z,hz1,rfl⟩:=List.mem_map.1 hx'
   have:=hb z (List.mem_of_mem_take hz1)
   omega
end
section
variable {H:Type} {enc:TypeId × Value→H} {w:World}
set_option maxRecDepth 100000 in
theorem zbc {base:Nat} {v:Value} {d:DataW H} {p:List MemPlace} (hv:Value.okWide Tryz.prog w .any base 46 v) (h:DataW.Trod enc Tryz.prog w 0 (λ_=>true) true 46 v d p) :
  ∃(a:Option Addr) (c:Nat) (bs:List Nat),v=.slice a bs.length c∧Zg w a bs∧(∀b∈bs,b<256)∧bs.length≤c:=by
 obtain ⟨a0,len0,cap0,rfl⟩:=Go.WideShapes.okWide_slice Tryz.underlying46 hv
 obtain ⟨fuel,hf⟩:=h
 obtain ⟨a,c,bs,hcs,hr,hb,hc⟩:=zaQ (x:=(d,p)) hf
 exact ⟨a,c,bs,(List.cons.inj hcs).1,hr,hb,hc⟩
end
section
variable {H:Type} {enc:TypeId × Value→H} {w:World}
end
end Go.Proofs.YtcdpaflmofljaaaGreat
namespace Go.Proofs.YtcdpaflmofljaaaGreat
open Go.RowKit
theorem Zt.own {w:World} {b1 b2 b3:Nat} {V:Zs} {am al ad:Option Addr} {cm cl cd:Nat} (hm:Zy w b1 (.slice am V.ms.length cm) V.ms) (hl:Xz w b2 (.slice al V.ls.length cl) V.ls) (hd:Zy w b3 (.slice ad V.ds.length cd) V.ds) {w0:World} {x y z:Option Addr} (hV:Zt w0 x y z V):Zt w am al ad V:=by
 obtain ⟨a1,c1,e1,r1,-⟩:=hm.row
 obtain ⟨a2,c2,e2,r2⟩:=hl.row
 obtain ⟨a3,c3,e3,r3,-⟩:=hd.row
 cases e1;cases e2;cases e3
 exact ⟨r1,r2,r3,hV.lm,hV.ll,hV.ld,hV.le⟩
abbrev n64:Nat→Value:=λx=>.int .u64 (x:Int)
structure VAd where
 am:Option Addr
 al:Option Addr
 ad:Option Addr
 cm:Nat
 cl:Nat
 cd:Nat
def vcl (V:Zs) (i:Nat) (A:VAd):List Value:=[.int .u64 i,.slice A.am V.ms.length A.cm,.slice A.al V.ls.length A.cl,.slice A.ad V.ds.length A.cd]
structure FitV (V:Zs) (i:Nat):Prop where
 id:V.id=(i:Int)
 ms:V.ms.length≤549755813888
 ds:V.ds.length≤549755813888
 ls:V.ls.length≤549755813888
 le:∀l∈V.ls,l.length≤549755813888
theorem Qo {V:Zs} {i:Nat} {A:VAd} {w:World} (hf:FitV V i) (hV:Zt w A.am A.al A.ad V) :
  Calls Tryz.prog 38 #[.agg (vcl V i A).toArray] w λe w'=>∃A':VAd,e=.returned (.agg (vcl V i A').toArray)∧Gn w.heap.size w' A'.am A'.al A'.ad V∧Below w.heap.size w w':=by
 refine (JN (cm:=A.cm) (cl:=A.cl) (cd:=A.cd) hf.id hV hf.ms hf.ds hf.ls hf.le).mono ?_
 rintro e w' ⟨vm,vl,vd,B,rfl,h1,h2,h3,-,-,-,hB,hb⟩
 obtain ⟨am,cm,rfl,r1,-⟩:=h1.row
 obtain ⟨al,cl,rfl,r2⟩:=h2.row
 obtain ⟨ad,cd,rfl,r3,-⟩:=h3.row
 exact ⟨⟨am,al,ad,cm,cl,cd⟩,rfl,λG hG W' hm=>Zt.own (Zy.mutT h1 hm hG) ((h2.mono hB).mutT hm hG) (Zy.mutT h3 hm hG) hV,hb⟩
def Em:List Value:=[.string ⟨#[]⟩,.string ⟨#[]⟩,.string ⟨#[]⟩,.string ⟨#[]⟩,.string ⟨#[]⟩,.string ⟨#[]⟩,.string ⟨#[]⟩,.string ⟨#[]⟩]
structure StateNew (w w':World) (V:Zs) (i:Nat) (b mr:Nat) (A:VAd):Prop where
 lt:w.heap.size≤b
 mlt:w.heap.size≤mr
 below:Below w.heap.size w w'
 box:Zc w' b 247 (vcl V i A ++ .map (some mr) :: Em)
 view:Zt w' A.am A.al A.ad V
 map:Zj w' mr Yg n64 []
abbrev Str:=List UInt8
def EH (s:Str):List Nat:=s.map (·.toNat)
theorem Jn {w:World} {a:Option Addr} {c n:Nat} {s:Str} (hr:Zg w a (EH s)) (hn:s.length=n):(convert 46 9 (.slice a n c)).run Tryz.prog w=.ok (.string ⟨s.toArray⟩) w:=by
 subst hn
 have hz:(⟨s.toArray⟩:ByteArray).size=s.length:=by show s.toArray.size=_;simp
 have nil:∀b,s=[]→a=some b→(convert 46 9 (.slice a s.length c)).run Tryz.prog w=.ok (.string ⟨s.toArray⟩) w:=by
  rintro ad rfl rfl
  rw [run_convert_bytes_string w _ _ 5 _ _ c Tryz.underlying46 Tryz.underlying5 Tryz.underlying9]
  have h0:(loadCells ad 0).run Tryz.prog w=.ok (([]:List Int).map (Value.int .u8)).toArray w:=run_loadCells_list (w:=w) ad [] (by simp)
  have:=run_bytesToString w ad 0 c [] h0
  exact this
 cases a with
 | none =>
  rcases hr with h | ⟨b,off,e,-⟩
  ·have hs:s=[]:=by simpa [EH] using h
   subst hs
   exact Lib.run_convert_nil_bytes w _ _ 5 c Tryz.underlying46 Tryz.underlying5 Tryz.underlying9
  ·cases e
 | some ad =>
  rcases hr with h | ⟨b,off,e,hlt,hc⟩
  ·exact nil ad (by simpa [EH] using h) rfl
  ·cases e
   have:=Lib.run_convert_whole (P:=Tryz.prog) w 46 5 9 Tryz.underlying46 Tryz.underlying5 Tryz.underlying9 b off ⟨s.toArray⟩ (λi hi=>by
    have:=hc i (by rw [hz] at hi;simpa [EH] using hi)
    rw [this]
    simp [EH];rfl) c
   rw [hz] at this
   exact this
def RowO (w:World) (base:Nat) (v:Value) (xs:List Value):Prop :=
 (v=.slice none 0 0∧xs=[])∨∃g off cap,v=.slice (some ⟨g,off,none⟩) xs.length cap∧base≤g∧g<w.heap.size∧xs.length≤cap∧cap≤maxLen ∧
  (∀k u,xs[k]?=some u→w.cell? ⟨g,off+k,none⟩=some u)∧(∀k,k<cap→(w.cell? ⟨g,off+k,none⟩).isSome=true∧w.frozen? ⟨g,off+k,none⟩=false)
theorem RowO.blk {w:World} {base:Nat} {v:Value} {xs:List Value} (h:RowO w base v xs) {g:Nat} (hg:v.ownBlock=some g):base≤g∧g<w.heap.size:=by
 rcases h with ⟨rfl,-⟩ | ⟨g',off,cap,rfl,h1,h2,-⟩
 ·cases hg
 ·cases hg;exact ⟨h1,h2⟩
theorem RowO.mutN {G:Nat→Prop} {w w':World} {base:Nat} {v:Value} {xs:List Value} (h:RowO w base v xs) (hm:Mut G w w') (hG:∀g,v.ownBlock=some g→¬ G g):RowO w' base v xs:=by
 rcases h with h | ⟨g,off,cap,rfl,h1,h2,h3,h4,h5,h6⟩
 ·exact .inl h
 ·have hn:=hG g rfl
  have e:∀o,w'.cell? ⟨g,o,none⟩=w.cell? ⟨g,o,none⟩:=λo=>hm.cell h2 hn
  have f:∀o,w'.frozen? ⟨g,o,none⟩=w.frozen? ⟨g,o,none⟩:=λo=>World.frozen?_of_block (w:=w) (a:=⟨g,o,none⟩) (hm.block g h2 hn)
  exact .inr ⟨g,off,cap,rfl,h1,by have:=hm.size;omega,h3,h4,λk u hk=>by rw [e];exact h5 k u hk,λk hk=>by rw [e,f];exact h6 k hk⟩
def KF (w:World) (N:Nat→Prop) (u:Value) (bs:List Nat):Prop :=
 ∃a c,u=.slice a bs.length c∧Zg w a bs∧(∀x∈bs,x<256)∧∀b off,a=some ⟨b,off,none⟩→b<w.heap.size∧¬ N b
theorem KF.mut {w w':World} {N G:Nat→Prop} {u:Value} {bs:List Nat} (h:KF w N u bs) (hm:Mut G w w') (hG:∀b,b<w.heap.size→G b→N b):KF w' N u bs:=by
 obtain ⟨a,c,rfl,hr,hx,hb⟩:=h
 refine ⟨a,c,rfl,hr.mutT hm λb off e _ hg=>?_,hx,λb off e=>⟨by have:=(hb b off e).1;have:=hm.size;omega,(hb b off e).2⟩⟩
 exact (hb b off e).2 (hG b (hb b off e).1 hg)
theorem KF.grow {w:World} {N N':Nat→Prop} {u:Value} {bs:List Nat} (h:KF w N u bs) (hN:∀b,N' b→N b∨w.heap.size≤b):KF w N' u bs:=by
 obtain ⟨a,c,rfl,hr,hx,hb⟩:=h
 refine ⟨a,c,rfl,hr,hx,λb off e=>⟨(hb b off e).1,λhn=>?_⟩⟩
 rcases hN b hn with h1 | h1
 ·exact (hb b off e).2 h1
 ·have:=(hb b off e).1;omega
def KW (w:World) (N:Nat→Prop) (us:List Value) (ls:List (List Nat)):Prop:=us.length=ls.length∧∀k (h:k<ls.length),∃u,us[k]?=some u∧KF w N u ls[k]
theorem KW.mut {w w':World} {N G:Nat→Prop} {us:List Value} {ls:List (List Nat)} (h:KW w N us ls) (hm:Mut G w w') (hG:∀b,b<w.heap.size→G b→N b):KW w' N us ls :=
 ⟨h.1,λk hk=>by obtain ⟨u,h1,h2⟩:=h.2 k hk;exact ⟨u,h1,h2.mut hm hG⟩⟩
theorem KW.grow {w:World} {N N':Nat→Prop} {us:List Value} {ls:List (List Nat)} (h:KW w N us ls) (hN:∀b,N' b→N b∨w.heap.size≤b):KW w N' us ls :=
 ⟨h.1,λk hk=>by obtain ⟨u,h1,h2⟩:=h.2 k hk;exact ⟨u,h1,h2.grow hN⟩⟩
structure SndD where
 base:Nat
 wait:List (List Nat)
 told:Nat
 ever:Nat
 once:Nat
 more:Nat
structure Box6 (w:World) (b:Nat) (v0 v1 v2 v3 v4 v5:Value):Prop where
 c0:w.cell? ⟨b,0,none⟩=some v0
 c1:w.cell? ⟨b,1,none⟩=some v1
 c2:w.cell? ⟨b,2,none⟩=some v2
 c3:w.cell? ⟨b,3,none⟩=some v3
 c4:w.cell? ⟨b,4,none⟩=some v4
 c5:w.cell? ⟨b,5,none⟩=some v5
 f:∀j,w.frozen? ⟨b,j,none⟩=false
section
variable {w w':World} {b:Nat} {v0 v1 v2 v3 v4 v5:Value}
theorem Box6.lt (h:Box6 w b v0 v1 v2 v3 v4 v5):b<w.heap.size:=World.block_lt_of_cell? w _ h.c0
theorem Box6.mut {G:Nat→Prop} (h:Box6 w b v0 v1 v2 v3 v4 v5) (hm:Mut G w w') (hG:¬ G b):Box6 w' b v0 v1 v2 v3 v4 v5 :=
 ⟨(hm.cell h.lt hG).trans h.c0,(hm.cell h.lt hG).trans h.c1,(hm.cell h.lt hG).trans h.c2,(hm.cell h.lt hG).trans h.c3,(hm.cell h.lt hG).trans h.c4,(hm.cell h.lt hG).trans h.c5,λj=>(World.frozen?_of_block (w:=w) (a:=⟨b,j,none⟩) (hm.block b h.lt hG)).trans (h.f j)⟩
theorem QG {w:World} {b q j:Nat} {x:Value} (hc:j≠q):(w.setCell ⟨b,q,none⟩ x).cell? ⟨b,j,none⟩=w.cell? ⟨b,j,none⟩ :=
 World.cell?_setCell_other _ _ _ _ (by intro e;injection e with e1 e2;exact hc e2.symm)
theorem Box6.set2 (h:Box6 w b v0 v1 v2 v3 v4 v5) (u:Value):Box6 (w.setCell ⟨b,2,none⟩ u) b v0 v1 u v3 v4 v5 :=
 ⟨by rw [QG (by omega)];exact h.c0,by rw [QG (by omega)];exact h.c1,World.cell?_setCell_same _ _ _ h.c2,by rw [QG (by omega)];exact h.c3,by rw [QG (by omega)];exact h.c4,by rw [QG (by omega)];exact h.c5,λj=>by simp [h.f j]⟩
end
structure Qt (w:World) (N:Nat→Prop) (s:Nat) (wv:Value) (us:List Value) (d:SndD):Prop where
 box:Box6 w s (.int .u64 d.base) wv (.int .u32 d.told) (.int .u32 d.ever) (.int .u64 d.once) (.int .u64 d.more)
 row:RowO w 0 wv us
 it:KW w N us d.wait
 ns:N s
 nw:∀g,wv.ownBlock=some g→N g∧g≠s
 b0:d.base<9223372036854775808
 b2:d.told<4294967296
 b3:d.ever<4294967296
 b4:d.once<18446744073709551616
 b5:d.more<18446744073709551616
 bl:d.wait.length≤128
def fpS (s:Nat) (wv:Value) (b:Nat):Prop:=b=s∨wv.ownBlock=some b
theorem Qt.mut {w w':World} {N G:Nat→Prop} {s:Nat} {wv:Value} {us:List Value} {d:SndD} (h:Qt w N s wv us d) (hm:Mut G w w') (hG:∀b,b<w.heap.size→G b→N b) (hf:∀b,fpS s wv b→¬ G b):Qt w' N s wv us d :=
 ⟨h.box.mut hm (hf s (.inl rfl)),h.row.mutN hm λg e=>hf g (.inr e),h.it.mut hm hG,h.ns,h.nw,h.b0,h.b2,h.b3,h.b4,h.b5,h.bl⟩
theorem zd4 {w:World} {N:Nat→Prop} {s:Nat} {wv:Value} {us:List Value} {d:SndD} (h:Qt w N s wv us d) :
  Calls Tryz.prog 88 #[.pointer (some ⟨s,0,none⟩)] w λe w'=>e=.returned (.tuple #[])∧Qt w' N s wv us { d with told:=0 }∧Mut (λb=>b=s) w w':=by
 have c2:=h.box.c2
 have f2:=h.box.f 2
 have hm:Mut (λb=>b=s) w (w.setCell ⟨s,2,none⟩ (.int .u32 0)):=Xk
 have HR:Hid (Qt (w.setCell ⟨s,2,none⟩ (.int .u32 0)) N s wv us { d with told:=0 }):=hid ⟨h.box.set2 _,h.row.mutN hm λg e=>λe2=>(h.nw g e).2 e2,h.it.mut hm (λb _ e=>by have e:b=s:=e;rw [e];exact h.ns),h.ns,h.nw,h.b0,(by show 0<4294967296;decide),h.b3,h.b4,h.b5,h.bl⟩
 have HM:=hid hm
 clear h hm
 go_enter Tryz.func88,Tryz.ntmps88
 go_wp2_with fail
 go_end0
 exact ⟨rfl,HR.out,HM.out⟩
structure Vk (w:World) (base:Nat) (e:TypeId) (k:Nat) (v:Value) (xs:List (List Value)):Prop where
 row:w.ownsRow base e k v xs.length xs.flatten
 el:∀x∈xs,x.length=k∧∀u∈x,u.oneCell'=true
section
variable {w w':World} {base k:Nat} {e:TypeId} {v:Value} {xs:List (List Value)}
theorem Vk.nil (w:World) (base:Nat) (e:TypeId) (k:Nat):Vk w base e k (.slice none 0 0) []:=⟨World.ownsRow_nil _ _ _ _,λx h=>by simp at h⟩
theorem Vk.blk (h:Vk w base e k v xs) {g:Nat} (hg:v.ownBlock=some g):base≤g∧g<w.heap.size:=World.ownsRow.lt h.row g hg
theorem Vk.sli (h:Vk w base e k v xs):∃a c,v=.slice a xs.length c∧xs.length≤c:=by
 rcases h.row.2 with ⟨rfl,hn⟩ | ⟨g,cap,cur,rfl,-,-,h1,-⟩
 ·exact ⟨_,_,by rw [hn],by omega⟩
 ·exact ⟨_,_,rfl,h1⟩
theorem Vk.mut {G:Nat→Prop} (h:Vk w base e k v xs) (hm:Mut G w w') (hG:∀g,v.ownBlock=some g→¬ G g):Vk w' base e k v xs:=by
 refine ⟨⟨h.row.1,?_⟩,h.el⟩
 rcases h.row.2 with hn | ⟨g,cap,cur,rfl,hbb,hgg,rest⟩
 ·exact .inl hn
 ·exact .inr ⟨g,cap,cur,rfl,hbb,(hm.block g (Array.getElem?_eq_some_iff.1 hgg).1 (hG g rfl)).trans hgg,rest⟩
theorem Vk.ext (h:Vk w base e k v xs) (hb:Below w.heap.size w w'):Vk w' base e k v xs:=h.mut (Mut.of_below (F:=λ_=>False) hb) λ_ _ e=>e
theorem Vk.mono {b':Nat} (h:Vk w base e k v xs) (hb:b'≤base):Vk w b' e k v xs:=by
 refine ⟨⟨h.row.1,?_⟩,h.el⟩
 rcases h.row.2 with hn | ⟨g,cap,cur,rfl,hbb,rest⟩
 ·exact .inl hn
 ·exact .inr ⟨g,cap,cur,rfl,by omega,rest⟩
theorem za2 {xs:List (List Value)} {k:Nat} (h:∀x∈xs,x.length=k):∀{i j:Nat} {x:List Value} {u:Value},xs[i]?=some x→x[j]?=some u→xs.flatten[i * k+j]?=some u:=by
 induction xs with
 | nil=>intro i j x u hi;simp at hi
 | cons y l ih =>
  intro i j x u hi hj
  have hy:=h y (by simp)
  cases i with
  | zero =>
   simp at hi;subst hi
   have:j<y.length:=(List.getElem?_eq_some_iff.1 hj).1
   rw [List.flatten_cons,Nat.zero_mul,Nat.zero_add,List.getElem?_append_left this];exact hj
  | succ i =>
   rw [List.flatten_cons,List.getElem?_append_right (by rw [hy,Nat.add_mul];omega),hy,show (i+1) * k+j - k=i * k+j by rw [Nat.add_mul];omega]
   exact ih (λx hx=>h x (by simp [hx])) (by simpa using hi) hj
theorem Vk.at (h:Vk w base e k v xs) {i:Nat} {x:List Value} (hi:xs[i]?=some x):∃g c,v=.slice (some ⟨g,0,none⟩) xs.length c∧base≤g∧g<w.heap.size∧∀j u,x[j]?=some u→w.cell? ⟨g,i * k+j,none⟩=some u:=by
 have hcells:=λg=>World.ownsRow.cells (g:=g) h.row
 have hlt:=(List.getElem?_eq_some_iff.1 hi).1
 rcases h.row.2 with ⟨rfl,hn⟩ | ⟨g,cap,cur,rfl,hb,hg,hnc,-⟩
 ·omega
 ·refine ⟨g,cap,rfl,hb,(Array.getElem?_eq_some_iff.1 hg).1,λj u hj=>?_⟩
  have:=hcells g rfl _ _ (za2 (λx hx=>(h.el x hx).1) hi hj)
  rw [YN,Nat.zero_add] at this
  exact this
theorem Vk.append (h:Vk w base e k v xs) {P:Program} (t ty:TypeId) (i:TypeInfo) (z:Value) (bytes:Nat) (ht:P.underlying t=some (.slice e)) (hi:P.info? e=some i) (hz:i.zero=some z) (hsize:i.size=k) (hby:i.bytes=bytes) (hzs:z.cells.size=k) (hk:0<k)
  {b c:Nat} {x:List Value} (hx:x.length=k) (h1:∀u∈x,u.oneCell'=true) (hc:∀j u,x[j]?=some u→w.cell? ⟨b,j,none⟩=some u) (hl:xs.length+1≤1000000) (hbt:bytes≤1000) (hbase:base≤w.heap.size) :
  ∃v' w',(Builtin.append_ #[t,t] ty #[v,.slice (some ⟨b,0,none⟩) 1 c]).run P w=.ok v' w'∧Vk w' base e k v' (xs ++ [x])∧Mut (λg=>v.ownBlock=some g) w w'∧(∀g,v'.ownBlock=some g→v.ownBlock=some g∨w.heap.size≤g)∧v'≠.slice none 0 0:=by
 have hby2:(xs.length+1) * bytes≤140737488355328:=Nat.le_trans (Nat.mul_le_mul hl hbt) (by decide)
 obtain ⟨v',w',hr,h2,h3,h4,h5⟩:=run_append_own_at (P:=P) w base t ty e i z k bytes ht hi hz hsize hby hzs hk v xs.length xs.flatten h.row ⟨b,0,none⟩ 1 c x (by omega) (λj u hj=>by rw [YN,Nat.zero_add];exact hc j u hj) h1 (by unfold maxLen;omega) hby2 hbase
 refine ⟨v',w',hr,⟨by simpa using h2,λy hy=>?_⟩,⟨h3.os,h3.tape,h3.output,h3.size,λq hq hf=>h3.block q hq λe=>hf e.symm⟩,λg hg=>?_,λe=>?_⟩
 ·rcases List.mem_append.1 hy with hy | hy
  ·exact h.el y hy
  ·rw [List.mem_singleton.1 hy];exact ⟨hx,h1⟩
 ·rcases h5 with h5 | h5
  ·exact .inl (by rw [←h5];exact hg)
  ·rw [h5] at hg;cases hg;exact .inr (Nat.le_refl _)
 ·exact absurd (h4.1 e).2 (by decide)
end
section
variable {w w':World} {b:Nat} {v0 v1 v2 v3:Value}
theorem Zf {G:Nat→Prop} {w0:World} (h:Mut G w0 w) (q:Nat) (j:Nat) (u:Value) (hq:G q):Mut G w0 (w.setCell ⟨q,j,none⟩ u) :=
 h.trans ((Xk (w:=w) (s:=q) (i:=j) (v:=u)).mono λk _ e=>by rw [e];exact hq)
end
theorem ZF {P:Program} {fn:Func} {p q:Tmp} {ty:TypeId} (h:fn.results=#[.cell p ty,.tmp q]) (tmps:Array Value) (w:World) (b:Nat) (cs:List Value) (d:TypeDesc)
  (hp:tmps.getD p undef=.pointer (some ⟨b,0,none⟩)) (hc:w.rangeAt b 0 cs)
  (hu:P.underlying ty=some d) (hd:d.isRow=true) (hi:(P.info? ty).map (·.size)=some cs.length) :
  (results fn tmps).run P w=.ok (.tuple #[.agg cs.toArray,tmps.getD q undef]) w:=by
 have hp':tmps[p]?.getD undef=.pointer (some ⟨b,0,none⟩):=by simpa using hp
 simp [results,h,hp',asAddr,run_loadVar_mid w b 0 ty cs d hc hu hd hi]
theorem Zz {G:Nat→Prop} {w0 w w':World} (h:Below w0.heap.size w0 w) (hm:Mut G w w') (hG:∀k,G k→w0.heap.size≤k):Below w0.heap.size w0 w' :=
 h.trans ⟨hm.os,hm.tape,hm.output,hm.size,λk hk=>hm.block k (Nat.lt_of_lt_of_le hk h.size) λe=>by have:=hG k e;omega⟩
theorem index8 (s0 s1 s2 s3 s4 s5 s6 s7 m:ByteArray) (k:Nat) (h:[s0,s1,s2,s3,s4,s5,s6,s7][k]?=some m) (z:Int) (hz:z=(k:Int)) (W:World) :
  (Instr.index 75 (.agg #[.string s0,.string s1,.string s2,.string s3,.string s4,.string s5,.string s6,.string s7]) (.int .i64 z)).run Tryz.prog W=.ok (.string m) W:=by
 have hs:∀W,(sizeOf 9).run Tryz.prog W=.ok 1 W:=λW=>Tryz.sizeOf9 W
 subst hz
 match k,h with
 | 0,h=>cases h;simp [Instr.index,run_underlying Tryz.underlying75,hs,Result.andThen,asIntOf,part]
 | 1,h=>cases h;simp [Instr.index,run_underlying Tryz.underlying75,hs,Result.andThen,asIntOf,part]
 | 2,h=>cases h;simp [Instr.index,run_underlying Tryz.underlying75,hs,Result.andThen,asIntOf,part]
 | 3,h=>cases h;simp [Instr.index,run_underlying Tryz.underlying75,hs,Result.andThen,asIntOf,part]
 | 4,h=>cases h;simp [Instr.index,run_underlying Tryz.underlying75,hs,Result.andThen,asIntOf,part]
 | 5,h=>cases h;simp [Instr.index,run_underlying Tryz.underlying75,hs,Result.andThen,asIntOf,part]
 | 6,h=>cases h;simp [Instr.index,run_underlying Tryz.underlying75,hs,Result.andThen,asIntOf,part]
 | 7,h=>cases h;simp [Instr.index,run_underlying Tryz.underlying75,hs,Result.andThen,asIntOf,part]
abbrev bdA (s0 s1 s2 s3 s4 s5 s6 s7:ByteArray):Value:=.agg #[.string s0,.string s1,.string s2,.string s3,.string s4,.string s5,.string s6,.string s7]
def BdOk (l:List ByteArray):Prop:=∀(k:Nat) (m:ByteArray),l[k]?=some m→m.size≤16
set_option maxRecDepth 100000 in
set_option maxHeartbeats 3200000 in
theorem JQ {s0 s1 s2 s3 s4 s5 s6 s7:ByteArray} (h:BdOk [s0,s1,s2,s3,s4,s5,s6,s7]) (w:World) :
  Calls Tryz.prog 168 #[bdA s0 s1 s2 s3 s4 s5 s6 s7] w λe w'=>e=.returned (.bool true)∧Below w.heap.size w w':=by
 have H:=hid h
 clear h
 have hix:=λ(m:ByteArray) (k:Nat) (hk:[s0,s1,s2,s3,s4,s5,s6,s7][k]?=some m) (W:World)=>index8 s0 s1 s2 s3 s4 s5 s6 s7 m k hk (k:Int) rfl W
 have HI:=hid hix
 clear hix
 go_enter Tryz.func168,Tryz.ntmps168
 go_wp2
 go_loopw [6] (λi wr=>∃(k:Nat),k≤8∧i=.int .i64 k∧Hid (Below w.heap.size w wr)) (λi _=>8 - (intOf i).toNat)
 case atStart=>exact ⟨0,Nat.zero_le _,rfl,hid (bra)⟩
 case round =>
  obtain ⟨k,hk,rfl,hb⟩:=hrel
  by_cases hlt:k<8
  ·have hlt':decide ((k:Int)<8)=true:=by simp;omega
   obtain ⟨m,hm⟩:∃m,[s0,s1,s2,s3,s4,s5,s6,s7][k]?=some m:=⟨_,List.getElem?_eq_getElem (by simp;omega)⟩
   have hi:=HI.out m k hm
   have hz:=H.out k m hm
   have hz':decide ((m.size:Int) > 16)=false:=by simp;omega
   clear hm hz
   go_wp2
   go_roundw
   case rel=>exact ⟨k+1,by omega,by go_num,hb⟩
   case measure=>simp [intOf];omega
  ·have hlt':decide ((k:Int)<8)=false:=by simp;omega
   go_wp2
   go_ret
   exact ⟨rfl,hb.out⟩
theorem Yv {P:Program} {fn:Func} {p:Tmp} {ty:TypeId} (h:fn.results=#[.cell p ty]) (tmps:Array Value) (w:World) {b o:Nat} {cs:List Value} {d:TypeDesc}
  (hp:tmps.getD p undef=.pointer (some ⟨b,o,none⟩)) (hc:w.rangeAt b o cs)
  (hu:P.underlying ty=some d) (hd:d.isRow=true) (hi:(P.info? ty).map (·.size)=some cs.length) :
  (results fn tmps).run P w=.ok (.agg cs.toArray) w:=by
 have hp':tmps[p]?.getD undef=.pointer (some ⟨b,o,none⟩):=by simpa using hp
 simp [results,h,hp',asAddr,run_loadVar_mid w b o ty cs d hc hu hd hi]
abbrev bd8 (s0 s1 s2 s3 s4 s5 s6 s7:ByteArray):List Value:=[.string s0,.string s1,.string s2,.string s3,.string s4,.string s5,.string s6,.string s7]
theorem infoBd (s0 s1 s2 s3 s4 s5 s6 s7:ByteArray):(Tryz.prog.info? 75).map (·.size)=some (bd8 s0 s1 s2 s3 s4 s5 s6 s7).length:=by kernel_rfl
theorem zei (w:World) (s0 s1 s2 s3 s4 s5 s6 s7:ByteArray):(w.alloc (.cells #[.string s0,.string s1,.string s2,.string s3,.string s4,.string s5,.string s6,.string s7] 75)).rangeAt w.heap.size 0 (bd8 s0 s1 s2 s3 s4 s5 s6 s7):=λj v hj=>by
 rw [Nat.zero_add]
 exact (Zc.made w 75 (bd8 s0 s1 s2 s3 s4 s5 s6 s7)).cell hj
theorem zdq (s0 s1 s2 s3 s4 s5 s6 s7:ByteArray) {w:World} {b:Nat} {c0 c1 c2 c3 c4:Value} (hB:Zc w b 247 [c0,c1,c2,c3,c4,.string s0,.string s1,.string s2,.string s3,.string s4,.string s5,.string s6,.string s7]) :
  Calls Tryz.prog 170 #[.pointer (some ⟨b,0,none⟩)] w λe w'=>e=.returned (bdA s0 s1 s2 s3 s4 s5 s6 s7)∧Below w.heap.size w w':=by
 have q5:=hB.cell (j:=5) rfl
 have q6:=hB.cell (j:=6) rfl
 have q7:=hB.cell (j:=7) rfl
 have q8:=hB.cell (j:=8) rfl
 have q9:=hB.cell (j:=9) rfl
 have q10:=hB.cell (j:=10) rfl
 have q11:=hB.cell (j:=11) rfl
 have q12:=hB.cell (j:=12) rfl
 have hlt:=hB.lt
 clear hB
 go_enter Tryz.func170,Tryz.ntmps170
 go_wp2
 exact bodyPost_ret (v:=bdA s0 s1 s2 s3 s4 s5 s6 s7) (Yv (b:=w.heap.size) (o:=0) (cs:=bd8 s0 s1 s2 s3 s4 s5 s6 s7) rfl _ _ rfl (zei w s0 s1 s2 s3 s4 s5 s6 s7) Tryz.underlying75 rfl (infoBd _ _ _ _ _ _ _ _)) rfl ⟨rfl,bra⟩
theorem Zc.set {w:World} {b j:Nat} {t:TypeId} {cs:List Value} {v:Value} (h:Zc w b t cs):Zc (w.setCell ⟨b,j,none⟩ v) b t (cs.set j v):=by
 unfold Zc at h ⊢
 simp [World.setCell,Array.getElem?_modify,h]
set_option maxRecDepth 100000 in
set_option maxHeartbeats 3200000 in
theorem load_any (s0 s1 s2 s3 s4 s5 s6 s7:ByteArray) (hs:BdOk [s0,s1,s2,s3,s4,s5,s6,s7]) {w:World} {b:Nat} {c0 c1 c2 c3 c4 c5 c6 c7 c8 c9 c10 c11 c12:Value} (hB:Zc w b 247 [c0,c1,c2,c3,c4,c5,c6,c7,c8,c9,c10,c11,c12]) :
  Calls Tryz.prog 72 #[.pointer (some ⟨b,0,none⟩),bdA s0 s1 s2 s3 s4 s5 s6 s7] w λe w'=>e=.returned (.bool true)∧Mut (λk=>k=b) w w'∧Zc w' b 247 [c0,c1,c2,c3,c4,.string s0,.string s1,.string s2,.string s3,.string s4,.string s5,.string s6,.string s7]:=by
 have C1:=λW=>JQ hs W
 have HB:=hid hB
 have hlt:=hB.lt
 clear hB
 go_enter Tryz.func72,Tryz.ntmps72
 go_wp2_with fail
 obtain ⟨w2,hw2⟩:∃w2,w.alloc (.cells #[.string s0,.string s1,.string s2,.string s3,.string s4,.string s5,.string s6,.string s7] 75)=w2:=⟨_,rfl⟩
 have H2:Hid (Zc w2 w.heap.size 75 (bd8 s0 s1 s2 s3 s4 s5 s6 s7)):=by rw [←hw2];exact Zc.made w _ _
 have B2:Hid (Below w.heap.size w w2):=by rw [←hw2];exact bra
 rw [hw2]
 clear hw2
 refine (C1 _).mono ?_
 rintro e w3 ⟨rfl,hb3⟩
 have H3:=hid (H2.out.ext hb3)
 have B3:=hid (B2.out.trans (hb3.mono B2.out.size))
 have HB3:=hid (HB.out.ext B3.out)
 clear C1 hb3 HB H2 B2
 have q0:=H3.out.cell (j:=0) rfl
 have q1:=H3.out.cell (j:=1) rfl
 have q2:=H3.out.cell (j:=2) rfl
 have q3:=H3.out.cell (j:=3) rfl
 have q4:=H3.out.cell (j:=4) rfl
 have q5:=H3.out.cell (j:=5) rfl
 have q6:=H3.out.cell (j:=6) rfl
 have q7:=H3.out.cell (j:=7) rfl
 have r5:=HB3.out.cell (j:=5) rfl
 have r6:=HB3.out.cell (j:=6) rfl
 have r7:=HB3.out.cell (j:=7) rfl
 have r8:=HB3.out.cell (j:=8) rfl
 have r9:=HB3.out.cell (j:=9) rfl
 have r10:=HB3.out.cell (j:=10) rfl
 have r11:=HB3.out.cell (j:=11) rfl
 have r12:=HB3.out.cell (j:=12) rfl
 have fz:∀j,w3.frozen? ⟨b,j,none⟩=false:=HB3.out.frozen
 go_wp2_with fail
 go_ret
 refine ⟨rfl,?_,?_⟩
 ·iterate 8 refine Zf ?_ b _ _ rfl
  exact Mut.of_below B3.out
 ·have h:=(((((((HB3.out.set (j:=5) (v:=.string s0)).set (j:=6) (v:=.string s1)).set (j:=7) (v:=.string s2)).set (j:=8) (v:=.string s3)).set (j:=9) (v:=.string s4)).set (j:=10) (v:=.string s5)).set (j:=11) (v:=.string s6)).set (j:=12) (v:=.string s7)
  exact h
def bdF (l:List ByteArray):List Nat:=l.flatMap λs=>ZW s.size ++ s.data.toList.map UInt8.toNat
theorem zex {l:List ByteArray} (h:∀s∈l,s.size≤16):(bdF l).length≤l.length * 26:=by
 induction l with
 | nil=>simp [bdF]
 | cons s l ih =>
  have h1:=ih λt ht=>h t (List.mem_cons_of_mem _ ht)
  have h2:=h s (List.mem_cons_self ..)
  have h3:=ZT (n:=s.size) (by omega)
  have h4:s.data.toList.length=s.size:=by simp
  unfold bdF at h1 ⊢
  simp only [List.flatMap_cons,List.length_append,List.length_map,List.length_cons] at h1 ⊢
  omega
theorem bdF_take {l:List ByteArray} {k:Nat} {m:ByteArray} (h:l[k]?=some m):bdF (l.take (k+1))=bdF (l.take k) ++ (ZW m.size ++ m.data.toList.map UInt8.toNat):=by
 rw [List.take_add_one,h]
 simp [bdF]
theorem zcu (w:World) (s:ByteArray):Zg (Lib.bytesWorld w 5 s) (some ⟨w.heap.size,0,none⟩) (s.data.toList.map UInt8.toNat):=by
 refine .inr ⟨w.heap.size,0,rfl,by rw [Lib.bytesWorld_size];omega,λi hi=>?_⟩
 have hi':i<s.size:=by simpa using hi
 rw [Nat.zero_add,Lib.bytesWorld_cell w 5 s i hi']
 simp [List.getD,List.getElem?_eq_getElem (show i<s.data.toList.length by simpa using hi')]
theorem zal (w:World) (e:TypeId) (s:ByteArray):Below w.heap.size w (Lib.bytesWorld w e s):=Lib.bytesWorld_below w e s
set_option maxRecDepth 100000 in
set_option maxHeartbeats 3200000 in
theorem pack_any {s0 s1 s2 s3 s4 s5 s6 s7:ByteArray} (h:BdOk [s0,s1,s2,s3,s4,s5,s6,s7]) (w:World) :
  Calls Tryz.prog 169 #[bdA s0 s1 s2 s3 s4 s5 s6 s7] w λe w'=>∃v,e=.returned v∧Ys w' w.heap.size v (bdF [s0,s1,s2,s3,s4,s5,s6,s7])∧Below w.heap.size w w':=by
 have C1:=λW=>JQ h W
 have HI:=hid (λ(m:ByteArray) (k:Nat) (hk:[s0,s1,s2,s3,s4,s5,s6,s7][k]?=some m) (W:World)=>index8 s0 s1 s2 s3 s4 s5 s6 s7 m k hk (k:Int) rfl W)
 have H:=hid h
 obtain ⟨l,hl⟩:∃l,[s0,s1,s2,s3,s4,s5,s6,s7]=l:=⟨_,rfl⟩
 have hll:l.length=8:=by rw [←hl];rfl
 have HL:=hid hll
 rw [hl] at HI H ⊢
 clear h hl hll
 go_enter Tryz.func169,Tryz.ntmps169
 go_wp2_with fail
 obtain ⟨w2,hw2⟩:∃w2,w.alloc (.cells #[.string s0,.string s1,.string s2,.string s3,.string s4,.string s5,.string s6,.string s7] 75)=w2:=⟨_,rfl⟩
 have H2:Hid (Zc w2 w.heap.size 75 (bd8 s0 s1 s2 s3 s4 s5 s6 s7)):=by rw [←hw2];exact Zc.made w _ _
 have B2:Hid (Below w.heap.size w w2):=by rw [←hw2];exact bra
 rw [hw2]
 clear hw2
 refine (C1 _).mono ?_
 rintro e w3 ⟨rfl,hb3⟩
 have hq:Below w3.heap.size w3 (w3.alloc (.cells #[.slice none 0 0] 294)):=bra
 have H3:=(H2.out.ext hb3).ext hq
 have B3:=hid (B2.out.trans (hb3.mono B2.out.size))
 clear C1 hb3 H2 B2 hq
 have q0:=H3.cell (j:=0) rfl
 have q1:=H3.cell (j:=1) rfl
 have q2:=H3.cell (j:=2) rfl
 have q3:=H3.cell (j:=3) rfl
 have q4:=H3.cell (j:=4) rfl
 have q5:=H3.cell (j:=5) rfl
 have q6:=H3.cell (j:=6) rfl
 have q7:=H3.cell (j:=7) rfl
 clear H3
 go_wp2_with fail
 clear q0 q1 q2 q3 q4 q5 q6 q7
 obtain ⟨w4,hw4⟩:∃w4,w3.alloc (.cells #[.slice none 0 0] 294)=w4:=⟨_,rfl⟩
 have HW4:Hid (FJ w4 w3.heap.size (.slice none 0 0) []):=by rw [←hw4];exact FJ.made w3 _
 have B4:Hid (Below w.heap.size w w4):=by rw [←hw4];exact B3.out.alloc B3.out.size _
 have hs4:w.heap.size≤w3.heap.size:=B3.out.size
 have hlt4:w3.heap.size<w4.heap.size:=HW4.out.lt
 rw [hw4]
 clear hw4 B3
 obtain ⟨s,hs⟩:∃s,w3.heap.size=s:=⟨_,rfl⟩
 rw [hs] at HW4 hs4 hlt4 ⊢
 clear hs
 go_loopw [12] (λi wr=>∃(k:Nat) (vk:Value),k≤8∧i=.int .i64 k∧Hid (VU w4 wr s vk (bdF (l.take k)))) (λi _=>8 - (intOf i).toNat)
 case atStart=>exact ⟨0,.slice none 0 0,Nat.zero_le _,rfl,hid ⟨HW4.out,Ys.nil _ _,Mut.refl _ _⟩⟩
 case round =>
  obtain ⟨k,vk,hk,rfl,hWk⟩:=hrel
  by_cases hlt:k<8
  ·have hlt':decide ((k:Int)<8)=true:=by simp;omega
   obtain ⟨m,hm⟩:∃m,l[k]?=some m:=⟨_,List.getElem?_eq_getElem (by rw [HL.out];omega)⟩
   have hi:=HI.out m k hm
   have hz:=H.out k m hm
   obtain ⟨z,hzz⟩:∃z,m.size=z:=⟨_,rfl⟩
   have hcv:=Lib.run_convert_string_bytes (P:=Tryz.prog) wr 9 46 5 m Tryz.underlying9 Tryz.underlying46 Tryz.underlying5
   rw [hzz] at hcv hz
   obtain ⟨W5,hW5⟩:∃W5,Lib.bytesWorld wr 5 m=W5:=⟨_,rfl⟩
   have hq:Below wr.heap.size wr W5:=by rw [←hW5];exact zal wr _ m
   have hrow:Zg W5 (some ⟨wr.heap.size,0,none⟩) (m.data.toList.map UInt8.toNat):=by rw [←hW5];exact zcu wr m
   rw [hW5] at hcv
   obtain ⟨cap,hcap⟩:∃cap,grownCap wr z 0 5=cap:=⟨_,rfl⟩
   rw [hcap] at hcv
   have hsz:s<wr.heap.size:=hWk.out.wr.lt
   have HT:Hid (bdF (l.take (k+1))=bdF (l.take k) ++ (ZW z ++ m.data.toList.map UInt8.toNat)):=hid (by rw [←hzz];exact bdF_take hm)
   have hlen:(bdF (l.take k)).length≤68719476736:=by
    have h1:=zex (l:=l.take k) λt ht=>by
     obtain ⟨j,hj⟩:=List.mem_iff_getElem?.1 (List.mem_of_mem_take ht)
     exact H.out j t hj
    have h2:(l.take k).length≤8:=by rw [List.length_take];omega
    omega
   have C2:Hid (Calls Tryz.prog 263 #[.pointer (some ⟨s,0,none⟩),.slice (some ⟨wr.heap.size,0,none⟩) z cap] W5 λe w'=>e=.returned (.tuple #[])∧∃v',VU W5 w' s v' (bdF (l.take (k+1)))):=hid (by
    rw [HT.out]
    exact zcT (hWk.out.wr.ext hq) hlen (hid (by simpa using hzz)) (by omega) hrow (λb off h1 _=>by injection h1 with h1;injection h1 with h1;omega))
   clear hm hz hlen hrow hW5 hcap hzz HT
   go_wp2_with (go_at_call 263;refine C2.out.mono ?_;rintro e w5 ⟨rfl,v5,hw5⟩;have hw6:=hid (hWk.out.trans hq hw5);clear hw5)
   go_roundw
   case rel=>exact ⟨k+1,v5,by omega,by go_num,hw6⟩
   case measure=>simp [intOf];omega
  ·have hlt':decide ((k:Int)<8)=false:=by simp;omega
   have hend:=hWk.out
   rw [List.take_of_length_le (by rw [HL.out];omega)] at hend
   have HEND:=hid hend
   have hlb:(bdF l).length≤137438953472:=by
    have h1:=zex (l:=l) λt ht=>by
     obtain ⟨j,hj⟩:=List.mem_iff_getElem?.1 ht
     exact H.out j t hj
    rw [HL.out] at h1;omega
   have C3:=hid (FX hend.wr hlb)
   clear hend hlb
   go_wp2_with fail
   refine C3.out.mono ?_
   rintro e w7 ⟨v7,rfl,ho7,hb7⟩
   go_wp2_with fail
   go_ret
   exact ⟨_,rfl,ho7.mono (by have:=hWk.out.mt.size;omega),Zz B4.out hWk.out.mt (λj hj=>by rw [hj];exact hs4) |>.trans (hb7.mono (by have:=hWk.out.mt.size;omega))⟩
structure zbq (w w':World) (V:Zs) (i:Nat) (b m1 m2:Nat) (A:VAd):Prop where
 lt:w.heap.size≤b
 lt1:w.heap.size≤m1
 lt2:w.heap.size≤m2
 below:Below w.heap.size w w'
 box:Zc w' b 277 (vcl V i A ++ [.map (some m1),.map (some m2)])
 view:Zt w' A.am A.al A.ad V
 map1:Zj w' m1 Yg n64 []
 map2:Zj w' m2 eI n64 []
 stab:Gn w.heap.size w' A.am A.al A.ad V
set_option maxRecDepth 100000 in
set_option maxHeartbeats 1600000 in
theorem zcM {kd x1 y1 x2 y2 sq:Int} {ba:Option Addr} {n bc:Nat} {w:World} :
  Calls Tryz.prog 115 #[.agg #[.int .i64 kd,.int .u16 x1,.int .u32 y1,.int .u16 x2,.int .u32 y2,.int .u64 sq,.slice ba n bc]] w λe w'=>(∃er:Int,e=.returned (.int .i64 er))∧Below w.heap.size w w':=by
 obtain ⟨W1,hW1⟩:∃W1,w.alloc (.cells #[.int .i64 kd,.int .u16 x1,.int .u32 y1,.int .u16 x2,.int .u32 y2,.int .u64 sq,.slice ba n bc] 111)=W1:=⟨_,rfl⟩
 have hb1:Below w.heap.size w W1:=by rw [←hW1];exact bra
 have hx1:Zc W1 w.heap.size 111 [.int .i64 kd,.int .u16 x1,.int .u32 y1,.int .u16 x2,.int .u32 y2,.int .u64 sq,.slice ba n bc]:=by rw [←hW1];exact Zc.made w _ _
 have HX:=hid hx1
 have HB:=hid hb1
 have q0:=hx1.cell (j:=0) rfl
 have q1:=hx1.cell (j:=1) rfl
 have q2:=hx1.cell (j:=2) rfl
 have q3:=hx1.cell (j:=3) rfl
 have q4:=hx1.cell (j:=4) rfl
 have q6:=hx1.cell (j:=6) rfl
 have CM:Hid (∀W x y,Below W1.heap.size W1 W→Calls Tryz.prog 159 #[.agg #[.int .u16 x,.int .u32 y]] W λe w'=>e=.returned (.bool (KM (x,y)))∧Below W1.heap.size W1 w'):=hid λW x y hb=>(EU (hid rfl)).mono λe w' ⟨h1,h2⟩=>⟨h1,hb.trans (h2.mono hb.size)⟩
 clear hx1 hb1
 by_cases h1:kd<1
 ·have t1:decide (kd<1)=true:=decide_eq_true h1
  clear CM
  go_enter Tryz.func115,Tryz.ntmps115
  go_wp2_with fail
  go_ret
  exact ⟨⟨_,rfl⟩,HB.out⟩
 have t1:decide (kd<1)=false:=decide_eq_false h1
 clear h1
 by_cases h2:3<kd
 ·have t2:decide (3<kd)=true:=decide_eq_true h2
  have t2':decide (kd > 3)=true:=decide_eq_true h2
  clear CM
  go_enter Tryz.func115,Tryz.ntmps115
  go_wp2_with fail
  go_ret
  exact ⟨⟨_,rfl⟩,HB.out⟩
 have t2:decide (3<kd)=false:=decide_eq_false h2
 have t2':decide (kd > 3)=false:=decide_eq_false h2
 clear h2
 go_enter Tryz.func115,Tryz.ntmps115
 go_upto_region 1 with fail
 try rw [hW1]
 clear hW1
 go_wp2_with fail
 refine (CM.out _ _ _ (Below.refl _ _)).mono ?_
 rintro e w2 ⟨rfl,hb2⟩
 have HB2:=hid hb2
 have q3:=(HX.out.ext hb2).cell (j:=3) rfl
 have q4:=(HX.out.ext hb2).cell (j:=4) rfl
 have q6:=(HX.out.ext hb2).cell (j:=6) rfl
 clear hb2
 cases hm:KM (x1,y1)
 ·go_wp2_with fail
  go_ret
  exact ⟨⟨_,rfl⟩,HB.out.trans (HB2.out.mono HB.out.size)⟩
 go_wp2_with fail
 refine (CM.out _ _ _ HB2.out).mono ?_
 rintro e w3 ⟨rfl,hb3⟩
 have HB3:=hid hb3
 have q6:=(HX.out.ext hb3).cell (j:=6) rfl
 clear hb3
 cases hm2:KM (x2,y2)
 ·go_wp2_with fail
  go_ret
  exact ⟨⟨_,rfl⟩,HB.out.trans (HB3.out.mono HB.out.size)⟩
 by_cases h5:4096<n
 ·have t5:decide ((4096:Int)<n)=true:=decide_eq_true (by omega)
  have t5':decide ((n:Int) > 4096)=true:=decide_eq_true (by omega)
  go_wp2_with fail
  go_ret
  exact ⟨⟨_,rfl⟩,HB.out.trans (HB3.out.mono HB.out.size)⟩
 ·have t5:decide ((4096:Int)<n)=false:=decide_eq_false (by omega)
  have t5':decide ((n:Int) > 4096)=false:=decide_eq_false (by omega)
  go_wp2_with fail
  go_ret
  exact ⟨⟨_,rfl⟩,HB.out.trans (HB3.out.mono HB.out.size)⟩
theorem Ys.mutT {G:Nat→Prop} {w w':World} {base:Nat} {v:Value} {xs:List Nat} (h:Ys w base v xs) (hm:Mut G w w') (hG:∀k,G k→k<base):Ys w' base v xs:=by
 refine ⟨h.1,?_⟩
 rcases h.2 with hn | ⟨g,cap,cur,rfl,hbb,hgg,rest⟩
 ·exact .inl hn
 ·exact .inr ⟨g,cap,cur,rfl,hbb,(hm.block g (Array.getElem?_eq_some_iff.1 hgg).1 (λhg=>by have:=hG g hg;omega)).trans hgg,rest⟩
section
variable {w w':World} {b:Nat} {u0 u1 u2 u3 u4 u5 u6 u7 u8 u9:Value}
theorem ZV.lt (h:ZV w b u0 u1 u2 u3 u4 u5 u6 u7 u8 u9):b<w.heap.size:=World.block_lt_of_cell? w _ h.c0
theorem ZV.mutT {G:Nat→Prop} (h:ZV w b u0 u1 u2 u3 u4 u5 u6 u7 u8 u9) (hm:Mut G w w') (hG:¬ G b):ZV w' b u0 u1 u2 u3 u4 u5 u6 u7 u8 u9 :=
 ⟨ZL h.c0 hm hG,ZL h.c1 hm hG,ZL h.c2 hm hG,ZL h.c3 hm hG,ZL h.c4 hm hG,ZL h.c5 hm hG,ZL h.c6 hm hG,ZL h.c7 hm hG,ZL h.c8 hm hG,ZL h.c9 hm hG,λj=>(World.frozen?_of_block (w:=w) (a:=⟨b,j,none⟩) (hm.block b h.lt hG)).trans (h.f j)⟩
theorem ZV.set0 (h:ZV w b u0 u1 u2 u3 u4 u5 u6 u7 u8 u9) (x:Value):ZV (w.setCell ⟨b,0,none⟩ x) b x u1 u2 u3 u4 u5 u6 u7 u8 u9 :=
 ⟨World.cell?_setCell_same _ _ _ h.c0,by rw [Zo (by omega)];exact h.c1,by rw [Zo (by omega)];exact h.c2,by rw [Zo (by omega)];exact h.c3,by rw [Zo (by omega)];exact h.c4,by rw [Zo (by omega)];exact h.c5,by rw [Zo (by omega)];exact h.c6,by rw [Zo (by omega)];exact h.c7,by rw [Zo (by omega)];exact h.c8,by rw [Zo (by omega)];exact h.c9,λj=>by simp [h.f j]⟩
theorem ZV.set1 (h:ZV w b u0 u1 u2 u3 u4 u5 u6 u7 u8 u9) (x:Value):ZV (w.setCell ⟨b,1,none⟩ x) b u0 x u2 u3 u4 u5 u6 u7 u8 u9 :=
 ⟨by rw [Zo (by omega)];exact h.c0,World.cell?_setCell_same _ _ _ h.c1,by rw [Zo (by omega)];exact h.c2,by rw [Zo (by omega)];exact h.c3,by rw [Zo (by omega)];exact h.c4,by rw [Zo (by omega)];exact h.c5,by rw [Zo (by omega)];exact h.c6,by rw [Zo (by omega)];exact h.c7,by rw [Zo (by omega)];exact h.c8,by rw [Zo (by omega)];exact h.c9,λj=>by simp [h.f j]⟩
theorem ZV.set2 (h:ZV w b u0 u1 u2 u3 u4 u5 u6 u7 u8 u9) (x:Value):ZV (w.setCell ⟨b,2,none⟩ x) b u0 u1 x u3 u4 u5 u6 u7 u8 u9 :=
 ⟨by rw [Zo (by omega)];exact h.c0,by rw [Zo (by omega)];exact h.c1,World.cell?_setCell_same _ _ _ h.c2,by rw [Zo (by omega)];exact h.c3,by rw [Zo (by omega)];exact h.c4,by rw [Zo (by omega)];exact h.c5,by rw [Zo (by omega)];exact h.c6,by rw [Zo (by omega)];exact h.c7,by rw [Zo (by omega)];exact h.c8,by rw [Zo (by omega)];exact h.c9,λj=>by simp [h.f j]⟩
theorem ZV.set3 (h:ZV w b u0 u1 u2 u3 u4 u5 u6 u7 u8 u9) (x:Value):ZV (w.setCell ⟨b,3,none⟩ x) b u0 u1 u2 x u4 u5 u6 u7 u8 u9 :=
 ⟨by rw [Zo (by omega)];exact h.c0,by rw [Zo (by omega)];exact h.c1,by rw [Zo (by omega)];exact h.c2,World.cell?_setCell_same _ _ _ h.c3,by rw [Zo (by omega)];exact h.c4,by rw [Zo (by omega)];exact h.c5,by rw [Zo (by omega)];exact h.c6,by rw [Zo (by omega)];exact h.c7,by rw [Zo (by omega)];exact h.c8,by rw [Zo (by omega)];exact h.c9,λj=>by simp [h.f j]⟩
theorem ZV.set4 (h:ZV w b u0 u1 u2 u3 u4 u5 u6 u7 u8 u9) (x:Value):ZV (w.setCell ⟨b,4,none⟩ x) b u0 u1 u2 u3 x u5 u6 u7 u8 u9 :=
 ⟨by rw [Zo (by omega)];exact h.c0,by rw [Zo (by omega)];exact h.c1,by rw [Zo (by omega)];exact h.c2,by rw [Zo (by omega)];exact h.c3,World.cell?_setCell_same _ _ _ h.c4,by rw [Zo (by omega)];exact h.c5,by rw [Zo (by omega)];exact h.c6,by rw [Zo (by omega)];exact h.c7,by rw [Zo (by omega)];exact h.c8,by rw [Zo (by omega)];exact h.c9,λj=>by simp [h.f j]⟩
theorem ZV.set5 (h:ZV w b u0 u1 u2 u3 u4 u5 u6 u7 u8 u9) (x:Value):ZV (w.setCell ⟨b,5,none⟩ x) b u0 u1 u2 u3 u4 x u6 u7 u8 u9 :=
 ⟨by rw [Zo (by omega)];exact h.c0,by rw [Zo (by omega)];exact h.c1,by rw [Zo (by omega)];exact h.c2,by rw [Zo (by omega)];exact h.c3,by rw [Zo (by omega)];exact h.c4,World.cell?_setCell_same _ _ _ h.c5,by rw [Zo (by omega)];exact h.c6,by rw [Zo (by omega)];exact h.c7,by rw [Zo (by omega)];exact h.c8,by rw [Zo (by omega)];exact h.c9,λj=>by simp [h.f j]⟩
theorem ZV.set6 (h:ZV w b u0 u1 u2 u3 u4 u5 u6 u7 u8 u9) (x:Value):ZV (w.setCell ⟨b,6,none⟩ x) b u0 u1 u2 u3 u4 u5 x u7 u8 u9 :=
 ⟨by rw [Zo (by omega)];exact h.c0,by rw [Zo (by omega)];exact h.c1,by rw [Zo (by omega)];exact h.c2,by rw [Zo (by omega)];exact h.c3,by rw [Zo (by omega)];exact h.c4,by rw [Zo (by omega)];exact h.c5,World.cell?_setCell_same _ _ _ h.c6,by rw [Zo (by omega)];exact h.c7,by rw [Zo (by omega)];exact h.c8,by rw [Zo (by omega)];exact h.c9,λj=>by simp [h.f j]⟩
theorem ZV.set7 (h:ZV w b u0 u1 u2 u3 u4 u5 u6 u7 u8 u9) (x:Value):ZV (w.setCell ⟨b,7,none⟩ x) b u0 u1 u2 u3 u4 u5 u6 x u8 u9 :=
 ⟨by rw [Zo (by omega)];exact h.c0,by rw [Zo (by omega)];exact h.c1,by rw [Zo (by omega)];exact h.c2,by rw [Zo (by omega)];exact h.c3,by rw [Zo (by omega)];exact h.c4,by rw [Zo (by omega)];exact h.c5,by rw [Zo (by omega)];exact h.c6,World.cell?_setCell_same _ _ _ h.c7,by rw [Zo (by omega)];exact h.c8,by rw [Zo (by omega)];exact h.c9,λj=>by simp [h.f j]⟩
theorem ZV.set8 (h:ZV w b u0 u1 u2 u3 u4 u5 u6 u7 u8 u9) (x:Value):ZV (w.setCell ⟨b,8,none⟩ x) b u0 u1 u2 u3 u4 u5 u6 u7 x u9 :=
 ⟨by rw [Zo (by omega)];exact h.c0,by rw [Zo (by omega)];exact h.c1,by rw [Zo (by omega)];exact h.c2,by rw [Zo (by omega)];exact h.c3,by rw [Zo (by omega)];exact h.c4,by rw [Zo (by omega)];exact h.c5,by rw [Zo (by omega)];exact h.c6,by rw [Zo (by omega)];exact h.c7,World.cell?_setCell_same _ _ _ h.c8,by rw [Zo (by omega)];exact h.c9,λj=>by simp [h.f j]⟩
theorem ZV.set9 (h:ZV w b u0 u1 u2 u3 u4 u5 u6 u7 u8 u9) (x:Value):ZV (w.setCell ⟨b,9,none⟩ x) b u0 u1 u2 u3 u4 u5 u6 u7 u8 x :=
 ⟨by rw [Zo (by omega)];exact h.c0,by rw [Zo (by omega)];exact h.c1,by rw [Zo (by omega)];exact h.c2,by rw [Zo (by omega)];exact h.c3,by rw [Zo (by omega)];exact h.c4,by rw [Zo (by omega)];exact h.c5,by rw [Zo (by omega)];exact h.c6,by rw [Zo (by omega)];exact h.c7,by rw [Zo (by omega)];exact h.c8,World.cell?_setCell_same _ _ _ h.c9,λj=>by simp [h.f j]⟩
theorem ZV.put (h:ZV w b u0 u1 u2 u3 u4 u5 u6 u7 u8 u9) (v0 v1 v2 v3 v4 v5 v6 v7 v8 v9:Value):ZV ((((((((((w.setCell ⟨b,0,none⟩ v0).setCell ⟨b,1,none⟩ v1).setCell ⟨b,2,none⟩ v2).setCell ⟨b,3,none⟩ v3).setCell ⟨b,4,none⟩ v4).setCell ⟨b,5,none⟩ v5).setCell ⟨b,6,none⟩ v6).setCell ⟨b,7,none⟩ v7).setCell ⟨b,8,none⟩ v8).setCell ⟨b,9,none⟩ v9) b v0 v1 v2 v3 v4 v5 v6 v7 v8 v9 :=
 ((((((((((h.set0 v0).set1 v1).set2 v2).set3 v3).set4 v4).set5 v5).set6 v6).set7 v7).set8 v8).set9 v9)
theorem mut10 (w:World) (b:Nat) (v0 v1 v2 v3 v4 v5 v6 v7 v8 v9:Value):Mut (λk=>k=b) w ((((((((((w.setCell ⟨b,0,none⟩ v0).setCell ⟨b,1,none⟩ v1).setCell ⟨b,2,none⟩ v2).setCell ⟨b,3,none⟩ v3).setCell ⟨b,4,none⟩ v4).setCell ⟨b,5,none⟩ v5).setCell ⟨b,6,none⟩ v6).setCell ⟨b,7,none⟩ v7).setCell ⟨b,8,none⟩ v8).setCell ⟨b,9,none⟩ v9) :=
 (((((((((Xk.trans Xk).trans Xk).trans Xk).trans Xk).trans Xk).trans Xk).trans Xk).trans Xk).trans Xk)
end
theorem zd2 {a:Option Addr} {c n:Nat} {bs:List Nat} {w:World} (hn:bs.length=n) (hl:n≤549755813888) (hrow:Zg w a bs) :
  Calls Tryz.prog 87 #[.slice a n c] w λe w'=>∃v,e=.returned v∧Ys w' w.heap.size v bs∧Below w.heap.size w w':=Xb (hid hn) hl hrow
set_option maxRecDepth 100000 in
set_option maxHeartbeats 6400000 in
theorem zbs {A:Xu} {i:Nat} {da am al ad:Option Addr} {dc cm cl cd:Nat} {w:World} (hi:A.v.id=(i:Int)) (hdr:Zg w da A.data) (hdl:A.data.length≤549755813888) (hV:Zt w am al ad A.v) (hm:A.v.ms.length≤549755813888) (hd:A.v.ds.length≤549755813888) (hl:A.v.ls.length≤549755813888) (hle:∀l∈A.v.ls,l.length≤549755813888) :
  Calls Tryz.prog 196 #[.agg #[.int .i64 A.kind,.int .u16 A.fr.1,.int .u32 A.fr.2,.int .u64 A.num,.int .u64 A.vw,.slice da A.data.length dc,.int .u64 i,.slice am A.v.ms.length cm,.slice al A.v.ls.length cl,.slice ad A.v.ds.length cd]] w λe w'=>∃(qd a4 a5 a6:Option Addr) (kd k4 k5 k6:Nat),e=.returned (.agg #[.int .i64 A.kind,.int .u16 A.fr.1,.int .u32 A.fr.2,.int .u64 A.num,.int .u64 A.vw,.slice qd A.data.length kd,.int .u64 i,.slice a4 A.v.ms.length k4,.slice a5 A.v.ls.length k5,.slice a6 A.v.ds.length k6])∧Ys w' w.heap.size (.slice qd A.data.length kd) A.data∧Zt w' a4 a5 a6 A.v∧Below w.heap.size w w':=by
 obtain ⟨W2,hW2⟩:∃W2,((w.alloc (.cells #[.int .i64 A.kind,.int .u16 A.fr.1,.int .u32 A.fr.2,.int .u64 A.num,.int .u64 A.vw,.slice da A.data.length dc,.int .u64 i,.slice am A.v.ms.length cm,.slice al A.v.ls.length cl,.slice ad A.v.ds.length cd] 126)).alloc (.cells #[.int .i64 0,.int .u16 0,.int .u32 0,.int .u64 0,.int .u64 0,.slice none 0 0,.int .u64 0,.slice none 0 0,.slice none 0 0,.slice none 0 0] 126))=W2:=⟨_,rfl⟩
 have hB2:Below w.heap.size w W2:=by rw [←hW2];exact (bra).alloc (by simp) _
 have hz2:W2.heap.size=w.heap.size+1+1:=by rw [←hW2];simp
 have x1:ZV W2 w.heap.size (.int .i64 A.kind) (.int .u16 A.fr.1) (.int .u32 A.fr.2) (.int .u64 A.num) (.int .u64 A.vw) (.slice da A.data.length dc) (.int .u64 i) (.slice am A.v.ms.length cm) (.slice al A.v.ls.length cl) (.slice ad A.v.ds.length cd):=by
  rw [←hW2];exact (ZV.made _ _ _ _ _ _ _ _ _ _ _ _ rfl).ext (bra) (by simp)
 have x2:ZV W2 (w.heap.size+1) (.int .i64 0) (.int .u16 0) (.int .u32 0) (.int .u64 0) (.int .u64 0) (.slice none 0 0) (.int .u64 0) (.slice none 0 0) (.slice none 0 0) (.slice none 0 0):=by
  rw [←hW2]
  exact ZV.made _ _ _ _ _ _ _ _ _ _ _ _ (by simp)
 have C1:=hid (zd2 (c:=dc) rfl hdl (hdr.ext hB2))
 have X1:=hid x1
 have X2:=hid x2
 have HB2:=hid hB2
 have HZ2:=hid hz2
 have HV:=hid hV
 have HLE:=hid hle
 have HI:=hid hi
 obtain ⟨a0,a1,a2,a3,a4,a5,a6,a7,a8,a9,-⟩:=id x1
 obtain ⟨nl,hnl⟩:∃k,A.data.length=k:=⟨_,rfl⟩
 have HNL:=hid hnl
 rw [hnl] at C1 a5 hW2 X1 ⊢
 clear x1 x2 hB2 hz2 hV hle hi hdr hdl hnl
 go_enter Tryz.func196,Tryz.ntmps196
 go_wp2_with fail
 refine C1.out.mono ?_
 rintro e w3 ⟨v3,rfl,hown3,hb3⟩
 obtain ⟨qd,kd,e3,-,-⟩:=hown3.row
 rw [HNL.out] at e3
 subst e3
 have hx13:=X1.out.ext hb3 X1.out.lt
 have X13:=hid (hx13.set5 (.slice qd nl kd))
 have X23:=hid ((X2.out.ext hb3 X2.out.lt).mutT (Xk (s:=w.heap.size) (i:=5) (v:=.slice qd nl kd)) (λe=>by have e:w.heap.size+1=w.heap.size:=e;omega))
 have hbw3:Below w.heap.size w (w3.setCell ⟨w.heap.size,5,none⟩ (.slice qd nl kd)):=Zi (HB2.out.trans (hb3.mono HB2.out.size)) (Nat.le_refl _)
 have HOWN3:=hid (hown3.mutT (Xk (s:=w.heap.size) (i:=5) (v:=.slice qd nl kd)) (λk e=>by rw [e];have:=HZ2.out;omega))
 have C2:=hid (JN (cm:=cm) (cl:=cl) (cd:=cd) HI.out (HV.out.ext hbw3) hm hd hl HLE.out)
 have HBW3:=hid hbw3
 have hs3:W2.heap.size≤w3.heap.size:=hb3.size
 clear a0 a1 a2 a3 a4 a5 a6 a7 a8 a9 C1 hown3 hb3 hbw3 hW2
 obtain ⟨a0,a1,a2,a3,a4,a5,a6,a7,a8,a9,af⟩:=hx13
 have af5:=af 5
 go_wp2_with fail
 refine C2.out.mono ?_
 rintro e w4 ⟨vm,vl,vd,Bc,rfl,hom,hol,hod,-,-,-,hbc,hb4⟩
 obtain ⟨a4',k4,e4,-,-⟩:=hom.row
 obtain ⟨a5',k5,e5,-⟩:=hol.row
 obtain ⟨a6',k6,e6,-,-⟩:=hod.row
 subst e4;subst e5;subst e6
 have hsz:(w3.setCell ⟨w.heap.size,5,none⟩ (.slice qd nl kd)).heap.size=w3.heap.size:=by simp
 have hx14:=X13.out.ext hb4 X13.out.lt
 have hx24:=X23.out.ext hb4 X23.out.lt
 have hz2:=HZ2.out
 have X14:=hid ((((hx14.set6 (.int .u64 i)).set7 (.slice a4' A.v.ms.length k4)).set8 (.slice a5' A.v.ls.length k5)).set9 (.slice a6' A.v.ds.length k6))
 have hm4:Mut (λk=>k=w.heap.size) w4 ((((w4.setCell ⟨w.heap.size,6,none⟩ (.int .u64 i)).setCell ⟨w.heap.size,7,none⟩ (.slice a4' A.v.ms.length k4)).setCell ⟨w.heap.size,8,none⟩ (.slice a5' A.v.ls.length k5)).setCell ⟨w.heap.size,9,none⟩ (.slice a6' A.v.ds.length k6)):=((Xk.trans Xk).trans Xk).trans Xk
 have X24:=hid (hx24.mutT hm4 (λe=>by have e:w.heap.size+1=w.heap.size:=e;omega))
 have HOM:=hid ((hom.mono2 (b':=w.heap.size+1+1) (by rw [hsz];omega)).mutT hm4 (λk e=>by rw [e];omega))
 have HOL:=hid ((hol.mono (b':=w.heap.size+1+1) (by rw [hsz] at hbc;omega)).mutT hm4 (λk e=>by rw [e];omega))
 have HOS:=hid ((hod.mono2 (b':=w.heap.size+1+1) (by rw [hsz];omega)).mutT hm4 (λk e=>by rw [e];omega))
 have HOD:=hid (((HOWN3.out.ext hb4).mono (b':=w.heap.size+1+1) (by omega)).mutT hm4 (λk e=>by rw [e];omega))
 have hbw4:=HBW3.out.trans (hb4.mono HBW3.out.size)
 have HBW4:Hid (Below w.heap.size w ((((w4.setCell ⟨w.heap.size,6,none⟩ (.int .u64 i)).setCell ⟨w.heap.size,7,none⟩ (.slice a4' A.v.ms.length k4)).setCell ⟨w.heap.size,8,none⟩ (.slice a5' A.v.ls.length k5)).setCell ⟨w.heap.size,9,none⟩ (.slice a6' A.v.ds.length k6))):=hid (Zi (Zi (Zi (Zi hbw4 (Nat.le_refl _)) (Nat.le_refl _)) (Nat.le_refl _)) (Nat.le_refl _))
 obtain ⟨wt,hwt⟩:∃wt,((((w4.setCell ⟨w.heap.size,6,none⟩ (.int .u64 i)).setCell ⟨w.heap.size,7,none⟩ (.slice a4' A.v.ms.length k4)).setCell ⟨w.heap.size,8,none⟩ (.slice a5' A.v.ls.length k5)).setCell ⟨w.heap.size,9,none⟩ (.slice a6' A.v.ds.length k6))=wt:=⟨_,rfl⟩
 rw [hwt] at X14 X24 HOM HOL HOS HOD HBW4
 clear a0 a1 a2 a3 a4 a5 a6 a7 a8 a9 af af5 C2 hom hol hod hbc hb4 hsz hx24 hm4 hbw4 X13 X23
 obtain ⟨b0,b1,b2,b3,b4,b5,b6,b7,b8,b9,bf⟩:=hx14
 have bf6:=bf 6
 have bf7:=bf 7
 have bf8:=bf 8
 have bf9:=bf 9
 obtain ⟨g0,g1,g2,g3,g4,g5,g6,g7,g8,g9,-⟩:=X14.out
 obtain ⟨d0,d1,d2,d3,d4,d5,d6,d7,d8,d9,df⟩:=X24.out
 have df0:=df 0
 have df1:=df 1
 have df2:=df 2
 have df3:=df 3
 have df4:=df 4
 have df5:=df 5
 have df6:=df 6
 have df7:=df 7
 have df8:=df 8
 have df9:=df 9
 go_wp2
 obtain ⟨p0,p1,p2,p3,p4,p5,p6,p7,p8,p9,-⟩:=X24.out.put (.int .i64 A.kind) (.int .u16 A.fr.1) (.int .u32 A.fr.2) (.int .u64 A.num) (.int .u64 A.vw) (.slice qd nl kd) (.int .u64 i) (.slice a4' A.v.ms.length k4) (.slice a5' A.v.ls.length k5) (.slice a6' A.v.ds.length k6)
 have p00:=World.cell?_setCell_same _ _ (.int .i64 A.kind) d0
 exact bodyPost_ret (v:=.agg #[.int .i64 A.kind,.int .u16 A.fr.1,.int .u32 A.fr.2,.int .u64 A.num,.int .u64 A.vw,.slice qd nl kd,.int .u64 i,.slice a4' A.v.ms.length k4,.slice a5' A.v.ls.length k5,.slice a6' A.v.ds.length k6]) (by simp [results,Tryz.results196,go_sem,p00,p0,p1,p2,p3,p4,p5,p6,p7,p8,p9]) rfl (by
  have hm:=mut10 wt (w.heap.size+1) (.int .i64 A.kind) (.int .u16 A.fr.1) (.int .u32 A.fr.2) (.int .u64 A.num) (.int .u64 A.vw) (.slice qd nl kd) (.int .u64 i) (.slice a4' A.v.ms.length k4) (.slice a5' A.v.ls.length k5) (.slice a6' A.v.ds.length k6)
  have hbf:=HBW4.out.trans (hm.below (B:=w.heap.size) HBW4.out.size (λk e=>by rw [e];exact Nat.le_succ _))
  refine ⟨qd,a4',a5',a6',kd,k4,k5,k6,rfl,?_,Zt.own (HOM.out.mutT hm (λk e=>by rw [e];exact Nat.lt_succ_self _)) (HOL.out.mutT hm (λk e=>by rw [e];exact Nat.lt_succ_self _)) (HOS.out.mutT hm (λk e=>by rw [e];exact Nat.lt_succ_self _)) HV.out,hbf⟩
  have:=(HOD.out.mutT hm (λk e=>by rw [e];exact Nat.lt_succ_self _)).mono (b':=w.heap.size) (by omega)
  exact this)
abbrev Bal:=Nat × Pid
structure Jr where
 kind:Int
 who:Pid
 vw:Nat
 sl:Nat
 num:Nat
 hops:Int
 b:Bal
 a:Bal
 has:Bool
 c:Xu
 v:Zs
 y:List Nat
def zdz:Bal:=(0,(0,0))
def Vi:Jr:=⟨0,(0,0),0,0,0,0,zdz,zdz,false,zeroC,ZS,[]⟩
def flN (k:Int):Nat:=if k=1 then 563 else if k=2 then 164 else if k=3 then 4 else if k=4 then 12 else if k=5 then 76 else if k=6 then 140 else if k=7 then 12 else if k=8 then 12 else if k=9 then 34 else if k=10 then 51 else if k=11 then 33 else if k=12 then 772 else if k=13 then 33 else if k=14 then 2 else 0
def hbF (f i:Nat):Bool:=decide (f &&& 2 ^ i≠0)
def hb (k:Int) (i:Nat):Bool:=hbF (flN k) i
structure MA where
 da:Option Addr
 dc:Nat
 am:Option Addr
 cm:Nat
 al:Option Addr
 cl:Nat
 ad:Option Addr
 cd:Nat
 vm:Option Addr
 em:Nat
 vl:Option Addr
 el:Nat
 vd:Option Addr
 ed:Nat
 ya:Option Addr
 yc:Nat
def Yd (A:MA) (c:Xu):Array Value:=Gp A.da A.am A.al A.ad A.dc A.cm A.cl A.cd c
def viewC (A:MA) (V:Zs):Array Value:=#[.int .u64 V.id,.slice A.vm V.ms.length A.em,.slice A.vl V.ls.length A.el,.slice A.vd V.ds.length A.ed]
def headL (m:Jr):List Value:=[.int .i64 m.kind,.int .u16 m.who.1,.int .u32 m.who.2,.int .u64 m.vw,.int .u64 m.sl,.int .u64 m.num,.int .i64 m.hops,.int .u32 m.b.1,.int .u16 m.b.2.1,.int .u32 m.b.2.2,.int .u32 m.a.1,.int .u16 m.a.2.1,.int .u32 m.a.2.2,.bool m.has]
def ML (A:MA) (m:Jr):List Value:=headL m ++ ((Yd A m.c).toList ++ ((viewC A m.v).toList ++ [.slice A.ya m.y.length A.yc]))
theorem zew:(Tryz.prog.info? 128).map (·.size)=some 29:=by kernel_rfl
theorem KJ (A:MA) (m:Jr):(Tryz.prog.info? 128).map (·.size)=some (ML A m).length:=zew
theorem Gv:(Tryz.prog.info? 126).map (·.size)=some 10:=by kernel_rfl
def Zr (w:World) (b:Nat) (A:MA) (m:Jr):Prop:=w.rangeAt b 0 (ML A m)
theorem Zr.cell {w:World} {b:Nat} {A:MA} {m:Jr} (h:Zr w b A m) {j:Nat} {v:Value} (hv:(ML A m)[j]?=some v):w.cell? ⟨b,j,none⟩=some v:=by
 have:=h j v hv
 rwa [Nat.zero_add] at this
theorem Zr.lt {w:World} {b:Nat} {A:MA} {m:Jr} (h:Zr w b A m):b<w.heap.size:=World.block_lt_of_cell? w _ (h.cell (j:=0) rfl)
theorem GW {w w':World} {b o B:Nat} {cs:List Value} (h:w.rangeAt b o cs) (hb:Below B w w') (hB:b<B):w'.rangeAt b o cs:=λj v hv=>(hb.cell (p:=⟨b,o+j,none⟩) (by exact hB)).trans (h j v hv)
theorem Zr.ext {w w':World} {b B:Nat} {A:MA} {m:Jr} (h:Zr w b A m) (hb:Below B w w') (hB:b<B):Zr w' b A m:=GW h hb hB
theorem Zr.cmd {w:World} {b:Nat} {A:MA} {m:Jr} (h:Zr w b A m):w.rangeAt b 14 (Yd A m.c).toList:=λj v hv=>by
 have hj:j<10:=(List.getElem?_eq_some_iff.1 hv).1
 refine h.cell (j:=14+j) ?_
 unfold ML
 rw [List.getElem?_append_right (by show 14≤14+j;omega),show 14+j - (headL m).length=j from by show 14+j - 14=j;omega,List.getElem?_append_left (by show j<10;exact hj)]
 exact hv
theorem Zr.made (A:MA) (m:Jr) (w:World) (t:TypeId) (fr:Nat × Nat):Zr (w.alloc (.cells (ML A m).toArray t fr)) w.heap.size A m:=λj v hv=>by
 rw [World.cell?_alloc_mark,Nat.zero_add];simpa using hv
section
variable {ops:Array Oper} {rest:List Oper} {op:Oper} {a:Go.Act} {w:World} {Q:Exit→Go.Act→World→Prop} {x:Operand} {b:Nat} {A:MA} {m:Jr}
theorem ZX (h:Zr w b A m) (hgd:op.guard=none) (ho:op.op=.load 128 x)
  (hx:a.eval x=.pointer (some ⟨b,0,none⟩)) (hk:wpList Tryz.prog ops Q rest (a.put op.dst (.agg (ML A m).toArray)) w):wpList Tryz.prog ops Q (op :: rest) a w :=
 wpList_load_mid hgd 128 x ho b 0 hx (ML A m) _ h Tryz.underlying128 rfl (KJ A m) hk
end
section
variable {ops:Array Oper} {rest:List Oper} {op:Oper} {a:Go.Act} {w:World} {Q:Exit→Go.Act→World→Prop} {x:Operand} {b:Nat} {A:MA} {m:Jr}
end
theorem neq_bal (n a b m c d:Int) (w:World):(binOp .neq 124 (.agg #[.int .u32 n,.int .u16 a,.int .u32 b]) (.agg #[.int .u32 m,.int .u16 c,.int .u32 d])).run Tryz.prog w=.ok (.bool (!decide ((n,a,b)=(m,c,d)))) w:=by
 have hS:Tryz.prog.underlying 124=some (.struct (Tryz.prog.fieldsOf 124)):=by kernel_rfl
 have hp:Tryz.prog.stoodInHeld 124=false:=by kernel_rfl
 rw [run_neq_struct,show (10000:Nat)=9999+1 from rfl,run_equalIn_agg w 9999 124 _ _ hS hp]
 simp only [Program.fieldsOf,Tryz.underlying124]
 go_simp
 by_cases h1:n=m <;> by_cases h2:a=c <;> by_cases h3:b=d <;> simp [h1,h2,h3]
structure Xe (w:World) (q:Nat) (L:List Value):Prop where
 r:w.rangeAt q 0 L
 f:∀j,w.frozen? ⟨q,j,none⟩=false
theorem Xe.cell {w:World} {q:Nat} {L:List Value} (h:Xe w q L) {j:Nat} {v:Value} (hv:L[j]?=some v):w.cell? ⟨q,j,none⟩=some v:=by
 have:=h.r j v hv
 rwa [Nat.zero_add] at this
theorem Xe.set {w:World} {q:Nat} {L:List Value} (h:Xe w q L) {j:Nat} (hj:j<L.length) (v:Value):Xe (w.setCell ⟨q,j,none⟩ v) q (L.set j v):=by
 refine ⟨λi u hu=>?_,λi=>by simp [h.f i]⟩
 rw [Nat.zero_add]
 by_cases e:i=j
 ·subst e
  rw [List.getElem?_set_self hj] at hu
  cases hu
  exact World.cell?_setCell_same _ _ _ (h.cell (List.getElem?_eq_getElem hj))
 ·rw [List.getElem?_set_ne (λe2=>e e2.symm)] at hu
  rw [World.cell?_setCell_other _ _ _ _ (by intro e2;injection e2 with _ e3;exact e e3.symm)]
  exact h.cell hu
def setsL:List Value→Nat→List Value→List Value
 | L,_,[]=>L
 | L,o,v :: vs=>setsL (L.set o v) (o+1) vs
theorem Xe.sets {q:Nat}:∀{vs:List Value} {w:World} {L:List Value} {o:Nat},Xe w q L→o+vs.length≤L.length→Xe (w.setCells q o vs) q (setsL L o vs)
 | [],_,_,_,h,_=>h
 | v :: vs,w,L,o,h,hl=>by
  simp only [List.length_cons] at hl
  exact Xe.sets (vs:=vs) (h.set (j:=o) (by omega) v) (by rw [List.length_set];omega)
theorem Xe.there {w:World} {q:Nat} {L:List Value} (h:Xe w q L) {o n:Nat} (hl:o+n≤L.length):w.there q o n:=λj hj=>⟨by rw [h.cell (List.getElem?_eq_getElem (show o+j<L.length by omega))];rfl,h.f _⟩
theorem Xe.lt {w:World} {q:Nat} {L:List Value} (h:Xe w q L) (hl:0<L.length):q<w.heap.size:=World.block_lt_of_cell? w _ (h.cell (j:=0) (List.getElem?_eq_getElem hl))
theorem Xe.ext {w w':World} {q B:Nat} {L:List Value} (h:Xe w q L) (hb:Below B w w') (hB:q<B):Xe w' q L :=
 ⟨GW h.r hb hB,λj=>(hb.frozen (p:=⟨q,j,none⟩) (by exact hB)).trans (h.f j)⟩
theorem Xe.made (L:List Value) (w:World) (t:TypeId):Xe (w.alloc (.cells L.toArray t)) w.heap.size L :=
 ⟨λj v hv=>by rw [World.cell?_alloc_mark,Nat.zero_add];simpa using hv,λj=>by simp⟩
theorem Yl {B b:Nat}:∀(vs:List Value) (o:Nat) {w0 w:World},Below B w0 w→B≤b→Below B w0 (w.setCells b o vs)
 | [],_,_,_,h,_=>h
 | v :: vs,o,_,_,h,hb=>Yl vs (o+1) (h.setCell (by simpa using hb) _) hb
theorem YX {P:Program} {fn:Func} {p:Tmp} {ty:TypeId} (h:fn.results=#[.cell p ty]) (tmps:Array Value) (w:World) (b o:Nat) (cs:List Value) (d:TypeDesc)
  (hp:tmps.getD p undef=.pointer (some ⟨b,o,none⟩)) (hc:w.rangeAt b o cs)
  (hu:P.underlying ty=some d) (hd:d.isRow=true) (hi:(P.info? ty).map (·.size)=some cs.length) :
  (results fn tmps).run P w=.ok (.agg cs.toArray) w:=by
 have hp':tmps[p]?.getD undef=.pointer (some ⟨b,o,none⟩):=by simpa using hp
 simp [results,h,hp',asAddr,run_loadVar_mid w b o ty cs d hc hu hd hi]
theorem zbD (A:MA) (m:Jr):(ML A m).toArray.all (·.oneCell')=true:=by
 simp [ML,headL,Yd,Gp,viewC,Value.oneCell']
section
variable {ops:Array Oper} {rest:List Oper} {op:Oper} {a:Go.Act} {w:World} {Q:Exit→Go.Act→World→Prop} {x y:Operand} {q:Nat} {A:MA} {m:Jr}
theorem VO (ht:w.there q 0 29) (hgd:op.guard=none) (ho:op.op=.store 128 x y)
  (hx:a.eval x=.pointer (some ⟨q,0,none⟩)) (hy:a.eval y=.agg (ML A m).toArray) (hk:wpList Tryz.prog ops Q rest (a.put op.dst undef) (w.setCells q 0 (ML A m))):wpList Tryz.prog ops Q (op :: rest) a w :=
 wpList_store_mid hgd 128 x y ho q 0 (ML A m).toArray hx hy ht zew (zbD A m) hk
end
def Zu:MA:=⟨none,0,none,0,none,0,none,0,none,0,none,0,none,0,none,0⟩
end Go.Proofs.YtcdpaflmofljaaaGreat
