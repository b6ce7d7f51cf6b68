import Derived.Test.YtcdpaflmofljaaaGreatGNodeNil9
import Derived.Shelf.Spec.TrailingZeros
import Derived.RangeFuncNested
import Derived.RangeFuncBound
import Derived.RangeFuncCalls
import Derived.RangeFuncLeaves
import Derived.Shelf.Abstract
import Derived.Shelf.RegionOpen
import Derived.OwnWalkIn
import Derived.TacticsInMore
import Derived.LoopNIn
import Derived.LoopIn
import Derived.RegionIn
import Derived.Sort.MapsRangeIn
/- Parts of the proof of NodeNil: B3 BU LL LM K7 K8 KA K9 KB KC KD KF KG KH KJ LN LO LP LQ. -/
namespace Go.Proofs.YtcdpaflmofljaaaGreat
open Go.RowKit
theorem Ky {x:Pid}:∀{L:List (Pid × Unit)},(keys L).Nodup→del x L=L.filter λq=>!decide (q.1=x)
 | [],_=>rfl
 | p :: l,h=>by
  obtain ⟨h1,h2⟩:=List.nodup_cons.1 h
  by_cases hx:x=p.1
  ·have hall:l.filter (λq=>!decide (q.1=x))=l:=List.filter_eq_self.2 λq hq=>by
    have:q.1≠x:=λe=>h1 (by show p.1∈_;rw [←hx,← e];exact List.mem_map_of_mem (f:=λx:Pid × Unit=>x.1) hq)
    simp [this]
   simp only [del,if_pos hx,List.filter_cons]
   rw [if_neg (by simp [hx]),hall]
  ·simp only [del,if_neg hx,List.filter_cons]
   rw [if_pos (by simp [Ne.symm hx]),Ky h2]
set_option maxRecDepth 100000 in
set_option maxHeartbeats 800000 in
theorem zec (s r:Nat) (L:List (Pid × Unit)) (x y:Int) {bs:Bool} (hl:(Yz (x,y) L).isSome=bs) (w:World) (hS:ZP w s r L) :
  Calls Tryz.prog 266 #[.pointer (some ⟨s,0,none⟩),.agg #[.int .u16 x,.int .u32 y]] w λe w'=>e=.returned (.bool bs)∧ZP w' s r (del (x,y) L)∧Mut (λk=>k=r) w w':=by
 have hS1:=hS.alloc (.cells #[.int .u16 x,.int .u32 y] 25)
 have hB1:Below w.heap.size w (w.alloc (.cells #[.int .u16 x,.int .u32 y] 25)):=bra
 have hsr:s≠r:=λe=>by
  have h1:=hS.box
  obtain ⟨es,cl,h2,_⟩:=hS.map
  subst e
  simp [World.cell?,h2] at h1
 have hrl:=hS.map.lt
 have HS:=hid hl
 cases bs with
 | false =>
  have hd:del (x,y) L=L:=by
   cases hq:Yk (x,y) L 0 with
   | none=>exact FO hq
   | some q=>have:=XM (x,y) L 0;rw [hq] at this;rw [←this] at hl;simp at hl
  have HD:=hid hd
  clear hl hd
  go_enter Tryz.func266,Tryz.ntmps266
  go_wp2_with (go_at_call 265;refine (Kn _ _ _ _ _ _ _ hS1 HS).mono ?_;rintro e w3 ⟨rfl,hb3⟩)
  go_ret
  exact ⟨rfl,by rw [HD.out];exact hS1.ext hb3,Mut.of_below (hB1.trans (hb3.mono hB1.size))⟩
 | true =>
  clear hl
  go_enter Tryz.func266,Tryz.ntmps266
  go_wp2_with (go_at_call 265;refine (Kn _ _ _ _ _ _ _ hS1 HS).mono ?_;rintro e w3 ⟨rfl,hb3⟩)
  have hS3:=(hS1.ext hb3).drew
  obtain ⟨w2,hrun,hM2,hbut⟩:=hS3.map.delete Xa Tryz.underlying150 (x,y)
  have hs3:=hb3.size
  simp at hs3
  have b0:(w.alloc (.cells #[.int .u16 x,.int .u32 y] 25)).cell? ⟨w.heap.size,0,none⟩=some (.int .u16 x):=by simp
  have b1:(w.alloc (.cells #[.int .u16 x,.int .u32 y] 25)).cell? ⟨w.heap.size,1,none⟩=some (.int .u32 y):=by simp
  have e0:w3.drew.cell? ⟨w.heap.size,0,none⟩=some (.int .u16 x):=ZG b0 hb3.drew
  have e1:w3.drew.cell? ⟨w.heap.size,1,none⟩=some (.int .u32 y):=ZG b1 hb3.drew
  clear b0 b1
  have e2:=hS3.box
  have k0:=(hbut.cell (p:=⟨w.heap.size,0,none⟩) (by simp;omega)).trans e0
  have k1:=(hbut.cell (p:=⟨w.heap.size,1,none⟩) (by simp;omega)).trans e1
  have k2:=(hbut.cell (p:=⟨s,0,none⟩) (by exact hsr)).trans e2
  go_region_held3 (λW=>W.cell? ⟨s,0,none⟩=some (.map (some r))∧W.cell? ⟨w.heap.size,0,none⟩=some (.int .u16 x)∧W.cell? ⟨w.heap.size,1,none⟩=some (.int .u32 y)) (first | exact ⟨e2,e0,e1⟩ | exact ⟨k2,k0,k1⟩) (fail)
  go_wp2
  go_ret
  exact ⟨rfl,⟨k2,hM2⟩,(Mut.of_below (hB1.trans (hb3.mono hB1.size)).drew).trans (Mut.of_but hbut rfl)⟩
theorem ZP.mut {F:Nat→Prop} {w w':World} {s r:Nat} {L:List (Pid × Unit)} (h:ZP w s r L) (hm:Mut F w w') (hs:¬ F s) (hr:¬ F r):ZP w' s r L :=
 ⟨(hm.cell (by exact h.lt) (by exact hs)).trans h.box,h.map.same (hm.block r h.map.lt hr)⟩
def Yw (L:List (Pid × Unit)) (xs todo:List Pid):List (Pid × Unit):=L.filter λq=>decide (q.1∈xs) || decide (q.1∈todo)
def zd6 (L:List (Pid × Unit)) (xs:List Pid):List (Pid × Unit):=L.filter λq=>decide (q.1∈xs)
theorem QF {L:List (Pid × Unit)} {xs l:List Pid} (h:∀p∈keys L,p∈l):Yw L xs l=L :=
 List.filter_eq_self.2 λq hq=>by simp [h q.1 (List.mem_map_of_mem (f:=λx:Pid × Unit=>x.1) hq)]
theorem za0 (L:List (Pid × Unit)) (xs:List Pid):Yw L xs []=zd6 L xs:=by unfold Yw zd6;simp
theorem zcx {L:List (Pid × Unit)} {xs t:List Pid} {p:Pid} (h:p∈xs):Yw L xs (p :: t)=Yw L xs t:=by
 unfold Yw
 apply List.filter_congr
 intro q _
 by_cases hq:q.1=p
 ·simp [hq,h]
 ·simp [hq]
theorem Fi {L:List (Pid × Unit)} {xs t:List Pid} (h:(keys L).Nodup):(keys (Yw L xs t)).Nodup:=h.sublist (List.Sublist.map _ List.filter_sublist)
theorem QA {L:List (Pid × Unit)} {xs t:List Pid} {p:Pid} (hn:(keys L).Nodup) (h:p ∉ xs) (ht:p ∉ t):del p (Yw L xs (p :: t))=Yw L xs t:=by
 rw [Ky (Fi hn)]
 unfold Yw
 rw [List.filter_filter]
 apply List.filter_congr
 intro q _
 by_cases hq:q.1=p
 ·simp [hq,h,ht]
 ·simp [hq]
theorem zbp {L:List (Pid × Unit)} {xs t:List Pid} {p:Pid} (hn:(keys L).Nodup) (h:p ∉ xs) (ht:p ∉ t) (hp:p∈keys L):(Yw L xs (p :: t)).length=(Yw L xs t).length+1:=by
 have hin:p∈keys (Yw L xs (p :: t)):=by
  obtain ⟨q,hq,rfl⟩:=List.mem_map.1 hp
  exact List.mem_map.2 ⟨q,List.mem_filter.2 ⟨hq,by simp⟩,rfl⟩
 have hq:(Yz p (Yw L xs (p :: t))).isSome=true:=by rw [ZM];exact hin
 rw [←QA hn h ht]
 cases hl:Yk p (Yw L xs (p :: t)) 0 with
 | none=>have:=XM p (Yw L xs (p :: t)) 0;rw [hl] at this;rw [←this] at hq;simp at hq
 | some v =>
  obtain ⟨j,u⟩:=v
  have h1:=(Xo hl).2.1
  rw [zd0 hl,List.length_eraseIdx_of_lt h1]
  omega
set_option maxRecDepth 100000 in
set_option maxHeartbeats 1600000 in
theorem keep_any (s r:Nat) (L:List (Pid × Unit)) (a:Option Addr) (c:Nat) (xs:List Pid) (w:World) (hS:ZP w s r L) (hnd:(keys L).Nodup) (hok:∀p∈keys L,ok p) (hn:L.length≤549755813888) (hm:xs.length≤549755813888) (hrow:Zb w a xs) :
  Calls Tryz.prog 178 #[.pointer (some ⟨s,0,none⟩),.slice a xs.length c] w λe w'=>e=.returned (.int .i64 ((L.length:Int) - (zd6 L xs).length))∧ZP w' s r (zd6 L xs)∧Mut (λk=>k=r) w w':=by
 have hsl:=hS.lt
 have hrl:=hS.map.lt
 have hlk:(keys L).length=L.length:=by simp [keys]
 obtain ⟨l0,hl0⟩:∃l,YS (keys L)=l:=⟨_,rfl⟩
 have hl0n:l0.Nodup:=by rw [←hl0];exact (Xj _).symm.nodup hnd
 have hl0m:∀p,p∈l0↔p∈keys L:=λp=>by rw [←hl0];exact Kb
 have hl0l:l0.length=L.length:=by rw [←hl0,YH,hlk]
 have hl0b:l0.length≤549755813888:=by omega
 have HL0:=hid hl0
 have HND:=hid hnd
 have HOK:=hid hok
 have HLN:=hid hl0n
 have HLM:=hid hl0m
 have HLL:=hid hl0l
 clear hl0 hnd hok hl0n hl0m hl0l hlk
 go_enter Tryz.func178,Tryz.ntmps178
 go_wp2_with (first
  | (go_at_call 69;refine (VL _ _ xs _ (by omega) hrow).mono ?_;rintro e w1 ⟨s2,r2,rfl,hs2,hr2,hS2,hb1⟩)
  | (go_at_call 262;refine (Qm _ _ _ _ (hS.ext hb1) HND.out HOK.out hn).mono ?_;rintro e w2 ⟨v,rfl,hown,hb2⟩;rw [HL0.out] at hown;obtain ⟨la,lc,rfl,hlrow,hlb⟩:=hown.row))
 have hS2':=(hS.ext hb1).ext hb2
 have hT2':=hS2.ext hb2
 have hz1:=hb1.size
 have hz2:=hb2.size
 have hB2:Below w.heap.size w w2:=hb1.trans (hb2.mono hz1)
 have hs2l:=hT2'.lt
 have hr2l:=hT2'.map.lt
 go_loopw [6,14] (λn i wr=>∃(k m:Nat),k≤l0.length∧i=.int .i64 k∧n=.int .i64 m∧m≤k∧Hid ((Yw L xs (l0.drop k)).length+m=L.length)∧ZP wr s r (Yw L xs (l0.drop k))∧Mut (λk=>k=r) w2 wr) (λ_ i _=>l0.length - (intOf i).toNat)
 case atStart=>exact ⟨0,0,Nat.zero_le _,rfl,rfl,Nat.le_refl _,hid (by rw [List.drop_zero,QF (λp hp=>(HLM.out p).2 hp)];omega),by rw [List.drop_zero,QF (λp hp=>(HLM.out p).2 hp)];exact hS2',Mut.refl _ _⟩
 case round =>
  obtain ⟨k,m,hk,rfl,rfl,hmk,hM,hSk,hmut⟩:=hrel
  have hz:=hmut.size
  have hTr:=hT2'.mut hmut (by omega) (by omega)
  by_cases hlt:k<l0.length
  ·have hlrow':=hlrow.mut hmut (λb off ha _=>by have:=hlb b off ha;omega)
   obtain ⟨pb,po,x,y,rfl,hpx,d1,d2⟩:=hlrow'.at (Below.refl _ _) rfl hlt
   have hdk:l0.drop k=(x,y) :: l0.drop (k+1):=by rw [List.drop_eq_getElem_cons hlt,← hpx]
   have hnt:(x,y) ∉ l0.drop (k+1):=by
    have:=HLN.out.sublist (List.drop_sublist k l0)
    rw [hdk] at this
    exact (List.nodup_cons.1 this).1
   have hinL:(x,y)∈keys L:=(HLM.out _).1 (by rw [hpx];exact List.getElem_mem _)
   have hmem:(Yz (x,y) (Zx [] xs)).isSome=decide ((x,y)∈xs):=by rw [Bool.eq_iff_iff,JI];simp
   rw [hdk] at hSk hM
   have hB1:Below wr.heap.size wr (wr.alloc (.cells #[.int .u16 x,.int .u32 y] 25)):=bra
   cases hin:decide ((x,y)∈xs)
   ·have hnx:(x,y) ∉ xs:=of_decide_eq_false hin
    rw [hin] at hmem
    have HMEM:=hid hmem
    have HOUT:=hid (QA (t:=l0.drop (k+1)) HND.out hnx hnt)
    have HLEN:=hid (zbp (t:=l0.drop (k+1)) HND.out hnx hnt hinL)
    have hlk:(Yz (x,y) (Yw L xs ((x,y) :: l0.drop (k+1)))).isSome=true:=by
     rw [ZM]
     obtain ⟨q,hq,hqe⟩:=List.mem_map.1 hinL
     exact List.mem_map.2 ⟨q,List.mem_filter.2 ⟨hq,by simp [hqe]⟩,hqe⟩
    have HLK:=hid hlk
    clear hmem hin hnx hlk hpx hdk hnt hinL
    go_wp2_with (first
     | (go_at_call 265;refine (Kn _ _ _ _ _ _ _ (hTr.alloc _) HMEM).mono ?_;rintro e w3 ⟨rfl,hb3⟩;have p0:=ZG (show (wr.alloc (.cells #[.int .u16 x,.int .u32 y] 25)).cell? ⟨wr.heap.size,0,none⟩=some (.int .u16 x) by simp) hb3;have p1:=ZG (show (wr.alloc (.cells #[.int .u16 x,.int .u32 y] 25)).cell? ⟨wr.heap.size,1,none⟩=some (.int .u32 y) by simp) hb3)
     | (go_at_call 266;refine (zec _ _ _ _ _ HLK.out _ ((hSk.alloc _).ext hb3)).mono ?_;rintro e w4 ⟨rfl,hS4,hm4⟩))
    have hm3:Mut (λk=>k=r) w2 w4:=(hmut.trans (Mut.of_below (hB1.trans (hb3.mono hB1.size)))).trans hm4
    go_roundw
    case rel=>exact ⟨k+1,m+1,by omega,by go_num,by go_num,by omega,hid (by have:=HLEN.out;have:=hM.out;omega),by rw [←HOUT.out];exact hS4,hm3⟩
    case measure=>simp [intOf];omega
   ·have hix:(x,y)∈xs:=of_decide_eq_true hin
    rw [hin] at hmem
    have HMEM:=hid hmem
    have HIN:=hid (zcx (L:=L) (t:=l0.drop (k+1)) hix)
    clear hmem hin hix hpx hdk hnt hinL
    go_wp2_with (go_at_call 265;refine (Kn _ _ _ _ _ _ _ (hTr.alloc _) HMEM).mono ?_;rintro e w3 ⟨rfl,hb3⟩)
    go_roundw
    case rel=>exact ⟨k+1,m,by omega,by go_num,rfl,by omega,hid (by have:=hM.out;rw [HIN.out] at this;exact this),by rw [←HIN.out];exact (hSk.alloc _).ext hb3,hmut.trans (Mut.of_below (hB1.trans (hb3.mono hB1.size)))⟩
    case measure=>simp [intOf];omega
  ·rw [List.drop_eq_nil_of_le (by omega),za0] at hSk hM
   have hMe:Hid ((m:Int)=(L.length:Int) - (zd6 L xs).length):=hid (by have:=hM.out;omega)
   go_wp2
   go_ret
   exact ⟨ZE hMe.out,hSk,(Mut.of_below hB2).trans hmut⟩
theorem KE {p:Pid} {L:List (Pid × Unit)} {xs:List Pid}:p∈keys (Zx L xs)↔p∈keys L∨p∈xs:=Js
theorem new_is {a:Option Addr} {c n:Nat} {ys:List Pid} {w:World} (h:Hid (n=ys.length)) (hn:ys.length≤70368744177664) (hrow:Zb w a ys) :
  Calls Tryz.prog 69 #[.slice a n c] w λe w'=>∃s r,e=.returned (.pointer (some ⟨s,0,none⟩))∧w.heap.size≤s∧w.heap.size≤r∧ZP w' s r (Zx [] ys)∧Below w.heap.size w w':=by
 rw [h.out];exact VL a c ys w hn hrow
theorem union_is {s r:Nat} {L:List (Pid × Unit)} {a:Option Addr} {c n:Nat} {ys:List Pid} {w:World} {m:Int} {L':List (Pid × Unit)} (h:Hid (n=ys.length)) (hm:((KD L ys:Nat):Int)=m) (hL:Zx L ys=L') (hn:ys.length≤70368744177664) (hrow:Zb w a ys) (hS:ZP w s r L) :
  Calls Tryz.prog 167 #[.pointer (some ⟨s,0,none⟩),.slice a n c] w λe w'=>e=.returned (.int .i64 m)∧ZP w' s r L'∧Mut (λk=>k=r) w w':=by
 have:=Eg s r L a c ys w hn hrow hS
 rw [hm,hL,← h.out] at this
 exact this
section
variable {w:World} {b:Nat} {A:Int} {k:Value} {a:Option Addr} {n c:Nat}
theorem XT (hB:Zc w b 149 [.int .u64 A,k]):Calls Tryz.prog 33 #[.pointer (some ⟨b,0,none⟩)] w λe w'=>e=.returned (.int .u64 A)∧w'=w:=by
 have c0:=hB.cell (j:=0) rfl
 clear hB
 go_enter Tryz.func33,Tryz.ntmps33
 go_wp2
 go_ret
 exact ⟨rfl,rfl⟩
theorem lRoom0 (hB:Zc w b 149 [.int .u64 A,.slice a n c]) (hn:n=0∨n=1):Calls Tryz.prog 292 #[.pointer (some ⟨b,0,none⟩)] w λe w'=>e=.returned (.int .i64 (64 - n))∧w'=w:=by
 have c1:=hB.cell (j:=1) rfl
 clear hB
 rcases hn with rfl | rfl
 all_goals
  go_enter Tryz.func292,Tryz.ntmps292
  go_wp2
  go_ret
  exact ⟨by rfl,rfl⟩
theorem lFrom (hB:Zc w b 149 [.int .u64 1,.slice a n c]) (hn:n=0∨n=1):Calls Tryz.prog 190 #[.pointer (some ⟨b,0,none⟩)] w λe w'=>e=.returned (.int .u64 (2 - n))∧Below w.heap.size w w':=by
 have c0:=Za (hB.cell (j:=0) rfl)
 have c1:=Za (hB.cell (j:=1) rfl)
 clear hB
 rcases hn with rfl | rfl
 all_goals
  go_enter Tryz.func190,Tryz.ntmps190
  go_upto_region 3 with fail
  refine Ze (w:=w) (Below.refl _ _) (by kernel_rfl) (by kernel_rfl) ?_
  repeat (go_big_quiet_step (fail))
  refine wpQuiet_nil ?_
  rintro w9 ⟨⟨_,hb9⟩,rfl⟩
  go_wp2_with fail
  go_ret
  exact ⟨by rfl,hb9⟩
theorem lPlace (hB:Zc w b 149 [.int .u64 1,.slice a 1 c]):Calls Tryz.prog 191 #[.pointer (some ⟨b,0,none⟩),.int .u64 1] w λe w'=>e=.returned (.tuple #[.int .i64 0,.bool true])∧Below w.heap.size w w':=by
 have c0:=Za (hB.cell (j:=0) rfl)
 have c1:=Za (hB.cell (j:=1) rfl)
 have HB:=hid hB
 clear hB
 go_enter Tryz.func191,Tryz.ntmps191
 go_upto_region 1 with fail
 refine Ze (w:=w) (Below.refl _ _) (by kernel_rfl) (by kernel_rfl) ?_
 repeat (go_big_quiet_step (fail))
 refine wpQuiet_nil ?_
 rintro w8 ⟨⟨_,hb8⟩,rfl⟩
 go_upto_region 3 with fail
 have HB8:=hid (HB.out.ext hb8)
 clear c0 c1
 have c0:=Za (HB8.out.cell (j:=0) rfl)
 have c1:=Za (HB8.out.cell (j:=1) rfl)
 refine Ze (w:=w8) (Below.refl _ _) (by kernel_rfl) (by kernel_rfl) ?_
 repeat (go_big_quiet_step (fail))
 refine wpQuiet_nil ?_
 rintro w9 ⟨⟨_,hb9⟩,rfl⟩
 go_wp2_with fail
 refine bodyPost_ret (v:=.tuple #[.int .i64 0,.bool true]) (by simp [results,Tryz.results191,go_sem]) rfl ⟨?_,hb8.trans (hb9.mono hb8.size)⟩
 rfl
end
section
variable {w:World} {b:Nat} {A v l:Int} {k:Value} {a:Option Addr} {n c g o:Nat}
theorem lCut0 (hB:Zc w b 149 [.int .u64 1,.slice a 0 c]):Calls Tryz.prog 94 #[.pointer (some ⟨b,0,none⟩),.int .u64 1] w λe w'=>e=.returned (.int .i64 0)∧Below w.heap.size w w':=by
 have CF:=hid (lFrom hB (.inl rfl))
 clear hB
 go_enter Tryz.func94,Tryz.ntmps94
 go_wp2_with fail
 refine CF.out.mono ?_
 rintro e w2 ⟨rfl,hb2⟩
 clear CF
 go_wp2_with fail
 go_ret
 exact ⟨rfl,hb2⟩
theorem lCut1 (hB:Zc w b 149 [.int .u64 1,.slice (some ⟨g,0,none⟩) 1 c]) (hc:1≤c):Calls Tryz.prog 94 #[.pointer (some ⟨b,0,none⟩),.int .u64 1] w λe w'=>∃a c',e=.returned (.int .i64 1)∧Mut (λk=>k=b∨w.heap.size≤k) w w'∧Zc w' b 149 [.int .u64 1,.slice a 0 c']:=by
 have CF:=hid (lFrom hB (.inr rfl))
 have HB:=hid hB
 clear hB
 go_enter Tryz.func94,Tryz.ntmps94
 go_wp2_with fail
 refine CF.out.mono ?_
 rintro e w2 ⟨rfl,hb2⟩
 have HB2:=hid (HB.out.ext hb2)
 have CP:=hid (lPlace HB2.out)
 have c1:=HB2.out.cell (j:=1) rfl
 have HW2:=hid hb2
 clear CF hb2 HB
 go_wp2_with fail
 refine CP.out.mono ?_
 rintro e w3 ⟨rfl,hb3⟩
 have HB3:=hid (HB2.out.ext hb3)
 have HW3:=hid (HW2.out.trans (hb3.mono HW2.out.size))
 clear c1 CP hb3 HB2 HW2
 have c1:=HB3.out.cell (j:=1) rfl
 have fz:=HB3.out.frozen
 go_wp2_with fail
 all_goals
  go_ret
  exact ⟨rfl,Zf (G:=λk=>k=b∨w.heap.size≤k) ((Mut.of_below HW3.out).mono λk _ e=>.inr e) b _ _ (.inl rfl),_,_,HB3.out.set (j:=1)⟩
theorem qFirst (hB:Zc w b 159 [.int .u64 v,.int .u64 1,.slice a 1 c]):Calls Tryz.prog 192 #[.pointer (some ⟨b,0,none⟩)] w λe w'=>e=.returned (.int .u64 1)∧Below w.heap.size w w':=by
 have c1:=Za (hB.cell (j:=1) rfl)
 have c2:=Za (hB.cell (j:=2) rfl)
 clear hB
 go_enter Tryz.func192,Tryz.ntmps192
 go_upto_region 1 with fail
 refine Ze (w:=w) (Below.refl _ _) (by kernel_rfl) (by kernel_rfl) ?_
 repeat (go_big_quiet_step (fail))
 refine wpQuiet_nil ?_
 rintro w9 ⟨⟨_,hb9⟩,rfl⟩
 go_wp2_with fail
 go_ret
 exact ⟨by rfl,hb9⟩
theorem qList0 (hB:Zc w b 159 [.int .u64 v,.int .u64 l,.slice a 0 c]):Calls Tryz.prog 95 #[.pointer (some ⟨b,0,none⟩)] w λe w'=>e=.returned (.slice none 0 0)∧w'=w:=by
 have c2:=hB.cell (j:=2) rfl
 clear hB
 go_enter Tryz.func95,Tryz.ntmps95
 go_wp2_with fail
 go_loopw [3,13] (λx i wr=>x=.slice none 0 0∧i=.int .i64 0∧wr=w) (λ_ _ _=>0)
 case atStart=>exact ⟨rfl,rfl,rfl⟩
 case round =>
  obtain ⟨rfl,rfl,rfl⟩:=hrel
  go_wp2_with fail
  go_ret
  exact ⟨rfl,rfl⟩
theorem aAdvance {p0 p1 p2:Int} {s t:Nat} {has:Value} (hB:Zc w b 250 (acC s p0 p1 p2 has)) (hs:s<t):Calls Tryz.prog 313 #[.pointer (some ⟨b,0,none⟩),.int .u64 t] w λe w'=>e=.returned (.bool true)∧Mut (λk=>k=b) w w'∧Zc w' b 250 (acC t p0 p1 p2 (.pointer none)):=by
 have c0:=hB.cell (j:=0) rfl
 have c4:=hB.cell (j:=4) rfl
 have fz:=hB.frozen
 have g1:decide ((t:Int)≤(s:Int))=false:=decide_eq_false (by omega)
 have g2:decide (t≤s)=false:=decide_eq_false (by omega)
 have HB:=hid hB
 clear hB hs
 go_enter Tryz.func313,Tryz.ntmps313
 go_wp2_with fail
 go_ret
 exact ⟨rfl,Zf (G:=λk=>k=b) (Zf (G:=λk=>k=b) (Mut.refl _ _) b _ _ rfl) b _ _ rfl,(HB.out.set (j:=0) (v:=.int .u64 t)).set (j:=4) (v:=.pointer none)⟩
end
theorem Qt.less {w:World} {N N':Nat→Prop} {s:Nat} {wv:Value} {us:List Value} {d:SndD} (h:Qt w N s wv us d) (hs:N' s) (hw:∀g,wv.ownBlock=some g→N' g) (h2:∀b,N' b→N b∨w.heap.size≤b):Qt w N' s wv us d :=
 ⟨h.box,h.row,h.it.grow h2,hs,λg e=>⟨hw g e,(h.nw g e).2⟩,h.b0,h.b2,h.b3,h.b4,h.b5,h.bl⟩
theorem Mut.transG {F G:Nat→Prop} {a b c:World} (h:Mut F a b) (k:Mut G b c) (hG:∀i,i<a.heap.size→G i→F i):Mut F a c :=
 ⟨k.os.trans h.os,k.tape.trans h.tape,k.output.trans h.output,Nat.le_trans h.size k.size,λi hi hf=>(k.block i (Nat.lt_of_lt_of_le hi h.size) λe=>hf (hG i hi e)).trans (h.block i hi hf)⟩
open Go.Instr Go.MapKept
abbrev ke64:Nat→Value:=λx=>.int .u64 (x:Int)
theorem key64 (K:TypeId) (hK:Tryz.prog.underlying K=some (.int .u64)):Kz Tryz.prog K ke64 where
 find:=by
  intro x L es w h
  simp only [findKey,Sem.run_bind,run_underlying hK,Result.andThen]
  have:∀(es:List MapEntry) (L:List (Nat × Value)) (i:Nat),es.map (λe=>(e.key,e.val))=L.map (λp=>(ke64 p.1,p.2))→findNow (.int .u64) (ke64 x) es i=some (Yk x L i):=by
   intro es
   induction es with
   | nil=>intro L i h;cases L with | nil=>rfl | cons _ _=>simp at h
   | cons e es ih =>
    intro L i h
    cases L with
    | nil=>simp at h
    | cons p L =>
     simp only [List.map_cons,List.cons.injEq,Prod.mk.injEq] at h
     obtain ⟨⟨h1,h2⟩,h3⟩:=h
     simp only [findNow,h1,sameNow,Yk,if_true]
     by_cases hx:x=p.1
     ·simp [hx,h2]
     ·have hb:((x:Int) == (p.1:Int))=false:=by simp;omega
      simp [hx,hb,ih L (i+1) h3]
  rw [this es L 0 h]
  simp
 check:=by intro b x w;exact run_checkKey (n:=9999) hK (by simp [IsKey]) b
 same:=by intro x;simp [sameBits]
theorem key64_t:Kz Tryz.prog 32 ke64:=key64 32 Tryz.underlying32
structure Box4 (w:World) (b:Nat) (v0 v1 v2 v3:Value):Prop where
 c0:w.cell? ⟨b,0,none⟩=some v0
 c1:w.cell? ⟨b,1,none⟩=some v1
 c2:w.cell? ⟨b,2,none⟩=some v2
 c3:w.cell? ⟨b,3,none⟩=some v3
 f:∀j,w.frozen? ⟨b,j,none⟩=false
section
variable {w w':World} {b:Nat} {v0 v1 v2 v3:Value}
theorem Box4.lt (h:Box4 w b v0 v1 v2 v3):b<w.heap.size:=World.block_lt_of_cell? w _ h.c0
theorem Box4.mut {G:Nat→Prop} (h:Box4 w b v0 v1 v2 v3) (hm:Mut G w w') (hG:¬ G b):Box4 w' b v0 v1 v2 v3 :=
 ⟨(hm.cell h.lt hG).trans h.c0,(hm.cell h.lt hG).trans h.c1,(hm.cell h.lt hG).trans h.c2,(hm.cell h.lt hG).trans h.c3,λj=>(World.frozen?_of_block (w:=w) (a:=⟨b,j,none⟩) (hm.block b h.lt hG)).trans (h.f j)⟩
end
structure LnkD where
 snd:SndD
 upto:Nat
 held:List (Nat × List Nat)
 owes:Bool
structure LnkP where
 lb:Nat
 sb:Nat
 hm:Nat
 wv:Value
def fpL (p:LnkP) (b:Nat):Prop:=b=p.lb∨b=p.sb∨b=p.hm∨p.wv.ownBlock=some b
def zcd (w:World) (N:Nat→Prop):List (Nat × Value)→List (Nat × List Nat)→Prop
 | [],[]=>True
 | (q,u) :: l,(q',b) :: m=>q=q'∧KF w N u b∧zcd w N l m
 | _,_=>False
theorem zcd.mono {w w':World} {N N':Nat→Prop} (h:∀u b,KF w N u b→KF w' N' u b):∀{l:List (Nat × Value)} {m:List (Nat × List Nat)},zcd w N l m→zcd w' N' l m
 | [],[],_=>trivial
 | (q,u) :: l,(q',b) :: m,hl=>⟨hl.1,h u b hl.2.1,zcd.mono h hl.2.2⟩
 | [],_ :: _,hl=>hl.elim
 | _ :: _,[],hl=>hl.elim
def Gl (w:World) (N:Nat→Prop) (hm:Nat) (held:List (Nat × List Nat)):Prop :=
 ∃hvs:List (Nat × Value),Zj w hm ke64 (λv=>v) hvs∧zcd w N hvs held
theorem Gl.mut {w w':World} {N G:Nat→Prop} {hm:Nat} {held:List (Nat × List Nat)} (h:Gl w N hm held) (hmu:Mut G w w') (hG:∀b,b<w.heap.size→G b→N b) (hf:¬ G hm):Gl w' N hm held:=by
 obtain ⟨hvs,h1,h2⟩:=h
 exact ⟨hvs,h1.same (hmu.block _ h1.lt hf),h2.mono λu b e=>e.mut hmu hG⟩
theorem Gl.grow {w:World} {N N':Nat→Prop} {hm:Nat} {held:List (Nat × List Nat)} (h:Gl w N hm held) (hN:∀b,N' b→N b∨w.heap.size≤b):Gl w N' hm held:=by
 obtain ⟨hvs,h1,h2⟩:=h
 exact ⟨hvs,h1,h2.mono λu b e=>e.grow hN⟩
structure VC (w:World) (N:Nat→Prop) (p:LnkP) (d:LnkD):Prop where
 box:Box4 w p.lb (.pointer (some ⟨p.sb,0,none⟩)) (.int .u64 d.upto) (.map (some p.hm)) (.bool d.owes)
 snd:∃us,Qt w N p.sb p.wv us d.snd
 held:Gl w N p.hm d.held
 hlt:p.hm<w.heap.size
 nl:N p.lb
 nh:N p.hm
 d1:p.lb≠p.sb
 d2:p.lb≠p.hm
 d3:p.sb≠p.hm
 d4:∀g,p.wv.ownBlock=some g→g≠p.lb∧g≠p.hm
 u0:d.upto<18446744073709551616
section
variable {w w':World} {N N' G:Nat→Prop} {p:LnkP} {d:LnkD}
theorem VC.ns (h:VC w N p d):N p.sb:=by obtain ⟨us,hs⟩:=h.snd;exact hs.ns
theorem VC.nw (h:VC w N p d):∀g,p.wv.ownBlock=some g→N g∧g≠p.sb:=by obtain ⟨us,hs⟩:=h.snd;exact hs.nw
theorem VC.fp (h:VC w N p d):∀b,fpL p b→N b:=λb e=>by
 rcases e with e | e | e | e
 ·rw [e];exact h.nl
 ·rw [e];exact h.ns
 ·rw [e];exact h.nh
 ·exact (h.nw b e).1
theorem VC.fplt (h:VC w N p d):∀b,fpL p b→b<w.heap.size:=λb e=>by
 obtain ⟨us,hs⟩:=h.snd
 rcases e with e | e | e | e
 ·rw [e];exact h.box.lt
 ·rw [e];exact hs.box.lt
 ·rw [e];exact h.hlt
 ·exact (hs.row.blk e).2
theorem VC.mut (h:VC w N p d) (hm:Mut G w w') (hG:∀b,b<w.heap.size→G b→N b) (hf:∀b,fpL p b→¬ G b):VC w' N p d:=by
 obtain ⟨us,hs⟩:=h.snd
 refine ⟨h.box.mut hm (hf _ (.inl rfl)),⟨us,hs.mut hm hG λb e=>hf b (e.elim (λe=>.inr (.inl e)) λe=>.inr (.inr (.inr e)))⟩,h.held.mut hm hG (hf _ (.inr (.inr (.inl rfl)))),?_,h.nl,h.nh,h.d1,h.d2,h.d3,h.d4,h.u0⟩
 have:=h.hlt;have:=hm.size;omega
theorem VC.less (h:VC w N p d) (hf:∀b,fpL p b→N' b) (hN:∀b,N' b→N b∨w.heap.size≤b):VC w N' p d:=by
 obtain ⟨us,hs⟩:=h.snd
 exact ⟨h.box,⟨us,hs.less (hf _ (.inr (.inl rfl))) (λg e=>hf _ (.inr (.inr (.inr e)))) hN⟩,h.held.grow hN,h.hlt,hf _ (.inl rfl),hf _ (.inr (.inr (.inl rfl))),h.d1,h.d2,h.d3,h.d4,h.u0⟩
theorem VC.sent {wv':Value} {us':List Value} {sd:SndD} (h:VC w N p d) (hm:Mut (fpS p.sb p.wv) w w') (hNN:∀b,N b→N' b) (hN:∀b,N' b→N b∨w.heap.size≤b) (hs:Qt w' N' p.sb wv' us' sd) (hnew:∀g,wv'.ownBlock=some g→p.wv.ownBlock=some g∨w.heap.size≤g):VC w' N' { p with wv:=wv' } { d with snd:=sd }:=by
 have n1:∀b,fpS p.sb p.wv b→b≠p.lb∧b≠p.hm:=λb e=>by
  rcases e with e | e
  ·rw [e];exact ⟨λe=>h.d1 e.symm,h.d3⟩
  ·exact h.d4 b e
 have hG:∀b,b<w.heap.size→fpS p.sb p.wv b→N' b:=λb _ e=>hNN b (h.fp b (e.elim (λe=>.inr (.inl e)) λe=>.inr (.inr (.inr e))))
 refine ⟨h.box.mut hm λe=>(n1 _ e).1 rfl,⟨us',hs⟩,(h.held.grow hN).mut hm hG λe=>(n1 _ e).2 rfl,?_,hNN _ h.nl,hNN _ h.nh,h.d1,h.d2,h.d3,λg e=>?_,h.u0⟩
 ·exact Nat.lt_of_lt_of_le h.hlt hm.size
 ·rcases hnew g e with e | e
  ·exact h.d4 g e
  ·have h1:=h.box.lt
   have h2:=h.hlt
   exact ⟨λe2=>absurd (show g=p.lb from e2) (by omega),λe2=>absurd (show g=p.hm from e2) (by omega)⟩
end
end Go.Proofs.YtcdpaflmofljaaaGreat
namespace Go.Proofs.YtcdpaflmofljaaaGreat
open Go.RowKit Go.Shelf
attribute [local go_sem] Oper.semAt_some
abbrev ptrV:Nat→Value:=λb=>.pointer (some ⟨b,0,none⟩)
theorem Fw {w w':World} (h:Below w.heap.size w w'):w.grownBy w' none:=⟨h.os,h.tape,h.output,h.size,λk hk _=>h.block k hk⟩
theorem zaX {w w':World} {t:Nat} (h:But t w w'):w.grownBy w' (some t):=⟨h.os,h.tape,h.output,by rw [h.size];exact Nat.le_refl _,λk _ hne=>h.block k λe=>hne (by rw [e])⟩
theorem Zn.walks {α β:Type} {ke:α→Value} {ve:β→Value} {r t:Nat} {L left:List (α × β)} {w w':World} (h:Zn w r t ke ve L left) (hk:KeepsWalks w w'):Zn w' r t ke ve L left:=by
 obtain ⟨es,clock,since,seen,h1,h2,h3,h4,h5⟩:=h
 exact ⟨es,clock,since,seen,hk.same _ _ h1 rfl,h2,h3,hk.same _ _ h4 rfl,h5⟩
theorem Zn.iter {α β:Type} {ke:α→Value} {ve:β→Value} {r t:Nat} {L left:List (α × β)} {w:World} (h:Zn w r t ke ve L left):∃o:Obj,w.heap[t]?=some o∧o.isWalk=true:=by
 obtain ⟨es,clock,since,seen,-,-,-,h4,-⟩:=h
 exact ⟨_,h4,rfl⟩
section
variable {α β:Type} [DecidableEq α] {ke:α→Value} {ve:β→Value} {F:Fence} {n:Nat} {P:Program} {K:TypeId} {w:World} {r t:Nat} {L left:List (α × β)} {ops:Array Oper} {rest:List Oper} {o:Oper} {a:Act} {Q:Exit→Act→World→Prop}
theorem JD (hM:Zj w r ke ve L) {ty K e:TypeId} (ht:P.underlying ty=some (.map K e)) {m:Operand} (hg:o.guard=none) (hop:o.op=Op.range ty m) (hm:a.eval m=.map (some r))
  (hK:∀w',Zn w' r w.heap.size ke ve L L→Below w.heap.size w w'→wpListIn F n P ops Q rest (a.put o.dst (.pointer (some ⟨w.heap.size,0,none⟩))) w'):wpListIn F n P ops Q (o :: rest) a w:=by
 refine wpListIn_plain hg λK' hK'=>?_
 obtain ⟨w',hrun,r1,r2⟩:=hM.range ht
 unfold Oper.wpIn
 refine ⟨by simp [Oper.about,hop],?_⟩
 rw [Oper.semAt_plain F _ _ (by rw [hop];intro c hc';cases hc')]
 simp [execOp,hop,hm,hrun,Result.andThen]
 exact hK' _ _ (hK w' r1 r2)
theorem JX (h:Zn w r t ke ve L left) {it:Operand} (hg:o.guard=none) (hop:o.op=Op.next it false) (hit:a.eval it=.pointer (some ⟨t,0,none⟩))
  (hDone:Hid (left=[])→wpListIn F n P ops Q rest (a.put o.dst (.tuple #[.bool false])) w)
  (hMore:∀(p:α × β) (s u:List (α × β)) (w':World),Hid (left=s ++ p :: u)→Zn w' r t ke ve L (s ++ u)→But t w w'→(Instr.entry (.pointer (some ⟨t,0,none⟩))).run P w'=.ok (.tuple #[ke p.1,ve p.2]) w' →
   wpListIn F n P ops Q rest (a.put o.dst (.tuple #[.bool true,ke p.1,ve p.2])) w'):wpListIn F n P ops Q (o :: rest) a w:=by
 refine wpListIn_plain hg λK' hK'=>?_
 unfold Oper.wpIn
 refine ⟨by simp [Oper.about,hop],?_⟩
 rw [Oper.semAt_plain F _ _ (by rw [hop];intro c hc';cases hc')]
 rcases h.next (P:=P) o.type with ⟨hl,hrun⟩ | ⟨p,s,u,w',hl,hrun,hR,hB,hE⟩
 ·simp [execOp,hop,hit,hrun,Result.andThen]
  exact hK' _ _ (hDone hl)
 ·simp [execOp,hop,hit,hrun,Result.andThen]
  exact hK' _ _ (hMore p s u w' hl hR hB hE)
end
set_option maxRecDepth 100000 in
set_option maxHeartbeats 4000000 in
theorem keys1_in (F:Fence) (n:Nat) (hf:F.fn 300) (hro:F.round=none) (hn:1≤n) (l Bm r:Nat) (L:List (Pid × Nat)) (J Jx:List Pid→World→Prop)
  (hY:∀pre x W,J pre W→pre.length<L.length→YieldAt F (n - 1) Tryz.prog l #[Yg x] W λe W'=>(e=.returned (.bool true)∧J (pre ++ [x]) W'∧KeepsWalks W W')∨(e=.returned (.bool false)∧Jx (pre ++ [x]) W'))
  (W:World) (hJ:AbidesFrom W.heap.size J) (hm:W.cell? ⟨Bm,0,none⟩=some (.map (some r))) (hM:Zj W r Yg ptrV L) (h0:J [] W) :
  CallsIn F n Tryz.prog 300 #[.func (.yield l) #[] #[],.pointer (some ⟨Bm,0,none⟩)] W λe W'=>(∃v,e=.returned v)∧((∃xs:List Pid,xs.Perm (L.map (·.1))∧J xs W')∨(∃pre,True∧Jx pre W')):=by
 refine callsIn_of_wp Tryz.func300 rfl hf ?_ hro
 simp only [Tryz.ntmps300,List.size_toArray,List.length_cons,List.length_nil,Nat.reduceAdd,Nat.reduceSub,Array.replicate_succ,Array.replicate_zero,List.push_toArray,List.append_toArray,List.nil_append,List.cons_append]
 gi_wp2_with (first
  | (gi_at_range;refine JD hM Tryz.underlying161 rfl rfl rfl ?_;intro w0 hR0 hb0)
  | gi_in)
 go_frame
 gi_loopw [3] (λ_ wr=>∃(got:List Pid) (left:List (Pid × Nat)),Zn wr r W.heap.size Yg ptrV L left∧Hid ((got ++ left.map (·.1)).Perm (L.map (·.1)))∧got.length+left.length=L.length∧J got wr) (λ_ wr=>wr.rangeLeft r W.heap.size)
 case atStart =>
  exact ⟨[],L,hR0,hid (List.Perm.refl _),by simp,hJ [] W w0 none h0 (Fw hb0) (λr e=>by cases e)⟩
 case round =>
  obtain ⟨got,left,hR,hP,hlen,hJs⟩:=hrel
  have HLEN:=hid hlen
  have HLM:=hid hR.left_eq
  clear hlen
  gi_wp2_with (first
   | (gi_at_next;refine JX hR rfl rfl rfl ?_ ?_)
   | gi_in)
  ·intro hl
   gi_wp2
   go_end0
   exact ⟨⟨_,rfl⟩,.inl ⟨got,by have:=hP.out;rw [hl.out] at this;simpa using this,hJs⟩⟩
  ·intro x y u0 s1 s2 w1 hl hR1 hbut hen
   have hJ2:J got w1:=hJ got wr w1 (some W.heap.size) hJs (zaX hbut) (λr e=>by cases e;exact ⟨Nat.le_refl _,hR.iter⟩)
   obtain ⟨w2,hw2⟩:∃w2,w1.alloc (.cells #[.int .u16 x,.int .u32 y] 25)=w2:=⟨_,rfl⟩
   have hJ3:J got w2:=by rw [←hw2];exact hJ got w1 _ none hJ2 (World.grownBy_alloc w1 _ none) (λr e=>by cases e)
   have hR2:Zn w2 r W.heap.size Yg ptrV L (s1 ++ s2):=by rw [←hw2];exact hR1.ext (bra)
   have hc0:w2.cell? ⟨w1.heap.size,0,none⟩=some (.int .u16 x):=by rw [←hw2];simp
   have hc1:w2.cell? ⟨w1.heap.size,1,none⟩=some (.int .u32 y):=by rw [←hw2];simp
   have HL:=hid hl
   have HLT2:Hid ((got ++ [(x,y)]).length+(s1 ++ s2).length=L.length):=hid (by
    have h1:=HLEN.out
    have e:left.length=s1.length+(s2.length+1):=by rw [hl.out];simp
    simp;omega)
   have hlt:got.length<L.length:=by
    have h1:=HLEN.out
    have e:left.length=s1.length+(s2.length+1):=by rw [hl.out];simp
    omega
   obtain ⟨fn,tmps,assign,body,hy,hRd⟩:=hY got (x,y) w2 hJ3 hlt
   gi_wp2
   refine hRd.mono ?_
   rintro e W3 (⟨rfl,hJ4,hk4⟩ | ⟨rfl,hJx4⟩)
   ·gi_wp2
    have hR4:=hR2.walks hk4
    have HL4:=hid hR4.left_eq
    go_roundw
    case rel=>exact ⟨got ++ [(x,y)],s1 ++ s2,hR4,hid ((List.Perm.trans (by rw [HL.out,List.append_assoc];simp only [List.map_append,List.map_cons];exact List.Perm.append_left _ (by simpa using List.perm_middle.symm)) hP.out)),HLT2.out,hJ4⟩
    case measure=>rw [HL4.out,HLM.out,HL.out];simp
   ·gi_wp2
    refine bodyPost_ret (results_none rfl _ _ _) rfl ?_
    exact ⟨⟨_,rfl⟩,.inr ⟨got ++ [(x,y)],trivial,hJx4⟩⟩
theorem zcj (F:Fence) (n:Nat) (hf:F.fn 300) (hro:F.round=none) (hn:1≤n) (Bm r:Nat) (L:List (Pid × Nat)) (w:World) (hB:Bm<w.heap.size) (hm:w.cell? ⟨Bm,0,none⟩=some (.map (some r))) (hM:Zj w r Yg ptrV L) :
  SeqStopsK F n Tryz.prog 300 #[.pointer (some ⟨Bm,0,none⟩)] (λx:Pid=>#[Yg x]) KeepsWalks (λxs=>xs.Perm (L.map (·.1))) (λ_=>True) L.length w:=λl J Jx W hW hJ _ hY h0 =>
 keys1_in F n hf hro hn l Bm r L J Jx hY W hJ ((hW.cell (p:=⟨Bm,0,none⟩) hB).trans hm) (hM.ext hW) h0
theorem zce (r:Nat) (w:World):Calls Tryz.prog 214 #[.map (some r)] w λe w'=>e=.returned (.func (.func 300) #[] #[.pointer (some ⟨w.heap.size,0,none⟩)])∧w'=w.alloc (.cells #[.map (some r)] 161):=by
 go_enter Tryz.func214,Tryz.ntmps214
 go_wp2
 go_ret
 exact ⟨rfl,rfl⟩
def zb5 (W:World) (B:Nat) (x:Pid):Prop:=W.heap[B]?=some (.cells #[.int .u16 x.1,.int .u32 x.2] 25 (0,0))
theorem zb5.cells {W:World} {B:Nat} {x:Pid} (h:zb5 W B x):W.cell? ⟨B,0,none⟩=some (.int .u16 x.1)∧W.cell? ⟨B,1,none⟩=some (.int .u32 x.2):=by
 constructor <;> simp [World.cell?,show W.heap[B]?=_ from h]
theorem zcv (B:Nat) (x:Pid):Own (λ(_:Unit) W=>zb5 W B x):=λ_ W W' row hs hg hr=>by
 have e:=grownBy_keeps_cells hg hr hs rfl
 exact e.trans hs
theorem Fu (W:World) (x y:Int):∀j u,[Value.int .u16 x,Value.int .u32 y][j]?=some u→(W.alloc (.cells #[.int .u16 x,.int .u32 y] 25)).cell? ((⟨W.heap.size,0,none⟩:Addr).add j)=some u:=λj u hj=>by
 rw [YN,Nat.zero_add]
 match j,hj with
 | 0,hj=>simp at hj;subst hj;simp
 | 1,hj=>simp at hj;subst hj;simp
 | j+2,hj=>simp at hj
set_option maxRecDepth 100000 in
set_option maxHeartbeats 8000000 in
theorem EC (F:Fence) (n:Nat) (h58:F.fn 299) (hf:F.fn 300) (hro:F.round=none) (hn:3≤n) (Bm r:Nat) (L:List (Pid × Nat)) (w:World) (hB:Bm<w.heap.size) (hm:w.cell? ⟨Bm,0,none⟩=some (.map (some r))) (hM:Zj w r Yg ptrV L) (hL:L.length≤1000000) :
  CallsIn F n Tryz.prog 299 #[.slice none 0 0,.func (.func 300) #[] #[.pointer (some ⟨Bm,0,none⟩)]] w λe w'=>∃v xs,e=.returned v∧Zy w' w.heap.size v xs∧xs.Perm (L.map (·.1))∧Below w.heap.size w w':=by
 have h1:1≤n:=by omega
 obtain ⟨i0,hi,hz0,hz1,hz2⟩:=info_parts EE
 refine callsIn_of_wp_marks Tryz.func299 rfl h58 ?_ hro
 simp only [Tryz.ntmps299,List.size_toArray,List.length_cons,List.length_nil,Nat.reduceAdd,Nat.reduceSub,Array.replicate_succ,Array.replicate_zero,List.push_toArray,List.append_toArray,List.nil_append,List.cons_append]
 gi_wp2
 have bB:=Boxed.new w 26 (.slice none 0 0)
 obtain ⟨W0,hW0⟩:∃W0,w.alloc (.cells #[.slice none 0 0] 26)=W0:=⟨_,rfl⟩
 have hB0:Below w.heap.size w W0:=by rw [←hW0];exact (Below.refl _ w).alloc (Nat.le_refl _) _
 have hsz:W0.heap.size=w.heap.size+1:=by rw [←hW0];simp
 rw [hW0] at bB ⊢
 clear hW0
 refine wpIn_rangeFunc_ownH hro h1 (gf:=300) (lb:=#[.pointer (some ⟨Bm,0,none⟩)]) rfl hf (enters_of Tryz.func300 (by kernel_rfl) rfl)
  (zcj F (n - 1) hf hro (by omega) Bm r L W0 (by omega) ((hB0.cell (by exact hB)).trans hm) (hM.ext hB0)) walksK_t walksK_b (Below.refl _ _) (λ_=>rfl)
  (λpre W=>(∃v,Boxed W w.heap.size 26 v∧W.ownsRow w.heap.size 25 2 v pre.length (ZD pre)∧True)∧Below w.heap.size w W)
  (λ_ _ _=>False)
  (OwnFrom.and (Own.from (holdsRow_own w.heap.size w.heap.size 26 25 2 (λpre:List Pid=>pre.length) (λpre=>ZD pre) (λ_ _=>True)) _) (ownFrom_below (Nat.le_refl _) (by omega)))
  (λ_ _ _ _ _ hs _ _=>hs)
  ⟨⟨_,bB,World.ownsRow_nil _ _ _ _,trivial⟩,hB0⟩
  (λx a' W=>∃Bx,w.heap.size<Bx∧zb5 W Bx x∧a'={ tmps:=#[.slice none 0 0,.func (.func 300) #[] #[.pointer (some ⟨Bm,0,none⟩)],.pointer (some ⟨w.heap.size,0,none⟩),undef,.slice none 0 0,.pointer (some ⟨Bx,0,none⟩),.func (.func 300) #[] #[.pointer (some ⟨Bm,0,none⟩)],Yg x,undef,undef,undef,undef,undef],defers:=[] })
  (λx a' _ X Y row hs hg hr=>by obtain ⟨Bx,h1,h2,h3⟩:=hs;exact ⟨Bx,h1,zcv Bx x () X Y row h2 hg (λr e=>(hr r e).2),h3⟩)
  ?assign ?body ?done ?stop
 case assign =>
  rintro l pre ⟨x,y⟩ W K ⟨⟨v,bv,hr,-⟩,hB1⟩ hK
  gi_wp2
  refine hK _ _ ((KeepsOthers.alloc _ _).from _) (KeepsWalks.alloc _ _) ⟨⟨v,bv.alloc _,hr.alloc _,trivial⟩,hB1.alloc hB1.size _⟩ ⟨W.heap.size,by have:=bv.lt;omega,World.alloc_heap_new W _,rfl⟩
 case body =>
  rintro l pre ⟨x,y⟩ a' W hl ⟨rr,hrr⟩ ⟨⟨v,bv,hrow,-⟩,hB1⟩ ⟨Bx,hBx,bX,rfl⟩ hlt
  have cv:=bv.cell
  have fv:=bv.frozen
  obtain ⟨cx,cy⟩:=bX.cells
  have hbz:=hB1.size
  gi_wp2_with (first
   | (gi_at_builtin;refine wpListIn_append_own _ rfl _ _ 26 rfl w.heap.size 25 i0 _ 2 8 Tryz.underlying26 hi hz0 hz1 hz2 rfl (by decide) _ _ _ rfl (hrow.alloc _) ⟨W.heap.size,0,none⟩ 1 1 [.int .u16 x,.int .u32 y] rfl rfl (Fu W x y) (λu hu=>by simp at hu;rcases hu with rfl | rfl <;> rfl) (by unfold maxLen;omega) (by omega) (by simp;omega) ?_;intro v' w1 hown' hgrow _;obtain ⟨g',cap',rfl⟩:=ownsRow_succ hown';obtain ⟨hv1,hv2,hr2,hk2,hb2⟩:=bv.appended (by decide) hrow hbz (Nat.le_refl _) hown' hgrow;have hc1:=hv1.cell;have hf1:=hv1.frozen)
   | gi_in)
  have hr3:(w1.setCell ⟨w.heap.size,0,none⟩ (.slice (some ⟨g',0,none⟩) (pre.length+1) cap')).ownsRow w.heap.size 25 2 (.slice (some ⟨g',0,none⟩) (pre.length+1) cap') (pre ++ [(x,y)]).length (ZD (pre ++ [(x,y)])):=by
   rw [Xi,List.length_append];exact hr2
  exact ⟨hk2.from _,hk2.walks,⟨_,hv2,hr3⟩,hB1.trans hb2⟩
 case done =>
  rintro D xs W hD hP ⟨⟨v,bv,hrow,-⟩,hB1⟩ hK
  have cv:=bv.cell
  gi_wp2
  refine ⟨by simp,.inl ⟨_,_,rfl,run_takeDeferred hK,?_⟩⟩
  exact ⟨_,results_tmp rfl _ _ _,v,xs,rfl,ownsRow_putObj hrow _ hK rfl,hP,hB1.trans (belowK_b (w:=w) (Nat.le_refl _) W D _ _ (by omega) hK rfl rfl)⟩
 case stop =>
  rintro D c pre W _ _ h _
  exact h.elim
end Go.Proofs.YtcdpaflmofljaaaGreat
namespace Go.Proofs.YtcdpaflmofljaaaGreat
open Go.RowKit
def takeNo (d:LnkD) (q:Nat):Prop:=(Yz q d.held).isSome=true∨q≤d.upto∨16<q - d.upto
instance (d:LnkD) (q:Nat):Decidable (takeNo d q):=by unfold takeNo;infer_instance
theorem zbd (Bm r:Nat) (L:List (Pid × Nat)) (w:World) (hB:Bm<w.heap.size) (hm:w.cell? ⟨Bm,0,none⟩=some (.map (some r))) (hM:Zj w r Yg ptrV L) (hL:L.length≤1000000) :
    Calls Tryz.prog 213 #[.func (.func 300) #[] #[.pointer (some ⟨Bm,0,none⟩)]] w λe w'=>∃v xs,e=.returned v∧Zy w' w.heap.size v xs∧xs.Perm (L.map (·.1))∧Below w.heap.size w w':=by
  have CA:Calls Tryz.prog 299 #[.slice none 0 0,.func (.func 300) #[] #[.pointer (some ⟨Bm,0,none⟩)]] w λe w'=>∃v xs,e=.returned v∧Zy w' w.heap.size v xs∧xs.Perm (L.map (·.1))∧Below w.heap.size w w' :=
    callsIn_wide.1 (EC Fence.wide 3 trivial trivial rfl (Nat.le_refl _) Bm r L w hB hm hM hL)
  go_enter Tryz.func213,Tryz.ntmps213
  go_wp2_with (go_at_call 299;refine CA.mono ?_;rintro e w1 ⟨v,xs,rfl,h1,h2,h3⟩)
  go_ret
  exact ⟨_,xs,rfl,h1,h2,h3⟩
structure Qk where
  p:Pid
  k:LnkP
  d:LnkD
def fpH (h r:Nat) (L:List Qk) (b:Nat):Prop:=b=h∨b=r∨∃x∈L,fpL x.k b
structure Yf (w:World) (N:Nat→Prop) (h r:Nat) (sf:Pid) (L:List Qk):Prop where
  c0:w.cell? ⟨h,0,none⟩=some (.int .u16 sf.1)
  c1:w.cell? ⟨h,1,none⟩=some (.int .u32 sf.2)
  c2:w.cell? ⟨h,2,none⟩=some (.map (some r))
  hn:N h
  rn:N r
  hr:h≠r
  map:Zj w r Yg ptrV (L.map λx=>(x.p,x.k.lb))
  lnk:∀x∈L,VC w N x.k x.d
  out:∀x∈L,∀b,fpL x.k b→b≠h∧b≠r
  dis:L.Pairwise λx y=>∀b,fpL x.k b→¬ fpL y.k b
  nd:(L.map (·.p)).Nodup
  lim:L.length≤48
  oks:∀x∈L,ok x.p
section
variable {w w':World} {N N' G:Nat→Prop} {h r:Nat} {sf:Pid} {L:List Qk}
theorem Yf.lt (H:Yf w N h r sf L):h<w.heap.size:=World.block_lt_of_cell? w _ H.c0
theorem Yf.fp (H:Yf w N h r sf L):∀b,fpH h r L b→N b:=λb e=>by
  rcases e with e | e | ⟨x,hx,e⟩
  · rw [e];exact H.hn
  · rw [e];exact H.rn
  · exact (H.lnk x hx).fp b e
theorem Yf.fplt (H:Yf w N h r sf L):∀b,fpH h r L b→b<w.heap.size:=λb e=>by
  rcases e with e | e | ⟨x,hx,e⟩
  · rw [e];exact H.lt
  · rw [e];exact H.map.lt
  · exact (H.lnk x hx).fplt b e
theorem Yf.mut (H:Yf w N h r sf L) (hm:Mut G w w') (hG:∀b,b<w.heap.size→G b→N b) (hf:∀b,fpH h r L b→¬ G b):Yf w' N h r sf L :=
  ⟨(hm.cell (by exact H.lt) (hf _ (.inl rfl))).trans H.c0,(hm.cell (by exact H.lt) (hf _ (.inl rfl))).trans H.c1,(hm.cell (by exact H.lt) (hf _ (.inl rfl))).trans H.c2,H.hn,H.rn,H.hr,H.map.same (hm.block _ H.map.lt (hf _ (.inr (.inl rfl)))),λx hx=>(H.lnk x hx).mut hm hG λb e=>hf b (.inr (.inr ⟨x,hx,e⟩)),H.out,H.dis,H.nd,H.lim,H.oks⟩
theorem Yf.ext (H:Yf w N h r sf L) (hb:Below w.heap.size w w'):Yf w' N h r sf L :=
  H.mut (Mut.of_below (F:=λ_=>False) hb) (λ_ _ e=>e.elim) λ_ _ e=>e
theorem Yf.less (H:Yf w N h r sf L) (hf:∀b,fpH h r L b→N' b) (hN:∀b,N' b→N b∨w.heap.size≤b):Yf w N' h r sf L :=
  ⟨H.c0,H.c1,H.c2,hf _ (.inl rfl),hf _ (.inr (.inl rfl)),H.hr,H.map,λx hx=>(H.lnk x hx).less (λb e=>hf b (.inr (.inr ⟨x,hx,e⟩))) hN,H.out,H.dis,H.nd,H.lim,H.oks⟩
theorem Yf.turn {A B:List Qk} {x:Qk} {k:LnkP} {d:LnkD} (H:Yf w N h r sf (A ++ x :: B)) (hm:Mut (fpL x.k) w w') (hNN:∀b,N b→N' b) (hN:∀b,N' b→N b∨w.heap.size≤b) (hl:VC w' N' k d) (hlb:k.lb=x.k.lb) (hfk:∀b,fpL k b→fpL x.k b∨w.heap.size≤b):Yf w' N' h r sf (A ++ ⟨x.p,k,d⟩ :: B):=by
  have hx:x∈A ++ x :: B:=by simp
  have hfx:=(H.lnk x hx).fp
  have hho:=λb e=>H.out x hx b e
  have hd:=List.pairwise_append.1 H.dis
  have hd2:=List.pairwise_cons.1 hd.2.1
  have hoth:∀y,y∈A∨y∈B→∀b,fpL y.k b→¬ fpL x.k b:=λy hy b e e2=>by
    rcases hy with hy | hy
    · exact hd.2.2 y hy x (by simp) b e e2
    · exact hd2.1 y hy b e2 e
  have hmem:∀y,y∈A∨y∈B→y∈A ++ x :: B:=λy hy=>by
    rcases hy with hy | hy
    · simp [hy]
    · simp [hy]
  have hsplit:∀y,y∈A ++ (⟨x.p,k,d⟩:Qk) :: B→y=⟨x.p,k,d⟩∨(y∈A∨y∈B):=λy hy=>by
    simp only [List.mem_append,List.mem_cons] at hy
    rcases hy with hy | hy | hy
    · exact .inr (.inl hy)
    · exact .inl hy
    · exact .inr (.inr hy)
  have hG:∀b,b<w.heap.size→fpL x.k b→N' b:=λb _ e=>hNN b (hfx b e)
  have hnew:∀y,y∈A∨y∈B→∀b,fpL y.k b→¬ fpL k b:=λy hy b e e2=>by
    rcases hfk b e2 with e3 | e3
    · exact hoth y hy b e e3
    · have:=(H.lnk y (hmem y hy)).fplt b e;omega
  have hhr:∀b,b=h∨b=r→¬ fpL x.k b:=λb e e2=>by
    rcases e with e | e
    · exact (hho b e2).1 e
    · exact (hho b e2).2 e
  have hlt:=H.lt
  have hrt:=H.map.lt
  refine ⟨(hm.cell (by exact hlt) (hhr h (.inl rfl))).trans H.c0,(hm.cell (by exact hlt) (hhr h (.inl rfl))).trans H.c1,(hm.cell (by exact hlt) (hhr h (.inl rfl))).trans H.c2,hNN _ H.hn,hNN _ H.rn,H.hr,?_,λy hy=>?_,λy hy b e=>?_,?_,?_,by have:=H.lim;simpa using this,λy hy=>?_⟩
  · have:=H.map.same (hm.block _ hrt (hhr r (.inr rfl)))
    simpa [hlb] using this
  · rcases hsplit y hy with rfl | hy
    · exact hl
    · have hly:=(H.lnk y (hmem y hy)).less (N':=N') (λb e=>hNN b ((H.lnk y (hmem y hy)).fp b e)) hN
      exact hly.mut hm hG (hoth y hy)
  · rcases hsplit y hy with rfl | hy
    · rcases hfk b e with e | e
      · exact hho b e
      · exact ⟨by omega,by omega⟩
    · exact H.out y (hmem y hy) b e
  · refine List.pairwise_append.2 ⟨hd.1,List.pairwise_cons.2 ⟨λy hy b e e2=>hnew y (.inr hy) b e2 e,hd2.2⟩,λy hy z hz b e e2=>?_⟩
    rcases List.mem_cons.1 hz with rfl | hz
    · exact hnew y (.inl hy) b e e2
    · exact hd.2.2 y hy z (by simp [hz]) b e e2
  · have:=H.nd;simpa using this
  · rcases hsplit y hy with rfl | hy
    · exact H.oks x hx
    · exact H.oks y (hmem y hy)
structure HubR (w w':World) (N N':Nat→Prop) (h r:Nat) (sf:Pid) (L L':List Qk):Prop where
  is:Yf w' N' h r sf L'
  up:∀b,N b→N' b
  nw:∀b,N' b→N b∨w.heap.size≤b
  lt:∀b,N' b→b<w'.heap.size
  mt:Mut (fpH h r L) w w'
  fq:∀b,fpH h r L' b→fpH h r L b∨w.heap.size≤b
end
theorem Yf.made (w:World) (p:Pid) (N:Nat→Prop) (t:TypeId):Yf ((w.alloc (.map #[] 0)).alloc (.cells #[.int .u16 p.1,.int .u32 p.2,.map (some w.heap.size)] t)) (λb=>N b∨fpH (w.heap.size+1) w.heap.size [] b) (w.heap.size+1) w.heap.size p [] :=
 ⟨by simp,by simp,by simp,.inr (.inl rfl),.inr (.inr (.inl rfl)),by omega,(Zj.made w).alloc _,λx h=>(by cases h),λx h=>(by cases h),List.Pairwise.nil,List.nodup_nil,by simp,λx h=>(by cases h)⟩
theorem hnew_any (p:Pid) (w:World) (N:Nat→Prop):Calls Tryz.prog 67 #[.agg #[.int .u16 p.1,.int .u32 p.2]] w λe w'=>∃h r,e=.returned (.pointer (some ⟨h,0,none⟩))∧Below w.heap.size w w'∧Yf w' (λb=>N b∨fpH h r [] b) h r p []∧w.heap.size≤h∧w.heap.size≤r:=by
 have hmm:=@run_makeMap Tryz.prog
 obtain ⟨x,y⟩:=p
 go_enter Tryz.func67,Tryz.ntmps67
 go_wp2_with fail
 go_ret
 have hm:=Yf.made (w.alloc (.cells #[.int .u16 x,.int .u32 y] 25)) (x,y) N 163
 simp only [World.size_alloc] at hm ⊢
 exact ⟨_,_,rfl,((bra).alloc (by simp) _).alloc (by simp;omega) _,hm,by omega,by omega⟩
abbrev HubD:=List (Pid × LnkD)
def zc5 (L:List Qk):HubD:=L.map λx=>(x.p,x.d)
def Ei (H:HubD):List Pid:=YS (H.map (·.1))
set_option maxRecDepth 100000 in
set_option maxHeartbeats 1600000 in
theorem zcS {w:World} {N:Nat→Prop} {h r:Nat} {sf:Pid} {L:List Qk} (H:Yf w N h r sf L) :
  Calls Tryz.prog 111 #[.pointer (some ⟨h,0,none⟩)] w λe w'=>∃v,e=.returned v∧Zy w' w.heap.size v (Ei (zc5 L))∧Below w.heap.size w w':=by
 have c2:=H.c2
 have HH:=hid H
 have HM:Hid (∀w2,Below w.heap.size w w2→∀Bm,w2.cell? ⟨Bm,0,none⟩=some (.map (some r))→Bm<w2.heap.size→Calls Tryz.prog 213 #[.func (.func 300) #[] #[.pointer (some ⟨Bm,0,none⟩)]] w2 λe w'=>∃v xs,e=.returned v∧Zy w' w2.heap.size v xs∧xs.Perm (L.map (·.p))∧Below w2.heap.size w2 w'):=hid λw2 hb Bm hm hlt=>by
  have:=zbd Bm r _ w2 hlt hm (H.ext hb).map (by have:=H.lim;simp;omega)
  have e:((L.map λx=>(x.p,x.k.lb)).map (·.1))=L.map (·.p):=by rw [List.map_map];rfl
  rw [e] at this
  exact this
 have hl:=H.lim
 have hnd:=H.nd
 have hoks:=H.oks
 have hS:Hid (∀xs:List Pid,xs.Perm (L.map (·.p))→FR xs=Ei (zc5 L)∧xs.length≤48∧∀p∈xs,ok p):=hid λxs hp=>by
  have hn:xs.Nodup:=hp.symm.nodup hnd
  have ho:∀p∈xs,ok p:=λp hpx=>by
   obtain ⟨z,hz,rfl⟩:=List.mem_map.1 (hp.mem_iff.1 hpx)
   exact hoks z hz
  refine ⟨?_,by have:=hp.length_eq;simp at this;omega,ho⟩
  rw [KT hn]
  have e:(zc5 L).map (·.1)=L.map (·.p):=by simp [zc5]
  unfold Ei
  rw [e]
  exact JA hp ho
 clear H hl hnd hoks
 go_enter Tryz.func111,Tryz.ntmps111
 go_wp2_with fail
 refine (zce r w).mono ?_
 rintro e w1 ⟨rfl,hw1⟩
 have hb1:Below w.heap.size w w1:=by rw [hw1];exact bra
 have hc1:w1.cell? ⟨w.heap.size,0,none⟩=some (.map (some r)):=by rw [hw1];simp
 have hz1:w.heap.size<w1.heap.size:=by rw [hw1];simp
 clear hw1
 have HB1:=hid hb1
 have CC:=hid (HM.out w1 hb1 _ hc1 hz1)
 clear hc1 hb1 HM
 go_wp2_with fail
 refine CC.out.mono ?_
 rintro e w2 ⟨v,xs,rfl,hown,hp,hb2⟩
 obtain ⟨a,c,rfl,hrow,-⟩:=hown.row
 obtain ⟨hs1,hs2,hs3⟩:=hS.out xs hp
 have CS:=hid (Qc a c xs w2 (by omega) hrow hs3)
 rw [hs1] at CS
 have HB2:=hid hb2
 clear hrow hown hp hs1 hs2 hs3 hb2 CC
 go_wp2_with fail
 refine CS.out.mono ?_
 rintro e w3 ⟨v3,rfl,hown3,hb3⟩
 go_wp2_with fail
 go_ret
 have hbw:=HB1.out.trans (HB2.out.mono HB1.out.size)
 exact ⟨_,rfl,hown3.mono hbw.size,hbw.trans (hb3.mono hbw.size)⟩
def tickX (x:Qk):Qk:=⟨x.p,x.k,{ x.d with snd:={ x.d.snd with told:=0 } }⟩
def XP (todo:List Pid) (L:List Qk):List Qk:=L.map λx=>if x.p∈todo then x else tickX x
def tickH (H:HubD):HubD:=H.map λx=>(x.1,{ x.2 with snd:={ x.2.snd with told:=0 } })
theorem zdI {L:List Qk} {todo:List Pid} (h:∀x∈L,x.p∈todo):XP todo L=L:=by
 unfold XP
 conv=>rhs;rw [←List.map_id L]
 exact List.map_congr_left λx hx=>by simp [h x hx]
theorem zdJ (L:List Qk):zc5 (XP [] L)=tickH (zc5 L):=by
 unfold XP zc5 tickH
 rw [List.map_map,List.map_map]
 exact List.map_congr_left λx _=>rfl
theorem Fm {todo:List Pid} {L:List Qk} {h r b:Nat}:fpH h r (XP todo L) b↔fpH h r L b:=by
 unfold fpH XP
 constructor
 ·rintro (e | e | ⟨x,hx,e⟩)
  ·exact .inl e
  ·exact .inr (.inl e)
  ·obtain ⟨y,hy,rfl⟩:=List.mem_map.1 hx
   refine .inr (.inr ⟨y,hy,?_⟩)
   split at e <;> exact e
 ·rintro (e | e | ⟨x,hx,e⟩)
  ·exact .inl e
  ·exact .inr (.inl e)
  ·exact .inr (.inr ⟨_,List.mem_map_of_mem hx,by split <;> exact e⟩)
theorem KV {todo:List Pid} {A B:List Qk} {z:Qk}:XP todo (A ++ z :: B)=XP todo A ++ (if z.p∈todo then z else tickX z) :: XP todo B:=by simp [XP]
theorem GM {t1 t2:List Pid} {A:List Qk} (h:∀x∈A,(x.p∈t1↔x.p∈t2)):XP t1 A=XP t2 A:=by
 unfold XP
 refine List.map_congr_left λx hx=>?_
 by_cases h1:x.p∈t1
 ·rw [if_pos h1,if_pos ((h x hx).1 h1)]
 ·rw [if_neg h1,if_neg λe=>h1 ((h x hx).2 e)]
theorem Mut.thenBut' {F:Nat→Prop} {a b c:World} {t:Nat} (h:Mut F a b) (k:But t b c) (ht:a.heap.size≤t):Mut F a c :=
 h.transG (Mut.of_but k (F:=λb=>b=t) rfl) λi hi e=>by have e:i=t:=e;omega
set_option maxRecDepth 100000 in
set_option maxHeartbeats 3200000 in
theorem zdd {w:World} {N:Nat→Prop} {h r:Nat} {sf:Pid} {L:List Qk} (H:Yf w N h r sf L) (hN:∀b,N b→b<w.heap.size) :
  Calls Tryz.prog 42 #[.pointer (some ⟨h,0,none⟩)] w λe w'=>e=.returned (.tuple #[])∧∃L',HubR w w' N N h r sf L L'∧zc5 L'=tickH (zc5 L):=by
 have c2:=H.c2
 have hM:=H.map
 have HH:=hid H
 have HNN:=hid hN
 have HND:Hid ((L.map (·.p)).Nodup):=hid H.nd
 clear H hN
 go_enter Tryz.func42,Tryz.ntmps42
 go_wp2_with (at_range;refine Yo hM Tryz.underlying161 rfl rfl rfl ?_;intro w0 hR0 hb0)
 go_frame
 go_loopw [3] (λ_ wr=>∃(left:List (Pid × Nat)),Zn wr r w.heap.size Yg ptrV (L.map λx=>(x.p,x.k.lb)) left∧Hid (left.Sublist (L.map λx=>(x.p,x.k.lb)))∧Hid (Yf wr (λb=>N b∨w.heap.size≤b) h r sf (XP (left.map (·.1)) L))∧Hid (Mut (fpH h r L) w wr)) (λ_ wr=>wr.rangeLeft r w.heap.size)
 case atStart =>
  exact ⟨_,hR0,hid (List.Sublist.refl _),hid (by rw [zdI (λx hx=>by rw [List.map_map];exact List.mem_map_of_mem (f:=λx:Qk=>x.p) hx)];exact (HH.out.less (λb e=>.inl (HH.out.fp b e)) λb e=>e).ext hb0),hid (Mut.of_below hb0)⟩
 case round =>
  obtain ⟨left,hR,hSub,HI,HM⟩:=hrel
  have HLM:=hid hR.left_eq
  go_wp2_with (at_next;refine Yh hR rfl rfl rfl ?_ ?_)
  ·intro hl
   have HL:=hid hl.out
   clear hl
   go_wp2_with fail
   refine bodyPost_end (results_none rfl _ _ _) rfl ⟨rfl,XP [] L,⟨?_,λ_ e=>e,λ_ e=>.inl e,λb e=>Nat.lt_of_lt_of_le (HNN.out b e) HM.out.size,HM.out,λb e=>.inl (Fm.1 e)⟩,zdJ L⟩
   have:=HI.out
   rw [HL.out] at this
   exact this.less (λb e=>HH.out.fp b (Fm.1 e)) λb e=>.inl (.inl e)
  ·intro x y u0 s1 s2 w1 hl hR1 hbut hen
   have hmem:((x,y),u0)∈left:=by rw [hl.out];simp
   obtain ⟨z,hz,hze⟩:=List.mem_map.1 (hSub.out.subset hmem)
   injection hze with hz1 hz2
   obtain ⟨A,B,hL⟩:=List.append_of_mem hz
   have hkl:(left.map (·.1)).Nodup:=by
    have h1:=hSub.out.map (λx:Pid × Nat=>x.1)
    rw [List.map_map] at h1
    exact HND.out.sublist h1
   have hkeys:left.map (·.1)=s1.map (·.1) ++ z.p :: s2.map (·.1):=by rw [hl.out,hz1];simp
   have hin:z.p∈left.map (·.1):=by rw [hkeys];simp
   have hnot:z.p ∉ (s1 ++ s2).map (·.1):=by
    rw [hkeys] at hkl
    rw [List.map_append]
    intro h
    have:=List.nodup_append.1 hkl
    rcases List.mem_append.1 h with h | h
    ·exact this.2.2 _ h _ (List.mem_cons_self ..) rfl
    ·exact (List.nodup_cons.1 this.2.1).1 h
   have hndL:=HND.out
   rw [hL,List.map_append,List.map_cons] at hndL
   have hndL2:=List.nodup_append.1 hndL
   have hAz:∀q∈A,q.p≠z.p:=λq hq e=>hndL2.2.2 _ (List.mem_map_of_mem (f:=λx:Qk=>x.p) hq) _ (List.mem_cons_self ..) e
   have hBz:∀q∈B,q.p≠z.p:=λq hq e=>(List.nodup_cons.1 hndL2.2.1).1 (by rw [←e];exact List.mem_map_of_mem (f:=λx:Qk=>x.p) hq)
   have hsame:∀q:Qk,q.p≠z.p→(q.p∈left.map (·.1)↔q.p∈(s1 ++ s2).map (·.1)):=λq hq=>by
    rw [hkeys,List.map_append]
    simp only [List.mem_append,List.mem_cons]
    constructor
    ·rintro (e | e | e)
     ·exact .inl e
     ·exact absurd e hq
     ·exact .inr e
    ·rintro (e | e)
     ·exact .inl e
     ·exact .inr (.inr e)
   have hH0:=HI.out
   rw [hL,KV,if_pos hin] at hH0
   have hH1:Yf w1 (λb=>N b∨w.heap.size≤b) h r sf (XP (left.map (·.1)) A ++ z :: XP (left.map (·.1)) B):=hH0.mut (Mut.of_but hbut (F:=λb=>b=w.heap.size) rfl) (λb _ e=>.inr (by rw [show b=w.heap.size from e];exact Nat.le_refl _)) (λb e e2=>by
    have h1:fpH h r (XP (left.map (·.1)) L) b:=by rw [hL,KV,if_pos hin];exact e
    have:=HH.out.fplt b (Fm.1 h1)
    have e2:b=w.heap.size:=e2
    omega)
   have hzl:=hH1.lnk z (by simp)
   have z0:=hzl.box.c0
   rw [hz2] at z0
   obtain ⟨us,hs⟩:=hzl.snd
   have CT:=hid (zd4 hs)
   have HFZ:Hid (∀b,fpL z.k b→fpH h r L b):=hid λb e=>.inr (.inr ⟨z,hz,e⟩)
   have HW1:Hid (Mut (fpH h r L) w w1):=hid (HM.out.thenBut' hbut (Nat.le_refl _))
   have HE:Hid (XP (left.map (·.1)) A=XP ((s1 ++ s2).map (·.1)) A∧XP (left.map (·.1)) B=XP ((s1 ++ s2).map (·.1)) B∧L=A ++ z :: B∧z.p ∉ (s1 ++ s2).map (·.1)):=hid ⟨GM λq hq=>hsame q (hAz q hq),GM λq hq=>hsame q (hBz q hq),hL,hnot⟩
   have HH1:=hid hH1
   have HZL:=hid hzl
   have HLN:Hid (left.length=s1.length+1+s2.length):=hid (by rw [hl.out];simp;omega)
   have HS2:Hid ((s1 ++ s2).Sublist (L.map λx=>(x.p,x.k.lb))):=hid (List.Sublist.trans (by rw [hl.out];simp) hSub.out)
   clear hmem hz hz1 hz2 hL hkl hkeys hin hnot hndL hndL2 hAz hBz hsame hH0 hH1 hzl hs
   go_wp2_with fail
   refine CT.out.mono ?_
   rintro e w3 ⟨rfl,hS3,hm3⟩
   have hfs:∀b,b=z.k.sb→fpL z.k b:=λb e=>.inr (.inl e)
   have hl3:=HZL.out.sent (hm3.mono λb _ e=>(show fpS z.k.sb z.k.wv b from .inl e)) (λb e=>e) (λb e=>.inl e) hS3 (λg e=>.inl e)
   have hT:=HH1.out.turn (hm3.mono λb _ e=>hfs b e) (λb e=>e) (λb e=>.inl e) hl3 rfl (λb e=>.inl e)
   have hsbl:=HZL.out.fplt z.k.sb (hfs _ rfl)
   have hsbw:z.k.sb<w.heap.size:=HH.out.fplt _ (HFZ.out _ (hfs _ rfl))
   have hsbr:z.k.sb≠r:=(HH1.out.out z (by simp) _ (hfs _ rfl)).2
   have hR3:Zn w3 r w.heap.size Yg ptrV (L.map λx=>(x.p,x.k.lb)) (s1 ++ s2):=hR1.mut hm3 (λe=>hsbr (show r=z.k.sb from e).symm) (λe=>by have e:w.heap.size=z.k.sb:=e;omega)
   obtain ⟨f1,f2,f3,f4⟩:=HE.out
   have HT:Hid (Yf w3 (λb=>N b∨w.heap.size≤b) h r sf (XP ((s1 ++ s2).map (·.1)) L)):=hid (by
    rw [f3,KV,if_neg f4,← f1,← f2]
    exact hT)
   have HM3:Hid (Mut (fpH h r L) w w3):=hid (HW1.out.trans (hm3.mono λb _ e=>HFZ.out b (hfs b e)))
   have HL3:=hid hR3.left_eq
   clear hT hl3 hS3 hm3 f1 f2 f3 f4 CT z0 hfs hsbl hsbw hsbr
   go_wp2_with fail
   go_roundw
   case rel=>exact ⟨s1 ++ s2,hR3,HS2,HT,HM3⟩
   case measure=>rw [HL3.out,HLM.out,HLN.out];simp <;> omega
structure PackD where
 kind:Int
 fr:Pid
 dst:Pid
 seq:Nat
 body:List Nat
theorem Yq {w:World} {o:Oper} {a:Go.Act} {K:Go.Act→World→Prop} {Q:Exit→Go.Act→World→Prop} {y:Nat→Option Bool} {s x:Operand} {base k bytes:Nat} {T E:TypeId} {i0:TypeInfo} {z v:Value} {xs:List (List Value)} {el:List Value} {b c:Nat} (hw:Region.wanted o y=true)
  (ht:Tryz.prog.underlying T=some (.slice E)) (hi:Tryz.prog.info? E=some i0) (hz0:i0.zero=some z) (hz1:i0.size=k) (hz2:i0.bytes=bytes) (hzs:z.cells.size=k) (hk:0<k) (hbt:bytes≤1000)
  (hown:Vk w base E k v xs) (hel:el.length=k) (h1:∀u∈el,u.oneCell'=true) (hc:∀j u,el[j]?=some u→w.cell? ⟨b,j,none⟩=some u) (hl:xs.length+1≤1000000) (hbase:base≤w.heap.size)
  (ho:o.op=.call { callee:=.builtin .append,args:=#[s,x],argTypes:=#[T,T] }) (hs:a.eval s=v) (hx:a.eval x=.slice (some ⟨b,0,none⟩) 1 c)
  (h:∀v' w',Vk w' base E k v' (xs ++ [el])→Mut (λg=>v.ownBlock=some g) w w'→(∀g,v'.ownBlock=some g→v.ownBlock=some g∨w.heap.size≤g)→K (a.put o.dst v') w'):if Region.wanted o y=true then Oper.wp Tryz.prog o a w K Q else K (a.put o.dst undef) w:=by
 rw [if_pos hw]
 obtain ⟨v',w',hr,h2,h3,h4,-⟩:=hown.append (c:=c) T o.type i0 z bytes ht hi hz0 hz1 hz2 hzs hk hel h1 hc hl hbt hbase
 exact Lib.wp_append_run w s x T T ho _ _ hs hx v' w' hr (h v' w' h2 h3 h4)
theorem infoBB:(Tryz.prog.info? 46).map (λi=>(i.zero,i.size,i.bytes))=some (some (.slice none 0 0),1,24):=by kernel_rfl
set_option maxRecDepth 100000 in
set_option maxHeartbeats 3200000 in
theorem qPut {w:World} {b n dc:Nat} {v:Int} {da:Option Addr} {bs:List Nat} (hB:Zc w b 159 [.int .u64 v,.int .u64 0,.slice none 0 0]) (hn:bs.length=n) (hl:n≤200) (hr:Zg w da bs) (hrb:∀o off,da=some ⟨o,off,none⟩→o≠b) :
  Calls Tryz.prog 40 #[.pointer (some ⟨b,0,none⟩),.slice da n dc] w λe w'=>∃a c,1≤c∧e=.returned (.tuple #[.int .u64 1,.int .i64 0])∧Mut (λk=>k=b∨w.heap.size≤k) w w'∧Zc w' b 159 [.int .u64 v,.int .u64 1,.slice (some ⟨a,0,none⟩) 1 c]:=by
 have c1:=hB.cell (j:=1) rfl
 have c2:=hB.cell (j:=2) rfl
 have fz:=hB.frozen
 have g1:decide ((n:Int) > 200)=false:=decide_eq_false (by omega)
 have g2:decide (200<(n:Int))=false:=decide_eq_false (by omega)
 have g3:decide (200<n)=false:=decide_eq_false (by omega)
 obtain ⟨i0,hi,hz0,hz1,hz2⟩:=info_parts infoBB
 have HB:=hid hB
 have HN:=hid hn
 have HL:=hid hl
 have HR:=hid hr
 have HRB:=hid hrb
 clear hB hn hl hr hrb
 go_enter Tryz.func40,Tryz.ntmps40
 go_upto_region 10 with fail
 obtain ⟨w2,hw2⟩:∃z,w.setCell ⟨b,1,none⟩ (.int .u64 1)=z:=⟨_,rfl⟩
 have hx2:Zc w2 b 159 [.int .u64 v,.int .u64 1,.slice none 0 0]:=by rw [←hw2];exact HB.out.set (j:=1) (v:=.int .u64 1)
 have hm2:Mut (λk=>k=b) w w2:=by rw [←hw2];exact Zf (G:=λk=>k=b) (Mut.refl _ _) b _ _ rfl
 rw [hw2]
 have HB2:=hid hx2
 have HM2:=hid hm2
 have HR2:Hid (Zg w2 da bs):=hid (HR.out.mutT hm2 λo off e hne hg=>HRB.out o off e hg)
 have els:∀{qa:Option Addr} {qc:Nat} (u:Value),u∈[Value.slice qa n qc]→u.oneCell'=true:=λu hu=>by simp at hu;subst hu;rfl
 have CC:Hid (∀W,Below w2.heap.size w2 W→Calls Tryz.prog 87 #[.slice da n dc] W λe w'=>∃v,e=.returned v∧Ys w' w2.heap.size v bs∧Below w2.heap.size w2 w'):=hid λW h=>(Xb HN (by have:=HL.out;omega) (HR2.out.ext h)).mono λe w' ⟨v,h1,h2,h3⟩=>⟨v,h1,h2.mono h.size,h.trans (h3.mono h.size)⟩
 have c2:=hx2.cell (j:=2) rfl
 clear hw2 hx2 hm2 c1 g1 g2 g3 fz
 go_cut [41] (λ_ wx=>Hid (∃a c,Zc wx b 159 [.int .u64 v,.int .u64 1,.slice (some ⟨a,0,none⟩) 1 c]∧1≤c)∧Hid (Mut (λk=>k=b∨w2.heap.size≤k) w2 wx))
 case first =>
  refine wp_region_held_drew (S:=λ_=>True) (by kernel_rfl) (trivial) (λhHeld=>?_)
  refine tkv 0 (.pointer (some ⟨b,0,none⟩)) rfl ?_
  refine tkv 1 (.pointer (some ⟨b,0,none⟩)) rfl ?_
  refine tkv 2 (.pointer (some ⟨b,0,none⟩)) rfl ?_
  refine tkv 3 (.pointer (some ⟨b,2,none⟩)) rfl ?_
  refine tkv 5 (.slice da n dc) rfl ?_
  refine rd (rs:=[4,6]) ?_
  refine AllReadyH.cons (o:=_) rfl (λK hK=>?_) (AllReadyH.cons (o:=_) rfl (λK hK=>?_) AllReadyH.nil)
  ·go_simp
   refine hK.out _ _ (trivial) (λhHeld=>?_)
   clear hK K
   try simp only [lay]
   refine rd1 6 rfl λK hK=>?_
   go_simp
   refine (CC.out _ (Below.refl _ _).drew).mono ?_
   rintro e w3 ⟨v3,rfl,hown,hb3⟩
   obtain ⟨qa,qc,rfl,-,-⟩:=hown.row
   rw [HN.out]
   clear hown
   refine hK.out _ _ (trivial) (λhHeld=>?_)
   clear hK K
   try simp only [lay]
   refine rd1 7 rfl λK hK=>?_
   go_simp
   obtain ⟨w4,hw4⟩:∃z,w3.alloc (.cells #[.slice qa n qc] 46)=z:=⟨_,rfl⟩
   have hb34:Below w3.heap.size w3 w4:=by rw [←hw4];exact bra
   have hc4:∀j u,([.slice qa n qc]:List Value)[j]?=some u→w4.cell? ⟨w3.heap.size,j,none⟩=some u:=by rw [←hw4];exact λj u hj=>(Zc.made w3 46 [.slice qa n qc]).cell hj
   have hb4:Below w2.heap.size w2 w4:=hb3.trans (hb34.mono hb3.size)
   rw [hw4]
   clear hw4 hb34
   refine hK.out _ _ (trivial) (λhHeld=>?_)
   clear hK K
   try simp only [lay]
   refine rd1 8 rfl λK hK=>?_
   refine Yq (base:=w2.heap.size) (b:=w3.heap.size) (el:=[.slice qa n qc]) (by rfl) Tryz.underlying50 hi hz0 hz1 hz2 rfl (by decide) (by decide) (Vk.nil _ _ _ _) rfl els hc4 (by decide) hb4.size rfl rfl rfl ?_
   intro v8 w8 hown8 hm8 hn8
   have hb8:Below w2.heap.size w2 w8:=Zz hb4 hm8 (λk e=>by cases e)
   obtain ⟨ra,rc,rfl,-,-,-⟩:=hown8.at (i:=0) rfl
   have hcc:1≤rc:=by obtain ⟨a9,c9,e9,h9⟩:=hown8.sli;cases e9;exact h9
   have HX8:=hid (HB2.out.ext hb8)
   clear hown8 hm8 hn8
   rw [show ∀el:List Value,(([]:List (List Value)) ++ [el]).length=1 from λ_=>rfl]
   refine hK.out _ _ (trivial) (λhHeld=>?_)
   clear hK K
   try simp only [lay]
   refine rd1 9 rfl λK hK=>?_
   go_simp
   refine hK.out _ _ (trivial) (λhHeld=>?_)
   clear hK K
   try simp only [lay]
   refine rd1 10 rfl λK hK=>?_
   go_simp
   refine hK.out _ _ (trivial) (λhHeld=>?_)
   clear hK K
   try simp only [lay]
   refine rd1 11 rfl λK hK=>?_
   have e2:=HX8.out.cell (j:=2) rfl
   have fz:=HX8.out.frozen
   go_simp
   refine hK.out _ _ trivial (λhHeld=>?_)
   clear hK K
   try simp only [lay]
   refine dn ?_
   go_wp2_with fail
   go_meet
   exact ⟨hid ⟨ra,rc,HX8.out.set (j:=2) (v:=.slice (some ⟨ra,0,none⟩) 1 rc),hcc⟩,hid (Zf (G:=λk=>k=b∨w2.heap.size≤k) ((Mut.of_below hb8).mono λk _ e=>.inr e) b _ _ (.inl rfl))⟩
  ·go_simp
   refine (CC.out _ (Below.refl _ _).drew).mono ?_
   rintro e w3 ⟨v3,rfl,hown,hb3⟩
   obtain ⟨qa,qc,rfl,-,-⟩:=hown.row
   rw [HN.out]
   clear hown
   refine hK.out _ _ (trivial) (λhHeld=>?_)
   clear hK K
   try simp only [lay]
   refine rd (rs:=[4,7]) ?_
   refine AllReadyH.cons (o:=_) rfl (λK hK=>?_) (AllReadyH.cons (o:=_) rfl (λK hK=>?_) AllReadyH.nil)
   ·have e4:=(HB2.out.ext hb3).cell (j:=2) rfl
    go_simp
    refine hK.out _ _ (trivial) (λhHeld=>?_)
    clear hK K
    try simp only [lay]
    clear e4
    refine rd1 7 rfl λK hK=>?_
    go_simp
    obtain ⟨w4,hw4⟩:∃z,w3.alloc (.cells #[.slice qa n qc] 46)=z:=⟨_,rfl⟩
    have hb34:Below w3.heap.size w3 w4:=by rw [←hw4];exact bra
    have hc4:∀j u,([.slice qa n qc]:List Value)[j]?=some u→w4.cell? ⟨w3.heap.size,j,none⟩=some u:=by rw [←hw4];exact λj u hj=>(Zc.made w3 46 [.slice qa n qc]).cell hj
    have hb4:Below w2.heap.size w2 w4:=hb3.trans (hb34.mono hb3.size)
    rw [hw4]
    clear hw4 hb34
    refine hK.out _ _ (trivial) (λhHeld=>?_)
    clear hK K
    try simp only [lay]
    refine rd1 8 rfl λK hK=>?_
    refine Yq (base:=w2.heap.size) (b:=w3.heap.size) (el:=[.slice qa n qc]) (by rfl) Tryz.underlying50 hi hz0 hz1 hz2 rfl (by decide) (by decide) (Vk.nil _ _ _ _) rfl els hc4 (by decide) hb4.size rfl rfl rfl ?_
    intro v8 w8 hown8 hm8 hn8
    have hb8:Below w2.heap.size w2 w8:=Zz hb4 hm8 (λk e=>by cases e)
    obtain ⟨ra,rc,rfl,-,-,-⟩:=hown8.at (i:=0) rfl
    have hcc:1≤rc:=by obtain ⟨a9,c9,e9,h9⟩:=hown8.sli;cases e9;exact h9
    have HX8:=hid (HB2.out.ext hb8)
    clear hown8 hm8 hn8
    rw [show ∀el:List Value,(([]:List (List Value)) ++ [el]).length=1 from λ_=>rfl]
    refine hK.out _ _ (trivial) (λhHeld=>?_)
    clear hK K
    try simp only [lay]
    refine rd1 9 rfl λK hK=>?_
    go_simp
    refine hK.out _ _ (trivial) (λhHeld=>?_)
    clear hK K
    try simp only [lay]
    refine rd1 10 rfl λK hK=>?_
    go_simp
    refine hK.out _ _ (trivial) (λhHeld=>?_)
    clear hK K
    try simp only [lay]
    refine rd1 11 rfl λK hK=>?_
    have e2:=HX8.out.cell (j:=2) rfl
    have fz:=HX8.out.frozen
    go_simp
    refine hK.out _ _ trivial (λhHeld=>?_)
    clear hK K
    try simp only [lay]
    refine dn ?_
    go_wp2_with fail
    go_meet
    exact ⟨hid ⟨ra,rc,HX8.out.set (j:=2) (v:=.slice (some ⟨ra,0,none⟩) 1 rc),hcc⟩,hid (Zf (G:=λk=>k=b∨w2.heap.size≤k) ((Mut.of_below hb8).mono λk _ e=>.inr e) b _ _ (.inl rfl))⟩
   ·go_simp
    obtain ⟨w4,hw4⟩:∃z,w3.alloc (.cells #[.slice qa n qc] 46)=z:=⟨_,rfl⟩
    have hb34:Below w3.heap.size w3 w4:=by rw [←hw4];exact bra
    have hc4:∀j u,([.slice qa n qc]:List Value)[j]?=some u→w4.cell? ⟨w3.heap.size,j,none⟩=some u:=by rw [←hw4];exact λj u hj=>(Zc.made w3 46 [.slice qa n qc]).cell hj
    have hb4:Below w2.heap.size w2 w4:=hb3.trans (hb34.mono hb3.size)
    rw [hw4]
    clear hw4 hb34
    refine hK.out _ _ (trivial) (λhHeld=>?_)
    clear hK K
    try simp only [lay]
    refine rd1 4 rfl λK hK=>?_
    have e4:=(HB2.out.ext hb4).cell (j:=2) rfl
    go_simp
    refine hK.out _ _ (trivial) (λhHeld=>?_)
    clear hK K
    try simp only [lay]
    clear e4
    refine rd1 8 rfl λK hK=>?_
    refine Yq (base:=w2.heap.size) (b:=w3.heap.size) (el:=[.slice qa n qc]) (by rfl) Tryz.underlying50 hi hz0 hz1 hz2 rfl (by decide) (by decide) (Vk.nil _ _ _ _) rfl els hc4 (by decide) hb4.size rfl rfl rfl ?_
    intro v8 w8 hown8 hm8 hn8
    have hb8:Below w2.heap.size w2 w8:=Zz hb4 hm8 (λk e=>by cases e)
    obtain ⟨ra,rc,rfl,-,-,-⟩:=hown8.at (i:=0) rfl
    have hcc:1≤rc:=by obtain ⟨a9,c9,e9,h9⟩:=hown8.sli;cases e9;exact h9
    have HX8:=hid (HB2.out.ext hb8)
    clear hown8 hm8 hn8
    rw [show ∀el:List Value,(([]:List (List Value)) ++ [el]).length=1 from λ_=>rfl]
    refine hK.out _ _ (trivial) (λhHeld=>?_)
    clear hK K
    try simp only [lay]
    refine rd1 9 rfl λK hK=>?_
    go_simp
    refine hK.out _ _ (trivial) (λhHeld=>?_)
    clear hK K
    try simp only [lay]
    refine rd1 10 rfl λK hK=>?_
    go_simp
    refine hK.out _ _ (trivial) (λhHeld=>?_)
    clear hK K
    try simp only [lay]
    refine rd1 11 rfl λK hK=>?_
    have e2:=HX8.out.cell (j:=2) rfl
    have fz:=HX8.out.frozen
    go_simp
    refine hK.out _ _ trivial (λhHeld=>?_)
    clear hK K
    try simp only [lay]
    refine dn ?_
    go_wp2_with fail
    go_meet
    exact ⟨hid ⟨ra,rc,HX8.out.set (j:=2) (v:=.slice (some ⟨ra,0,none⟩) 1 rc),hcc⟩,hid (Zf (G:=λk=>k=b∨w2.heap.size≤k) ((Mut.of_below hb8).mono λk _ e=>.inr e) b _ _ (.inl rfl))⟩
 case rest =>
  obtain ⟨HX,HM⟩:=hcut
  rename World=>w9
  obtain ⟨ra,rc,hx,hcc⟩:=HX.out
  have c1:=hx.cell (j:=1) rfl
  have HX9:=hid hx
  clear hx c2
  go_wp2_with fail
  refine bodyPost_ret (v:=.tuple #[.int .u64 1,.int .i64 0]) (by simp [results,Tryz.results40,go_sem]) rfl ⟨ra,rc,hcc,rfl,(HM2.out.mono λk _ e=>.inl e).trans (HM.out.mono λk _ e=>e.imp id (Nat.le_trans HM2.out.size)),HX9.out⟩
theorem infoCmdB:(Tryz.prog.info? 126).map (λi=>(i.zero,i.size,i.bytes))=some (some (.agg #[.int .i64 0,.int .u16 0,.int .u32 0,.int .u64 0,.int .u64 0,.slice none 0 0,.int .u64 0,.slice none 0 0,.slice none 0 0,.slice none 0 0]),10,136):=by kernel_rfl
set_option maxRecDepth 100000 in
set_option maxHeartbeats 6400000 in
theorem lAdd {w:World} {b:Nat} {N:Nat→Prop} {A:MA} {C:Xu} (hB:Zc w b 149 [.int .u64 0,.slice none 0 0]) (hC:CR w N A C) (hfr:okP C.fr) (hc:YE C=0) (hN:∀k,N k→k<w.heap.size) :
  Calls Tryz.prog 312 #[.pointer (some ⟨b,0,none⟩),.int .u64 1,.agg (Yd A C)] w λe w'=>∃a c,1≤c∧e=.returned (.int .i64 0)∧Mut (λk=>k=b∨w.heap.size≤k) w w'∧Zc w' b 149 [.int .u64 1,.slice (some ⟨a,0,none⟩) 1 c]:=by
 obtain ⟨W1,hW1⟩:∃W1,w.alloc (.cells (Yd A C) 126)=W1:=⟨_,rfl⟩
 have hb1:Below w.heap.size w W1:=by rw [←hW1];exact bra
 have xC:Zc W1 w.heap.size 126 [.int .i64 C.kind,.int .u16 C.fr.1,.int .u32 C.fr.2,.int .u64 C.num,.int .u64 C.vw,.slice A.da C.data.length A.dc,.int .u64 C.v.id,.slice A.am C.v.ms.length A.cm,.slice A.al C.v.ls.length A.cl,.slice A.ad C.v.ds.length A.cd]:=by rw [←hW1];exact Zc.made _ _ (Yd A C).toList
 have CK:=hid (Fy (hC.ext hb1) hfr hc)
 have k0:=xC.cell (j:=0) rfl
 have k1:=xC.cell (j:=1) rfl
 have k2:=xC.cell (j:=2) rfl
 have k3:=xC.cell (j:=3) rfl
 have k4:=xC.cell (j:=4) rfl
 have k5:=xC.cell (j:=5) rfl
 have k6:=xC.cell (j:=6) rfl
 have k7:=xC.cell (j:=7) rfl
 have k8:=xC.cell (j:=8) rfl
 have k9:=xC.cell (j:=9) rfl
 obtain ⟨i0,hi,hz0,hz1,hz2⟩:=info_parts infoCmdB
 have HB1:=hid (hB.ext hb1)
 have HX1:=hid xC
 have HC1:=hid (hC.ext hb1)
 have HW1:=hid hb1
 have HNE:Hid (w.heap.size≠b∧b<w.heap.size):=hid (by have:=hB.lt;omega)
 have HN:=hid hN
 clear hB hC hfr hc hN hb1 xC
 go_enter Tryz.func312,Tryz.ntmps312
 rw [show Yd A C=#[.int .i64 C.kind,.int .u16 C.fr.1,.int .u32 C.fr.2,.int .u64 C.num,.int .u64 C.vw,.slice A.da C.data.length A.dc,.int .u64 C.v.id,.slice A.am C.v.ms.length A.cm,.slice A.al C.v.ls.length A.cl,.slice A.ad C.v.ds.length A.cd] from rfl] at hW1
 rw [show Yd A C=#[.int .i64 C.kind,.int .u16 C.fr.1,.int .u32 C.fr.2,.int .u64 C.num,.int .u64 C.vw,.slice A.da C.data.length A.dc,.int .u64 C.v.id,.slice A.am C.v.ms.length A.cm,.slice A.al C.v.ls.length A.cl,.slice A.ad C.v.ds.length A.cd] from rfl]
 go_upto_region 1 with fail
 try rw [hW1]
 clear hW1
 go_wp2_with fail
 refine CK.out.mono ?_
 rintro e w2 ⟨rfl,hb2⟩
 have HB2:=hid (HB1.out.ext hb2)
 have HX2:=hid (HX1.out.ext hb2)
 have HC2:=hid (HC1.out.ext hb2)
 have HW2:=hid (HW1.out.trans (hb2.mono HW1.out.size))
 clear CK k0 k1 k2 k3 k4 k5 k6 k7 k8 k9 hb2 HB1 HX1 HC1 HW1
 have c0:=HB2.out.cell (j:=0) rfl
 have e4:=HB2.out.cell (j:=1) rfl
 have fz:=HB2.out.frozen
 have els:∀{A1:MA} (u:Value),u∈([.int .i64 C.kind,.int .u16 C.fr.1,.int .u32 C.fr.2,.int .u64 C.num,.int .u64 C.vw,.slice A1.da C.data.length A1.dc,.int .u64 C.v.id,.slice A1.am C.v.ms.length A1.cm,.slice A1.al C.v.ls.length A1.cl,.slice A1.ad C.v.ds.length A1.cd]:List Value)→u.oneCell'=true:=λu hu=>by
  simp only [List.mem_cons,List.not_mem_nil,or_false] at hu
  rcases hu with rfl | rfl | rfl | rfl | rfl | rfl | rfl | rfl | rfl | rfl <;> rfl
 have CC:Hid (∀W,Below w2.heap.size w2 W→Calls Tryz.prog 196 #[.agg #[.int .i64 C.kind,.int .u16 C.fr.1,.int .u32 C.fr.2,.int .u64 C.num,.int .u64 C.vw,.slice A.da C.data.length A.dc,.int .u64 C.v.id,.slice A.am C.v.ms.length A.cm,.slice A.al C.v.ls.length A.cl,.slice A.ad C.v.ds.length A.cd]] W λe w'=>∃A':MA,e=.returned (.agg (Yd A' C))∧CR w' N A' C∧Below w2.heap.size w2 w'):=hid λW hb=>(Ey (A:=A) (HC2.out.ext hb) (λk hk=>by
  have h2:=HW2.out.size
  have h3:=hb.size
  have:=HN.out k hk
  omega)).mono λe w' ⟨A',h1,h2,h3⟩=>⟨A',h1,h2,hb.trans (h3.mono hb.size)⟩
 have HS:Hid (∀W,Zc W w.heap.size 126 [.int .i64 C.kind,.int .u16 C.fr.1,.int .u32 C.fr.2,.int .u64 C.num,.int .u64 C.vw,.slice A.da C.data.length A.dc,.int .u64 C.v.id,.slice A.am C.v.ms.length A.cm,.slice A.al C.v.ls.length A.cl,.slice A.ad C.v.ds.length A.cd]→(W.cell? ⟨w.heap.size,0,none⟩=some (.int .i64 C.kind)∧W.cell? ⟨w.heap.size,1,none⟩=some (.int .u16 C.fr.1)∧W.cell? ⟨w.heap.size,2,none⟩=some (.int .u32 C.fr.2)∧W.cell? ⟨w.heap.size,3,none⟩=some (.int .u64 C.num)∧W.cell? ⟨w.heap.size,4,none⟩=some (.int .u64 C.vw)∧W.cell? ⟨w.heap.size,5,none⟩=some (.slice A.da C.data.length A.dc)∧W.cell? ⟨w.heap.size,6,none⟩=some (.int .u64 C.v.id)∧W.cell? ⟨w.heap.size,7,none⟩=some (.slice A.am C.v.ms.length A.cm)∧W.cell? ⟨w.heap.size,8,none⟩=some (.slice A.al C.v.ls.length A.cl)∧W.cell? ⟨w.heap.size,9,none⟩=some (.slice A.ad C.v.ds.length A.cd))):=hid λW h2=>⟨h2.cell (j:=0) rfl,h2.cell (j:=1) rfl,h2.cell (j:=2) rfl,h2.cell (j:=3) rfl,h2.cell (j:=4) rfl,h2.cell (j:=5) rfl,h2.cell (j:=6) rfl,h2.cell (j:=7) rfl,h2.cell (j:=8) rfl,h2.cell (j:=9) rfl⟩
 go_upto_region 13 with fail
 clear c0 fz
 go_cut [47] (λ_ wx=>Hid (∃a c,Zc wx b 149 [.int .u64 0,.slice (some ⟨a,0,none⟩) 1 c]∧1≤c)∧Hid (Mut (λk=>k=b∨w2.heap.size≤k) w2 wx))
 case first =>
  refine wp_region_held_drew (S:=λW=>W.cell? ⟨w.heap.size,0,none⟩=some (.int .i64 C.kind)∧W.cell? ⟨w.heap.size,1,none⟩=some (.int .u16 C.fr.1)∧W.cell? ⟨w.heap.size,2,none⟩=some (.int .u32 C.fr.2)∧W.cell? ⟨w.heap.size,3,none⟩=some (.int .u64 C.num)∧W.cell? ⟨w.heap.size,4,none⟩=some (.int .u64 C.vw)∧W.cell? ⟨w.heap.size,5,none⟩=some (.slice A.da C.data.length A.dc)∧W.cell? ⟨w.heap.size,6,none⟩=some (.int .u64 C.v.id)∧W.cell? ⟨w.heap.size,7,none⟩=some (.slice A.am C.v.ms.length A.cm)∧W.cell? ⟨w.heap.size,8,none⟩=some (.slice A.al C.v.ls.length A.cl)∧W.cell? ⟨w.heap.size,9,none⟩=some (.slice A.ad C.v.ds.length A.cd)) (by kernel_rfl) (HS.out _ (HX2.out.ext (Below.refl _ _).drew)) (λhHeld=>?_)
  refine tkv 0 (.pointer (some ⟨b,0,none⟩)) rfl ?_
  refine tkv 1 (.pointer (some ⟨b,0,none⟩)) rfl ?_
  refine tkv 2 (.pointer (some ⟨b,0,none⟩)) rfl ?_
  refine tkv 3 (.pointer (some ⟨b,1,none⟩)) rfl ?_
  refine tkv 5 (.agg #[.int .i64 C.kind,.int .u16 C.fr.1,.int .u32 C.fr.2,.int .u64 C.num,.int .u64 C.vw,.slice A.da C.data.length A.dc,.int .u64 C.v.id,.slice A.am C.v.ms.length A.cm,.slice A.al C.v.ls.length A.cl,.slice A.ad C.v.ds.length A.cd]) rfl ?_
  refine rd (rs:=[4,6]) ?_
  refine AllReadyH.cons (o:=_) rfl (λK hK=>?_) (AllReadyH.cons (o:=_) rfl (λK hK=>?_) AllReadyH.nil)
  ·go_simp
   refine hK.out _ _ (HS.out _ (HX2.out.ext (Below.refl _ _).drew)) (λhHeld=>?_)
   clear hK K
   try simp only [lay]
   refine rd1 6 rfl λK hK=>?_
   go_simp
   refine (CC.out _ (Below.refl _ _).drew).mono ?_
   rintro e w3 ⟨A1,rfl,hc3,hb3⟩
   rw [show Yd A1 C=#[.int .i64 C.kind,.int .u16 C.fr.1,.int .u32 C.fr.2,.int .u64 C.num,.int .u64 C.vw,.slice A1.da C.data.length A1.dc,.int .u64 C.v.id,.slice A1.am C.v.ms.length A1.cm,.slice A1.al C.v.ls.length A1.cl,.slice A1.ad C.v.ds.length A1.cd] from rfl]
   clear hc3
   refine hK.out _ _ (HS.out _ (HX2.out.ext hb3)) (λhHeld=>?_)
   clear hK K
   try simp only [lay]
   refine rd1 7 rfl λK hK=>?_
   go_simp
   obtain ⟨w4,hw4⟩:∃z,w3.alloc (.cells #[.int .i64 C.kind,.int .u16 C.fr.1,.int .u32 C.fr.2,.int .u64 C.num,.int .u64 C.vw,.slice A1.da C.data.length A1.dc,.int .u64 C.v.id,.slice A1.am C.v.ms.length A1.cm,.slice A1.al C.v.ls.length A1.cl,.slice A1.ad C.v.ds.length A1.cd] 126)=z:=⟨_,rfl⟩
   have hb34:Below w3.heap.size w3 w4:=by rw [←hw4];exact bra
   have hc4:∀j u,([.int .i64 C.kind,.int .u16 C.fr.1,.int .u32 C.fr.2,.int .u64 C.num,.int .u64 C.vw,.slice A1.da C.data.length A1.dc,.int .u64 C.v.id,.slice A1.am C.v.ms.length A1.cm,.slice A1.al C.v.ls.length A1.cl,.slice A1.ad C.v.ds.length A1.cd]:List Value)[j]?=some u→w4.cell? ⟨w3.heap.size,j,none⟩=some u:=by rw [←hw4];exact λj u hj=>(Zc.made w3 126 [.int .i64 C.kind,.int .u16 C.fr.1,.int .u32 C.fr.2,.int .u64 C.num,.int .u64 C.vw,.slice A1.da C.data.length A1.dc,.int .u64 C.v.id,.slice A1.am C.v.ms.length A1.cm,.slice A1.al C.v.ls.length A1.cl,.slice A1.ad C.v.ds.length A1.cd]).cell hj
   have hb4:Below w2.heap.size w2 w4:=hb3.trans (hb34.mono hb3.size)
   rw [hw4]
   clear hw4 hb34
   refine hK.out _ _ (HS.out _ (HX2.out.ext hb4)) (λhHeld=>?_)
   clear hK K
   try simp only [lay]
   refine rd1 8 rfl λK hK=>?_
   refine Yq (base:=w2.heap.size) (b:=w3.heap.size) (el:=[.int .i64 C.kind,.int .u16 C.fr.1,.int .u32 C.fr.2,.int .u64 C.num,.int .u64 C.vw,.slice A1.da C.data.length A1.dc,.int .u64 C.v.id,.slice A1.am C.v.ms.length A1.cm,.slice A1.al C.v.ls.length A1.cl,.slice A1.ad C.v.ds.length A1.cd]) (by rfl) Tryz.underlying147 hi hz0 hz1 hz2 rfl (by decide) (by decide) (Vk.nil _ _ _ _) rfl els hc4 (by decide) hb4.size rfl rfl rfl ?_
   intro v8 w8 hown8 hm8 hn8
   have hb8:Below w2.heap.size w2 w8:=Zz hb4 hm8 (λk e=>by cases e)
   obtain ⟨ra,rc,rfl,-,-,-⟩:=hown8.at (i:=0) rfl
   have hcc:1≤rc:=by obtain ⟨a9,c9,e9,h9⟩:=hown8.sli;cases e9;exact h9
   have HX8:=hid (HB2.out.ext hb8)
   clear hown8 hm8 hn8
   rw [show ∀el:List Value,(([]:List (List Value)) ++ [el]).length=1 from λ_=>rfl]
   refine hK.out _ _ (HS.out _ (HX2.out.ext hb8)) (λhHeld=>?_)
   clear hK K
   try simp only [lay]
   refine rd1 9 rfl λK hK=>?_
   go_simp
   refine hK.out _ _ (HS.out _ (HX2.out.ext hb8)) (λhHeld=>?_)
   clear hK K
   try simp only [lay]
   refine rd1 10 rfl λK hK=>?_
   go_simp
   refine hK.out _ _ (HS.out _ (HX2.out.ext hb8)) (λhHeld=>?_)
   clear hK K
   try simp only [lay]
   refine rd1 11 rfl λK hK=>?_
   have e2:=HX8.out.cell (j:=1) rfl
   have fz:=HX8.out.frozen
   go_simp
   refine hK.out _ _ (HS.out _ ((HX2.out.ext hb8).mut (Zf (G:=λk=>k=b) (Mut.refl _ _) b _ _ rfl) HNE.out.1)) (λhHeld=>?_)
   clear hK K
   try simp only [lay]
   refine dn ?_
   go_wp2_with fail
   go_meet
   exact ⟨hid ⟨ra,rc,HX8.out.set (j:=1) (v:=.slice (some ⟨ra,0,none⟩) 1 rc),hcc⟩,hid (Zf (G:=λk=>k=b∨w2.heap.size≤k) ((Mut.of_below hb8).mono λk _ e=>.inr e) b _ _ (.inl rfl))⟩
  ·go_simp
   refine (CC.out _ (Below.refl _ _).drew).mono ?_
   rintro e w3 ⟨A1,rfl,hc3,hb3⟩
   rw [show Yd A1 C=#[.int .i64 C.kind,.int .u16 C.fr.1,.int .u32 C.fr.2,.int .u64 C.num,.int .u64 C.vw,.slice A1.da C.data.length A1.dc,.int .u64 C.v.id,.slice A1.am C.v.ms.length A1.cm,.slice A1.al C.v.ls.length A1.cl,.slice A1.ad C.v.ds.length A1.cd] from rfl]
   clear hc3
   refine hK.out _ _ (HS.out _ (HX2.out.ext hb3)) (λhHeld=>?_)
   clear hK K
   try simp only [lay]
   refine rd (rs:=[4,7]) ?_
   refine AllReadyH.cons (o:=_) rfl (λK hK=>?_) (AllReadyH.cons (o:=_) rfl (λK hK=>?_) AllReadyH.nil)
   ·have e4:=(HB2.out.ext hb3).cell (j:=1) rfl
    go_simp
    refine hK.out _ _ (HS.out _ (HX2.out.ext hb3)) (λhHeld=>?_)
    clear hK K
    try simp only [lay]
    clear e4
    refine rd1 7 rfl λK hK=>?_
    go_simp
    obtain ⟨w4,hw4⟩:∃z,w3.alloc (.cells #[.int .i64 C.kind,.int .u16 C.fr.1,.int .u32 C.fr.2,.int .u64 C.num,.int .u64 C.vw,.slice A1.da C.data.length A1.dc,.int .u64 C.v.id,.slice A1.am C.v.ms.length A1.cm,.slice A1.al C.v.ls.length A1.cl,.slice A1.ad C.v.ds.length A1.cd] 126)=z:=⟨_,rfl⟩
    have hb34:Below w3.heap.size w3 w4:=by rw [←hw4];exact bra
    have hc4:∀j u,([.int .i64 C.kind,.int .u16 C.fr.1,.int .u32 C.fr.2,.int .u64 C.num,.int .u64 C.vw,.slice A1.da C.data.length A1.dc,.int .u64 C.v.id,.slice A1.am C.v.ms.length A1.cm,.slice A1.al C.v.ls.length A1.cl,.slice A1.ad C.v.ds.length A1.cd]:List Value)[j]?=some u→w4.cell? ⟨w3.heap.size,j,none⟩=some u:=by rw [←hw4];exact λj u hj=>(Zc.made w3 126 [.int .i64 C.kind,.int .u16 C.fr.1,.int .u32 C.fr.2,.int .u64 C.num,.int .u64 C.vw,.slice A1.da C.data.length A1.dc,.int .u64 C.v.id,.slice A1.am C.v.ms.length A1.cm,.slice A1.al C.v.ls.length A1.cl,.slice A1.ad C.v.ds.length A1.cd]).cell hj
    have hb4:Below w2.heap.size w2 w4:=hb3.trans (hb34.mono hb3.size)
    rw [hw4]
    clear hw4 hb34
    refine hK.out _ _ (HS.out _ (HX2.out.ext hb4)) (λhHeld=>?_)
    clear hK K
    try simp only [lay]
    refine rd1 8 rfl λK hK=>?_
    refine Yq (base:=w2.heap.size) (b:=w3.heap.size) (el:=[.int .i64 C.kind,.int .u16 C.fr.1,.int .u32 C.fr.2,.int .u64 C.num,.int .u64 C.vw,.slice A1.da C.data.length A1.dc,.int .u64 C.v.id,.slice A1.am C.v.ms.length A1.cm,.slice A1.al C.v.ls.length A1.cl,.slice A1.ad C.v.ds.length A1.cd]) (by rfl) Tryz.underlying147 hi hz0 hz1 hz2 rfl (by decide) (by decide) (Vk.nil _ _ _ _) rfl els hc4 (by decide) hb4.size rfl rfl rfl ?_
    intro v8 w8 hown8 hm8 hn8
    have hb8:Below w2.heap.size w2 w8:=Zz hb4 hm8 (λk e=>by cases e)
    obtain ⟨ra,rc,rfl,-,-,-⟩:=hown8.at (i:=0) rfl
    have hcc:1≤rc:=by obtain ⟨a9,c9,e9,h9⟩:=hown8.sli;cases e9;exact h9
    have HX8:=hid (HB2.out.ext hb8)
    clear hown8 hm8 hn8
    rw [show ∀el:List Value,(([]:List (List Value)) ++ [el]).length=1 from λ_=>rfl]
    refine hK.out _ _ (HS.out _ (HX2.out.ext hb8)) (λhHeld=>?_)
    clear hK K
    try simp only [lay]
    refine rd1 9 rfl λK hK=>?_
    go_simp
    refine hK.out _ _ (HS.out _ (HX2.out.ext hb8)) (λhHeld=>?_)
    clear hK K
    try simp only [lay]
    refine rd1 10 rfl λK hK=>?_
    go_simp
    refine hK.out _ _ (HS.out _ (HX2.out.ext hb8)) (λhHeld=>?_)
    clear hK K
    try simp only [lay]
    refine rd1 11 rfl λK hK=>?_
    have e2:=HX8.out.cell (j:=1) rfl
    have fz:=HX8.out.frozen
    go_simp
    refine hK.out _ _ (HS.out _ ((HX2.out.ext hb8).mut (Zf (G:=λk=>k=b) (Mut.refl _ _) b _ _ rfl) HNE.out.1)) (λhHeld=>?_)
    clear hK K
    try simp only [lay]
    refine dn ?_
    go_wp2_with fail
    go_meet
    exact ⟨hid ⟨ra,rc,HX8.out.set (j:=1) (v:=.slice (some ⟨ra,0,none⟩) 1 rc),hcc⟩,hid (Zf (G:=λk=>k=b∨w2.heap.size≤k) ((Mut.of_below hb8).mono λk _ e=>.inr e) b _ _ (.inl rfl))⟩
   ·go_simp
    obtain ⟨w4,hw4⟩:∃z,w3.alloc (.cells #[.int .i64 C.kind,.int .u16 C.fr.1,.int .u32 C.fr.2,.int .u64 C.num,.int .u64 C.vw,.slice A1.da C.data.length A1.dc,.int .u64 C.v.id,.slice A1.am C.v.ms.length A1.cm,.slice A1.al C.v.ls.length A1.cl,.slice A1.ad C.v.ds.length A1.cd] 126)=z:=⟨_,rfl⟩
    have hb34:Below w3.heap.size w3 w4:=by rw [←hw4];exact bra
    have hc4:∀j u,([.int .i64 C.kind,.int .u16 C.fr.1,.int .u32 C.fr.2,.int .u64 C.num,.int .u64 C.vw,.slice A1.da C.data.length A1.dc,.int .u64 C.v.id,.slice A1.am C.v.ms.length A1.cm,.slice A1.al C.v.ls.length A1.cl,.slice A1.ad C.v.ds.length A1.cd]:List Value)[j]?=some u→w4.cell? ⟨w3.heap.size,j,none⟩=some u:=by rw [←hw4];exact λj u hj=>(Zc.made w3 126 [.int .i64 C.kind,.int .u16 C.fr.1,.int .u32 C.fr.2,.int .u64 C.num,.int .u64 C.vw,.slice A1.da C.data.length A1.dc,.int .u64 C.v.id,.slice A1.am C.v.ms.length A1.cm,.slice A1.al C.v.ls.length A1.cl,.slice A1.ad C.v.ds.length A1.cd]).cell hj
    have hb4:Below w2.heap.size w2 w4:=hb3.trans (hb34.mono hb3.size)
    rw [hw4]
    clear hw4 hb34
    refine hK.out _ _ (HS.out _ (HX2.out.ext hb4)) (λhHeld=>?_)
    clear hK K
    try simp only [lay]
    refine rd1 4 rfl λK hK=>?_
    have e4:=(HB2.out.ext hb4).cell (j:=1) rfl
    go_simp
    refine hK.out _ _ (HS.out _ (HX2.out.ext hb4)) (λhHeld=>?_)
    clear hK K
    try simp only [lay]
    clear e4
    refine rd1 8 rfl λK hK=>?_
    refine Yq (base:=w2.heap.size) (b:=w3.heap.size) (el:=[.int .i64 C.kind,.int .u16 C.fr.1,.int .u32 C.fr.2,.int .u64 C.num,.int .u64 C.vw,.slice A1.da C.data.length A1.dc,.int .u64 C.v.id,.slice A1.am C.v.ms.length A1.cm,.slice A1.al C.v.ls.length A1.cl,.slice A1.ad C.v.ds.length A1.cd]) (by rfl) Tryz.underlying147 hi hz0 hz1 hz2 rfl (by decide) (by decide) (Vk.nil _ _ _ _) rfl els hc4 (by decide) hb4.size rfl rfl rfl ?_
    intro v8 w8 hown8 hm8 hn8
    have hb8:Below w2.heap.size w2 w8:=Zz hb4 hm8 (λk e=>by cases e)
    obtain ⟨ra,rc,rfl,-,-,-⟩:=hown8.at (i:=0) rfl
    have hcc:1≤rc:=by obtain ⟨a9,c9,e9,h9⟩:=hown8.sli;cases e9;exact h9
    have HX8:=hid (HB2.out.ext hb8)
    clear hown8 hm8 hn8
    rw [show ∀el:List Value,(([]:List (List Value)) ++ [el]).length=1 from λ_=>rfl]
    refine hK.out _ _ (HS.out _ (HX2.out.ext hb8)) (λhHeld=>?_)
    clear hK K
    try simp only [lay]
    refine rd1 9 rfl λK hK=>?_
    go_simp
    refine hK.out _ _ (HS.out _ (HX2.out.ext hb8)) (λhHeld=>?_)
    clear hK K
    try simp only [lay]
    refine rd1 10 rfl λK hK=>?_
    go_simp
    refine hK.out _ _ (HS.out _ (HX2.out.ext hb8)) (λhHeld=>?_)
    clear hK K
    try simp only [lay]
    refine rd1 11 rfl λK hK=>?_
    have e2:=HX8.out.cell (j:=1) rfl
    have fz:=HX8.out.frozen
    go_simp
    refine hK.out _ _ (HS.out _ ((HX2.out.ext hb8).mut (Zf (G:=λk=>k=b) (Mut.refl _ _) b _ _ rfl) HNE.out.1)) (λhHeld=>?_)
    clear hK K
    try simp only [lay]
    refine dn ?_
    go_wp2_with fail
    go_meet
    exact ⟨hid ⟨ra,rc,HX8.out.set (j:=1) (v:=.slice (some ⟨ra,0,none⟩) 1 rc),hcc⟩,hid (Zf (G:=λk=>k=b∨w2.heap.size≤k) ((Mut.of_below hb8).mono λk _ e=>.inr e) b _ _ (.inl rfl))⟩
 case rest =>
  obtain ⟨HX,HM⟩:=hcut
  rename World=>w9
  obtain ⟨ra,rc,hx,hcc⟩:=HX.out
  have c0:=hx.cell (j:=0) rfl
  have fz:=hx.frozen
  have HX9:=hid hx
  clear hx e4
  go_wp2_with fail
  go_ret
  refine ⟨_,_,hcc,rfl,Zf (G:=λk=>k=b∨w.heap.size≤k) (((Mut.of_below HW2.out).mono λk _ e=>.inr e).trans (HM.out.mono λk _ e=>e.imp id (Nat.le_trans HW2.out.size))) b _ _ (.inl rfl),HX9.out.set (j:=0) (v:=.int .u64 1)⟩
section
variable {w:World} {b:Nat} {v:Int} {g c:Nat}
set_option maxRecDepth 100000 in
set_option maxHeartbeats 1600000 in
theorem qDone (hB:Zc w b 159 [.int .u64 v,.int .u64 1,.slice (some ⟨g,0,none⟩) 1 c]) (hc:1≤c):Calls Tryz.prog 317 #[.pointer (some ⟨b,0,none⟩),.int .u64 1] w λe w'=>∃a c',e=.returned (.int .i64 1)∧Mut (λk=>k=b∨w.heap.size≤k) w w'∧Zc w' b 159 [.int .u64 v,.int .u64 1,.slice a 0 c']:=by
 have CF:=hid (qFirst hB)
 have HB:=hid hB
 clear hB
 go_enter Tryz.func317,Tryz.ntmps317
 go_wp2_with fail
 refine CF.out.mono ?_
 rintro e w2 ⟨rfl,hb2⟩
 have HB2:=hid (HB.out.ext hb2)
 have HW2:=hid hb2
 clear CF hb2 HB
 go_upto_region 3 with fail
 have c2:=Za (HB2.out.cell (j:=2) rfl)
 have CQ:∀U:YB w2,Calls Tryz.prog 192 #[.pointer (some ⟨b,0,none⟩)] U.W λe w'=>e=.returned (.int .u64 1)∧∃U':YB w2,w'=U'.W:=λU=>ZN (qFirst (HB2.out.ext U.h)) rfl
 refine Ze (w:=w2) (Below.refl _ _) (by kernel_rfl) (by kernel_rfl) ?_
 repeat (go_big_quiet_step (with_reducible exact CQ _))
 refine wpQuiet_nil ?_
 rintro w3 ⟨⟨_,hb3⟩,rfl⟩
 have HB3:=hid (HB2.out.ext hb3)
 have HW3:=hid (HW2.out.trans (hb3.mono HW2.out.size))
 clear c2 CQ hb3 HB2 HW2
 have c2:=HB3.out.cell (j:=2) rfl
 have fz:=HB3.out.frozen
 go_wp2_with fail
 all_goals
  go_ret
  exact ⟨rfl,Zf (G:=λk=>k=b∨w.heap.size≤k) ((Mut.of_below HW3.out).mono λk _ e=>.inr e) b _ _ (.inl rfl),_,_,HB3.out.set (j:=2)⟩
end
structure zab (C:Xu) (x y:Int) (i:Nat):Prop where
 k:C.kind=2
 fr:C.fr=(x,y)
 num:C.num=1
 vw:C.vw=i
 v:C.v=ZS
theorem zab.cells {C:Xu} {x y:Int} {i:Nat} (h:zab C x y i) (B:MA):Yd B C=#[.int .i64 2,.int .u16 x,.int .u32 y,.int .u64 1,.int .u64 i,.slice B.da C.data.length B.dc,.int .u64 0,.slice B.am 0 B.cm,.slice B.al 0 B.cl,.slice B.ad 0 B.cd]:=by
 obtain ⟨kd,fr,nu,vw,da,V⟩:=C
 obtain ⟨h1,h2,h3,h4,h5⟩:=h
 simp only at h1 h2 h3 h4 h5
 subst h1;subst h2;subst h3;subst h4;subst h5
 rfl
set_option maxRecDepth 100000 in
set_option maxHeartbeats 3200000 in
theorem sCounts {V:Zs} {i:Nat} {A:VAd} {w:World} {b sm:Nat} {x y:Int} {bd:List Value} {N:Nat→Prop} {B:MA} {C:Xu} (hi:V.id=(i:Int)) (hB:Zc w b 247 (vcl V i A ++ .map (some sm) :: bd)) (hV:Zt w A.am A.al A.ad V) (hM:Zj w sm Yg n64 []) (hp:(x,y)∈V.ms) (hC:CR w N B C) (hs:zab C x y i) (hfr:okP (x,y)) (hc:YE C=0) :
  Calls Tryz.prog 336 #[.pointer (some ⟨b,0,none⟩),.agg (Yd B C)] w λe w'=>e=.returned (.bool true)∧Below w.heap.size w w':=by
 obtain ⟨am,al,ad,cm,cl,cd⟩:=A
 obtain ⟨n1,e1⟩:∃q,V.ms.length=q:=⟨_,rfl⟩
 obtain ⟨n2,e2⟩:∃q,V.ls.length=q:=⟨_,rfl⟩
 obtain ⟨n3,e3⟩:∃q,V.ds.length=q:=⟨_,rfl⟩
 have hB:Zc w b 247 ([.int .u64 i,.slice am n1 cm,.slice al n2 cl,.slice ad n3 cd] ++ .map (some sm) :: bd):=by
  have:=hB;unfold vcl at this;rw [e1,e2,e3] at this;exact this
 have hCC:=hs.cells B
 obtain ⟨W1,hW1⟩:∃W1,w.alloc (.cells #[.int .i64 2,.int .u16 x,.int .u32 y,.int .u64 1,.int .u64 i,.slice B.da C.data.length B.dc,.int .u64 0,.slice B.am 0 B.cm,.slice B.al 0 B.cl,.slice B.ad 0 B.cd] 126)=W1:=⟨_,rfl⟩
 have hb1:Below w.heap.size w W1:=by rw [←hW1];exact bra
 have xC:Zc W1 w.heap.size 126 [.int .i64 2,.int .u16 x,.int .u32 y,.int .u64 1,.int .u64 i,.slice B.da C.data.length B.dc,.int .u64 0,.slice B.am 0 B.cm,.slice B.al 0 B.cl,.slice B.ad 0 B.cd]:=by rw [←hW1];exact Zc.made _ _ [.int .i64 2,.int .u16 x,.int .u32 y,.int .u64 1,.int .u64 i,.slice B.da C.data.length B.dc,.int .u64 0,.slice B.am 0 B.cm,.slice B.al 0 B.cl,.slice B.ad 0 B.cd]
 have CK:=Fy (hC.ext hb1) (by rw [hs.fr];exact hfr) hc
 rw [hCC] at CK
 have CK:=hid CK
 have k0:=xC.cell (j:=0) rfl
 have k1:=xC.cell (j:=1) rfl
 have k2:=xC.cell (j:=2) rfl
 have k3:=xC.cell (j:=3) rfl
 have k4:=xC.cell (j:=4) rfl
 have k5:=xC.cell (j:=5) rfl
 have k6:=xC.cell (j:=6) rfl
 have k7:=xC.cell (j:=7) rfl
 have k8:=xC.cell (j:=8) rfl
 have k9:=xC.cell (j:=9) rfl
 have HB1:=hid (hB.ext hb1)
 have HX1:=hid xC
 have HV1:=hid (hV.ext hb1)
 have HM1:=hid (hM.ext hb1)
 have HW1:=hid hb1
 have HP:=hid hp
 have HE:=hid (And.intro e1 (And.intro e2 (And.intro e3 hi)))
 rw [hCC]
 clear hB hC hfr hc hb1 xC hV hM hp e1 e2 e3 hi hCC hs
 go_enter Tryz.func336,Tryz.ntmps336
 go_upto_region 1 with fail
 try rw [hW1]
 clear hW1
 go_wp2_with fail
 refine CK.out.mono ?_
 rintro e w2 ⟨rfl,hb2⟩
 have HB2:=hid (HB1.out.ext hb2)
 have HX2:=hid (HX1.out.ext hb2)
 have HV2:=hid (HV1.out.ext hb2)
 have HM2:=hid (HM1.out.ext hb2)
 have HW2:=hid (HW1.out.trans (hb2.mono HW1.out.size))
 clear CK k0 k1 k2 k3 k4 k5 k6 k7 k8 k9 hb2 HB1 HX1 HV1 HM1 HW1
 have k0:=HX2.out.cell (j:=0) rfl
 go_upto_region 5 with fail
 clear k0
 have k1:=Za (HX2.out.cell (j:=1) rfl)
 have k2:=Za (HX2.out.cell (j:=2) rfl)
 have k3:=Za (HX2.out.cell (j:=3) rfl)
 have k4:=Za (HX2.out.cell (j:=4) rfl)
 have s0:=Za (HB2.out.cell (j:=0) rfl)
 have s1:=Za (HB2.out.cell (j:=1) rfl)
 have s2:=Za (HB2.out.cell (j:=2) rfl)
 have s3:=Za (HB2.out.cell (j:=3) rfl)
 have s4:=Za (HB2.out.cell (j:=4) rfl)
 have hl:∀U:YB w2,(Instr.lookup 196 (.map (some sm)) (.agg #[.int .u16 x,.int .u32 y]) false).run Tryz.prog U.W=.ok (.int .u64 0) U.W:=λU=>(HM2.out.ext U.h).none64 x y
 have CH:∀U:YB w2,Calls Tryz.prog 27 #[.agg #[.int .u64 i,.slice am n1 cm,.slice al n2 cl,.slice ad n3 cd],.agg #[.int .u16 x,.int .u32 y]] U.W λe w'=>e=.returned (.bool true)∧∃U':YB w2,w'=U'.W:=λU=>by
  have h:=XO V am al ad cm cl cd x y U.W (HV2.out.ext U.h)
  rw [HE.out.1,HE.out.2.1,HE.out.2.2.1,HE.out.2.2.2,show decide ((x,y)∈V.ms)=true from decide_eq_true HP.out] at h
  exact ZN h rfl
 refine Ze (w:=w2) (Below.refl _ _) (by kernel_rfl) (by kernel_rfl) ?_
 repeat (go_big_quiet_step (with_reducible exact CH _))
 refine wpQuiet_nil ?_
 rintro w3 ⟨⟨_,hb3⟩,rfl⟩
 go_wp2_with fail
 go_ret
 exact ⟨rfl,HW2.out.trans (hb3.mono HW2.out.size)⟩
end Go.Proofs.YtcdpaflmofljaaaGreat
