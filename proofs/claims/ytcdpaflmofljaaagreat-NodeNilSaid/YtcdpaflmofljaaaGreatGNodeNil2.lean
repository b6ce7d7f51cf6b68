import Derived.Test.YtcdpaflmofljaaaGreatGNodeNil1
/- Parts of the proof of NodeNil: X23. -/
namespace Go.Proofs.YtcdpaflmofljaaaGreat
open Go.RowKit
set_option maxRecDepth 100000 in
set_option maxHeartbeats 400000 in
theorem zbf (a:Option Addr) (c:Nat) (xs:List Pid) (w:World) (hn:xs.length≤70368744177664) (hrow:Zb w a xs) :
  Calls Tryz.prog 284 #[.slice a xs.length c] w λe w'=>e=.returned (.bool (Xv xs))∧Below w.heap.size w w':=by
 have hmm:=@run_makeMap Tryz.prog
 go_enter Tryz.func284,Tryz.ntmps284
 go_wp2
 go_loopw [2,11] (λr i wr=>r=.bool false∧∃(k:Nat) (S:List (Int × Unit)),k≤xs.length∧i=.int .i64 k∧Hid (Xv xs=XS xs.length S (xs.drop k))∧Below w.heap.size w wr∧Zj wr w.heap.size e16 eU S) (λ_ i _=>xs.length - (intOf i).toNat)
 case atStart=>exact ⟨rfl,0,[],Nat.zero_le _,rfl,rfl,bra,Zj.made _⟩
 case round =>
  obtain ⟨rfl,k,S,hk,rfl,ha,hb,hM⟩:=hrel
  by_cases hlt:k<xs.length
  ·obtain ⟨b,off,x,y,rfl,hx,d1,d2⟩:=hrow.at hb rfl hlt
   have HX:=hid hx
   clear hx hrow
   have hB1:Below w.heap.size w (wr.alloc (.cells #[.int .u16 x,.int .u32 y] 25)):=hb.alloc hb.size _
   have hB2:Below w.heap.size w ((wr.alloc (.cells #[.int .u16 x,.int .u32 y] 25)).alloc (.cells #[] 151)):=hB1.alloc hB1.size _
   have hs2:=hB2.size
   have hd:=zau (n:=xs.length) (S:=S) hlt HX.out
   cases hs:(Yz x S).isSome
   ·have HS:=hid hs
    clear hs
    cases hm:KM (x,y)
    ·have HM:=hid hm
     have HD:=hid hd
     clear hm hd
     go_wp2_with (first
      | (at_lookup;refine Zw XF Tryz.underlying324 (.agg #[]) Km (hM.alloc _) x _ (XA _ _) HS rfl rfl rfl rfl ?_)
      | (go_at_call 159;refine (EU HM).mono ?_;rintro e w1 ⟨rfl,hb1⟩;obtain ⟨hc1,hf1⟩:=JY hb1))
     go_ret
     exact ⟨Zm (by rw [ha.out,HD.out,HS.out,HM.out];rfl),hB2.trans (hb1.mono hs2)⟩
    ·have HM:=hid hm
     have HD:=hid hd
     clear hm hd
     go_wp2_with (first
      | (at_lookup;refine Zw XF Tryz.underlying324 (.agg #[]) Km (hM.alloc _) x _ (XA _ _) HS rfl rfl rfl rfl ?_)
      | (at_mapUpdate;refine Ya XF Tryz.underlying324 (((hM.alloc _).alloc _).ext ‹_›) x () rfl rfl rfl rfl rfl ?_;intro w2 hM2 hbut)
      | (go_at_call 159;refine (EU HM).mono ?_;rintro e w1 ⟨rfl,hb1⟩;obtain ⟨hc1,hf1⟩:=JY hb1))
     go_roundw
     case rel=>exact ⟨rfl,k+1,_,by omega,by go_num,(ha.out.trans (by rw [HD.out,HS.out,HM.out];rfl):_),(hB2.trans (hb1.mono hs2)).trans (hbut.below (Nat.le_refl _)),hM2⟩
     case measure=>simp [intOf];omega
   ·have HS:=hid hs
    have HD:=hid hd
    clear hs hd
    go_wp2_with (first
      | (at_lookup;refine Zw XF Tryz.underlying324 (.agg #[]) Km (hM.alloc _) x _ (XA _ _) HS rfl rfl rfl rfl ?_))
    go_ret
    exact ⟨Zm (by rw [ha.out,HD.out,HS.out];rfl),hB2⟩
  ·by_cases h0:0<xs.length
   ·by_cases h1:xs.length≤24
    ·go_wp2
     go_ret
     exact ⟨Zm (by rw [ha.out,List.drop_eq_nil_of_le (by omega)];simp [XS,h0];omega),hb⟩
    ·go_wp2
     go_ret
     exact ⟨Zm (by rw [ha.out,List.drop_eq_nil_of_le (by omega)];simp [XS,h1];omega),hb⟩
   ·go_wp2
    go_ret
    exact ⟨Zm (by rw [ha.out,List.drop_eq_nil_of_le (by omega)];simp [XS];omega),hb⟩
set_option maxRecDepth 100000 in
set_option maxHeartbeats 400000 in
theorem zdg (V:Zs) (am al ad:Option Addr) (cm cl cd:Nat) (w:World) (hV:Zt w am al ad V) :
  Calls Tryz.prog 285 #[.agg #[.int .u64 V.id,.slice am V.ms.length cm,.slice al V.ls.length cl,.slice ad V.ds.length cd]] w λe w'=>∃r,e=.returned (.map (some r))∧w.heap.size≤r∧Below w.heap.size w w'∧Zj w' r Yg eI (XI V.ms):=by
 have hmm:=@run_makeMap Tryz.prog
 have hn:=hV.lm
 have hrow:=hV.ms
 go_enter Tryz.func285,Tryz.ntmps285
 go_wp2
 go_loopw [12] (λi wr=>∃(k:Nat) (S:List (Pid × Int)),k≤V.ms.length∧i=.int .i64 k∧Hid (XI V.ms=XE S (V.ms.drop k) k)∧Below w.heap.size w wr∧w.heap.size+1<wr.heap.size∧Zj wr (w.heap.size+1) Yg eI S) (λi _=>V.ms.length - (intOf i).toNat)
 case atStart=>exact ⟨0,[],Nat.zero_le _,rfl,rfl,(bra).alloc (by simp) _,by simp,Zj.made' _ (by simp)⟩
 case round =>
  obtain ⟨k,S,hk,rfl,ha,hb,hz,hM⟩:=hrel
  by_cases hlt:k<V.ms.length
  ·obtain ⟨b,off,x,y,rfl,hx,d1,d2⟩:=hrow.at hb rfl hlt
   have hd:=Gu (S:=S) hlt hx
   have HX:=hid hx
   clear hx hrow hV
   have hB1:Below w.heap.size w (wr.alloc (.cells #[.int .u16 x,.int .u32 y] 25)):=hb.alloc hb.size _
   cases hs:(Yz (x,y) S).isSome
   ·have HS:=hid hs
    have HD:=hid hd
    clear hs hd
    go_wp2_with (first
     | (at_lookup;refine Zw Xa Tryz.underlying170 (.int .i64 0) zcA (hM.alloc _) (x,y) _ (FH _ _) HS rfl rfl rfl rfl ?_)
     | (at_mapUpdate;refine Ya Xa Tryz.underlying170 (hM.alloc _) (x,y) (k:Int) rfl rfl rfl rfl rfl ?_;intro w2 hM2 hbut))
    go_roundw
    case rel=>exact ⟨k+1,_,by omega,by go_num,(ha.out.trans (by rw [HD.out,HS.out];rfl):_),hB1.trans (hbut.below (by omega)),by have:=hbut.size;simp at this;omega,hM2⟩
    case measure=>simp [intOf];omega
   ·have HS:=hid hs
    have HD:=hid hd
    clear hs hd
    go_wp2_with (first
     | (at_lookup;refine Zw Xa Tryz.underlying170 (.int .i64 0) zcA (hM.alloc _) (x,y) _ (FH _ _) HS rfl rfl rfl rfl ?_))
    go_roundw
    case rel=>exact ⟨k+1,_,by omega,by go_num,(ha.out.trans (by rw [HD.out,HS.out];rfl):_),hB1,by simp;omega,hM.alloc _⟩
    case measure=>simp [intOf];omega
  ·go_wp2
   go_ret
   exact ⟨_,rfl,by omega,hb,by rw [ha.out,List.drop_eq_nil_of_le (by omega)];exact hM⟩
set_option maxRecDepth 100000 in
set_option maxHeartbeats 400000 in
theorem zcr (r:Nat) (S:List (Pid × Int)) (a:Option Addr) (c:Nat) (xs:List Pid) (w:World) (hn:xs.length≤70368744177664) (hrow:Zb w a xs) (hM0:Zj w r Yg eI S) :
  Calls Tryz.prog 286 #[.map (some r),.slice a xs.length c] w λe w'=>e=.returned (.bool (Yu S (-1) xs))∧Below w.heap.size w w':=by
 go_enter Tryz.func286,Tryz.ntmps286
 go_wp2
 go_loopw [4,5,12] (λrs l i wr=>rs=.bool false∧∃(k:Nat) (last:Int),k≤xs.length∧i=.int .i64 k∧l=.int .i64 last∧Hid (Yu S (-1) xs=Yu S last (xs.drop k))∧Below w.heap.size w wr) (λ_ _ i _=>xs.length - (intOf i).toNat)
 case atStart=>exact ⟨rfl,0,-1,Nat.zero_le _,rfl,rfl,rfl,Below.refl _ _⟩
 case round =>
  obtain ⟨rfl,k,last,hk,rfl,rfl,ha,hb⟩:=hrel
  by_cases hlt:k<xs.length
  ·obtain ⟨b,off,x,y,rfl,hx,d1,d2⟩:=hrow.at hb rfl hlt
   have hd:=Eh (S:=S) (last:=last) hlt hx
   have HX:=hid hx
   clear hx hrow
   have hM:Zj wr r Yg eI S:=hM0.same (hb.block _ hM0.lt)
   have hB1:Below w.heap.size w (wr.alloc (.cells #[.int .u16 x,.int .u32 y] 25)):=hb.alloc hb.size _
   rcases hs:Yz (x,y) S with _ | q
   ·have HS:=hid (show (Yz (x,y) S).isSome=false by rw [hs];rfl)
    have HL:Hid (Yz (x,y) S=none):=hs
    have HD:=hid hd
    clear hs hd
    go_wp2_with (first
     | (at_lookup;refine Zw Xa Tryz.underlying170 (.int .i64 0) zcA (hM.alloc _) (x,y) (.int .i64 0) (by rw [HL.out];rfl) HS rfl rfl rfl rfl ?_))
    go_ret
    exact ⟨Zm (by rw [ha.out,HD.out,HL.out]),hB1⟩
   ·have HS:=hid (show (Yz (x,y) S).isSome=true by rw [hs];rfl)
    have HL:Hid (Yz (x,y) S=some q):=hs
    have HD:=hid hd
    clear hs hd
    by_cases hq:q≤last
    ·go_wp2_with (first
      | (at_lookup;refine Zw Xa Tryz.underlying170 (.int .i64 0) zcA (hM.alloc _) (x,y) (.int .i64 q) (by rw [HL.out];rfl) HS rfl rfl rfl rfl ?_))
     go_ret
     exact ⟨Zm (by rw [ha.out,HD.out,HL.out];simp [hq]),hB1⟩
    ·go_wp2_with (first
      | (at_lookup;refine Zw Xa Tryz.underlying170 (.int .i64 0) zcA (hM.alloc _) (x,y) (.int .i64 q) (by rw [HL.out];rfl) HS rfl rfl rfl rfl ?_))
     go_roundw
     case rel=>exact ⟨rfl,k+1,q,by omega,by go_num,rfl,(ha.out.trans (by rw [HD.out,HL.out];simp [hq]):_),hB1⟩
     case measure=>simp [intOf];omega
  ·go_wp2
   go_ret
   exact ⟨Zm (by rw [ha.out,List.drop_eq_nil_of_le (by omega)];rfl),hb⟩
set_option maxRecDepth 100000 in
set_option maxHeartbeats 400000 in
theorem grow_any (n:Nat) (w:World) (hn:n≤1099511627776) :
  Calls Tryz.prog 252 #[.slice none 0 0,.int .i64 n] w λe w'=>∃v,e=.returned v∧Zy w' w.heap.size v []∧Below w.heap.size w w':=by
 obtain ⟨i0,hi,hz0,hz1,hz2⟩:=info_parts EE
 by_cases h0:n=0
 ·subst h0
  go_enter Tryz.func252,Tryz.ntmps252
  go_wp2
  go_ret
  exact ⟨_,rfl,Zy.nil _ _,Below.refl _ _⟩
 ·have h1:(0:Int)<n:=by omega
  have hrz:∀ty,(Builtin.append_ #[26,3] ty #[.slice none 0 0,.int .i64 n]).run Tryz.prog w =
    .ok (.slice (some ⟨w.heap.size,0,none⟩) n (grownCap w n 0 25)) (w.drew.alloc (.cells ((#[]:Array Value) ++ Builtin.zeroCells #[.int .u16 0,.int .u32 0] n ++ Builtin.zeroCells #[.int .u16 0,.int .u32 0] (grownCap w n 0 25 - n)) 25)):=λty=>by
   have h:=Lib.run_append_grow_zeros w 26 3 ty 25 i0 _ .i64 .i64 Tryz.underlying26 Tryz.underlying3 hi hz0 none 0 0 [] (run_firstCells_none w.drew i0.size 0 0 0) n (by omega) (by omega) (by omega) (by omega) (by rw [hz2];omega) (by rw [hz2];simp [Builtin.nextslicecap];split <;> omega)
   simpa [Value.cells] using h
  have hGn:n≤grownCap w n 0 25:=grownCap_ge w _ _ _
  have hG63:grownCap w n 0 25≤maxLen:=grownCap_le_maxLen w n 0 25 (by unfold maxLen;omega)
  obtain ⟨G,hG⟩:∃G,G=grownCap w n 0 25:=⟨_,rfl⟩
  rw [←hG] at hrz hGn hG63
  clear hG h0
  have hown:Zy (w.drew.alloc (.cells ((#[]:Array Value) ++ Builtin.zeroCells #[.int .u16 0,.int .u32 0] n ++ Builtin.zeroCells #[.int .u16 0,.int .u32 0] (G - n)) 25)) w.heap.size (.slice (some ⟨w.heap.size,0,none⟩) 0 G) [] :=
   World.ownsRow_made (w:=w.drew) _ G (Nat.le_refl _) hG63 (by simp [size_zeroCells];omega)
  have hB:Below w.heap.size w (w.drew.alloc (.cells ((#[]:Array Value) ++ Builtin.zeroCells #[.int .u16 0,.int .u32 0] n ++ Builtin.zeroCells #[.int .u16 0,.int .u32 0] (G - n)) 25)):=(Below.refl _ _).drew.alloc (Nat.le_refl _) _
  generalize (w.drew.alloc (.cells ((#[]:Array Value) ++ Builtin.zeroCells #[.int .u16 0,.int .u32 0] n ++ Builtin.zeroCells #[.int .u16 0,.int .u32 0] (G - n)) 25))=w1 at hrz hown hB
  go_enter Tryz.func252,Tryz.ntmps252
  go_wp2_with (at_builtin;refine Lib.wpList_append_run _ rfl _ _ _ _ rfl _ _ rfl rfl _ _ (hrz _) ?_)
  all_goals (go_ret;exact ⟨_,rfl,hown,hB⟩)
set_option maxRecDepth 100000 in
set_option maxHeartbeats 800000 in
theorem GZ (a:Option Addr) (c:Nat) (ls:List (List Pid)) (w:World) (hn:ls.length≤70368744177664) (hl:Kg ls≤549755813888) (hrow:Zp w a ls) :
  Calls Tryz.prog 161 #[.slice a ls.length c] w λe w'=>∃v,e=.returned v∧Zy w' w.heap.size v ls.flatten∧Below w.heap.size w w':=by
 go_enter Tryz.func161,Tryz.ntmps161
 go_wp2
 go_loop [3,11] (λn i=>∃(k:Nat),k≤ls.length∧i=.int .i64 k∧n=.int .i64 (Kg (ls.take k))) (λ_ i=>ls.length - (intOf i).toNat)
 case atStart=>exact ⟨0,Nat.zero_le _,rfl,by simp [Kg]⟩
 case round =>
  obtain ⟨k,hk,rfl,rfl⟩:=hrel
  have hle:=Vc ls k
  by_cases hlt:k<ls.length
  ·obtain ⟨b,off,ai,ci,l,rfl,hx,d1,d2⟩:=hrow.at (Below.refl _ _) rfl hlt
   have hs:=Ve hlt
   rw [←hx] at hs
   have hle':=Vc ls (k+1)
   have HS:=hid hs
   have hl2:Kg (ls.take k)+l.length≤549755813888:=by omega
   clear hs hx hle'
   generalize hT:Kg (ls.take k)=T at *
   have HT:=hid hT
   clear hT
   go_wp2
   go_round
   case rel=>exact ⟨k+1,by omega,by go_num,by rw [HS.out];go_num⟩
   case measure=>simp [intOf];omega
  ·have hall:=Jo (ls:=ls) (k:=k) (by omega)
   rw [hall]
   clear hall hle
   go_wp2_with (go_at_call 252;refine (grow_any _ _ (by omega)).mono ?_;rintro e w1 ⟨v1,rfl,hown1,hb1⟩)
   go_loopw [6,27] (λv i wr=>∃(k:Nat),k≤ls.length∧i=.int .i64 k∧Zy wr w.heap.size v (ls.take k).flatten∧Below w.heap.size w wr) (λ_ i _=>ls.length - (intOf i).toNat)
   case atStart=>exact ⟨0,Nat.zero_le _,rfl,by simpa using hown1,hb1⟩
   case round =>
    obtain ⟨j,hj,rfl,hown,hb⟩:=hrel
    by_cases hjt:j<ls.length
    ·obtain ⟨b,off,ai,ci,l,rfl,hx,d1,d2⟩:=hrow.at hb rfl hjt
     have hf:=Jt hjt
     have hs:=Ve hjt
     rw [←hx] at hf hs
     have hle':=Vc ls (j+1)
     have hlf:=XD (ls.take j)
     have HF:=hid hf
     have hl2:(ls.take j).flatten.length+l.length≤1099511627776:=by omega
     clear hs hx hf hlf hle' hrow
     generalize hT:(ls.take j).flatten=T at *
     have HT:=hid hT
     clear hT
     go_wp2_with (at_builtin;refine ZQ hown d2 hl2 hb.size rfl rfl rfl rfl ?_;intro v2 w2 hown2 hg2 hnil2)
     go_roundw
     case rel=>exact ⟨j+1,by omega,by go_num,by rw [HF.out];exact hown2,hb.grown hg2 hb.size (λg hg=>(World.ownsRow.lt hown g hg).1)⟩
     case measure=>simp [intOf];omega
    ·have hall:(ls.take j).flatten=ls.flatten:=by rw [List.take_of_length_le (by omega)]
     rw [hall] at hown
     clear hall
     go_wp2
     go_ret
     exact ⟨_,rfl,hown,hb⟩
theorem Vt {r:Nat} {S:List (Pid × Int)} {a:Option Addr} {c:Nat} {xs:List Pid} {w:World} {bm:Bool} (h:Hid (Yu S (-1) xs=bm)) (hn:xs.length≤70368744177664) (hrow:Zb w a xs) (hM0:Zj w r Yg eI S) :
  Calls Tryz.prog 286 #[.map (some r),.slice a xs.length c] w λe w'=>e=.returned (.bool bm)∧Below w.heap.size w w':=by
 have:=zcr r S a c xs w hn hrow hM0
 rw [h.out] at this
 exact this
theorem Jk {a:Option Addr} {c:Nat} {ls:List (List Pid)} {w:World} {fl:List Pid} (h:Hid (ls.flatten=fl)) (hn:ls.length≤70368744177664) (hl:Kg ls≤549755813888) (hrow:Zp w a ls) :
  Calls Tryz.prog 161 #[.slice a ls.length c] w λe w'=>∃a3 c3,e=.returned (.slice a3 fl.length c3)∧Zb w' a3 fl∧Below w.heap.size w w':=by
 refine (GZ a c ls w hn hl hrow).mono ?_
 rintro e w' ⟨v,rfl,hown,hb⟩
 rw [h.out] at hown
 obtain ⟨a3,c3,rfl,hr,_⟩:=hown.row
 exact ⟨a3,c3,rfl,hr,hb⟩
theorem Fd {a:Option Addr} {c:Nat} {xs:List Pid} {w:World} {bm:Bool} (h:Hid (Xv xs=bm)) (hn:xs.length≤70368744177664) (hrow:Zb w a xs) :
  Calls Tryz.prog 284 #[.slice a xs.length c] w λe w'=>e=.returned (.bool bm)∧Below w.heap.size w w':=by
 have:=zbf a c xs w hn hrow
 rw [h.out] at this
 exact this
set_option maxRecDepth 100000 in
set_option maxHeartbeats 6000000 in
theorem Eq (V:Zs) (am al ad:Option Addr) (cm cl cd:Nat) (w:World) (hV:Zt w am al ad V) (hsum:Kg V.ls≤549755813888) :
  Calls Tryz.prog 193 #[.agg #[.int .u64 V.id,.slice am V.ms.length cm,.slice al V.ls.length cl,.slice ad V.ds.length cd]] w λe w'=>e=.returned (.int .i64 (errB (Xh V)))∧Below w.heap.size w w':=by
 have hBx:Below w.heap.size w (w.alloc (.cells #[.int .u64 V.id,.slice am V.ms.length cm,.slice al V.ls.length cl,.slice ad V.ds.length cd] 35)):=bra
 have hVx:=hV.ext hBx
 have hbx:ZB _ _ V am al ad cm cl cd:=ZB.made w
 by_cases h1:1≤V.id
 ·by_cases h2:V.id≤4611686018427387904
  ·cases hm:Xv V.ms
   ·have HM:=hid hm
    clear hm
    go_enter Tryz.func193,Tryz.ntmps193
    go_wp2_with (go_at_call 284;refine (Fd HM hV.lm hVx.ms).mono ?_;rintro e w1 ⟨rfl,hb1⟩;obtain ⟨hc1,hf1⟩:=JY hb1)
    go_ret
    exact ⟨ZE (by rw [checkB_3 HM.out];rfl),hBx.trans (hb1.mono hBx.size)⟩
   ·have HM:=hid hm
    have hspec:=hid (checkB_4 h1 h2 hm)
    clear hm
    go_enter Tryz.func193,Tryz.ntmps193
    go_wp2_with (first
     | (go_at_call 284;refine (Fd HM hV.lm hVx.ms).mono ?_;rintro e w1 ⟨rfl,hb1⟩;obtain ⟨b0,b1,b2,b3⟩:=hbx.ext hb1 (by simp))
     | (go_at_call 285;refine (zdg V _ _ _ _ _ _ _ (hVx.ext hb1)).mono ?_;rintro e w2 ⟨r,rfl,hr,hb2,hM2⟩;obtain ⟨d0,d1,d2,d3⟩:=(hbx.ext hb1 (by simp)).ext hb2 (by have:=hb1.size;simp at this;omega)))
    have hz1:=hb1.size
    have hz2:=hb2.size
    simp at hz1
    have hV2:=(hVx.ext hb1).ext hb2
    have hbx2:ZB w2 w.heap.size V am al ad cm cl cd:=⟨d0,d1,d2,d3⟩
    have hB2:Below w.heap.size w w2:=(hBx.trans (hb1.mono hBx.size)).trans (hb2.mono (by omega))
    have hrl:=hM2.lt
    clear hb1 hb2 b0 b1 b2 b3 hr hVx hbx hBx hV
    go_loopw [2,4,5,27] (λrs v n i wr=>rs=.int .i64 0∧∃(k:Nat) (F:List Pid) (m:Nat),k≤V.ls.length∧i=.int .i64 k∧n=.int .i64 m∧m=Kg (V.ls.take k)∧F.length≤m∧Hid (Xh V=XQ (XI V.ms) (VT V) F m (V.ls.drop k))∧Zy wr w2.heap.size v F∧Below w2.heap.size w2 wr) (λ_ _ _ i _=>V.ls.length - (intOf i).toNat)
    case atStart=>exact ⟨rfl,0,[],0,Nat.zero_le _,rfl,rfl,by simp [Kg],by simp,hspec,Zy.nil _ _,Below.refl _ _⟩
    case round =>
     obtain ⟨rfl,k,F,m,hk,rfl,rfl,hm,hF,hsp,hown,hb⟩:=hrel
     have hbxr:=hbx2.ext hb hbx2.lt
     obtain ⟨e0,e1,e2,e3⟩:=hbxr
     have hVr:=hV2.ext hb
     have hMr:=hM2.ext hb
     have hBr:Below w.heap.size w wr:=hB2.trans (hb.mono hB2.size)
     have hzr:=hb.size
     have hll2:=hV2.ll
     by_cases hlt:k<V.ls.length
     ·obtain ⟨b,off,ai,ci,l,rfl,hx,f1,f2⟩:=hVr.ls.at (Below.refl _ _) rfl hlt
      have hll:l.length≤70368744177664:=hV2.le l (by rw [hx];exact List.getElem_mem _)
      have hs:=Ve hlt
      rw [←hx] at hs
      have hle':=Vc V.ls (k+1)
      rcases hl:l with _ | ⟨p,l'⟩
      ·have h0:((l.length:Int) == 0)=true:=by rw [hl];rfl
       have hnil:=zbn (S:=XI V.ms) (K:=VT V) (F:=F) (n:=m) hlt (by rw [←hx,hl])
       have HN:=hid hnil
       clear hnil hl hx hs hm
       go_wp2
       go_ret
       exact ⟨ZE (by rw [hsp.out,HN.out];rfl),hBr⟩
      ·have hpos:0<l.length:=by rw [hl];simp
       have h0:((l.length:Int) == 0)=false:=by rw [beq_eq_false_iff_ne];omega
       have hcons:=Ed (S:=XI V.ms) (K:=VT V) (F:=F) (n:=m) hlt hx (p:=p) (by rw [hl];rfl)
       have HC:=hid hcons
       have hp0:l[0]'hpos=p:=by simp [hl]
       have HP:=hid hp0
       have HX:=hid hx
       have hml:m+l.length=Kg (V.ls.take (k+1)):=by omega
       have HML:=hid hml
       have hmb:m+l.length≤549755813888:=by omega
       clear hcons hl hx hs hm hml hp0
       cases hr0:Yu (XI V.ms) (-1) l
       ·have HR:=hid hr0
        clear hr0
        go_wp2_with (go_at_call 286;refine (Vt HR hll f2 hMr).mono ?_;rintro e w3 ⟨rfl,hb3⟩)
        go_ret
        exact ⟨ZE (by rw [hsp.out,HC.out,HR.out];rfl),hBr.trans (hb3.mono hBr.size)⟩
       ·have HR:=hid hr0
        clear hr0
        obtain ⟨pb,po,px,py,rfl,hpx,g1,g2⟩:=f2.at (Below.refl _ _) rfl hpos
        rw [Nat.zero_mul,Nat.add_zero] at g1 g2
        have hpl:pb<wr.heap.size:=World.block_lt_of_cell? wr _ g1
        have HPX:=hid hpx
        clear hpx
        go_wp2_with (first
         | (go_at_call 286;refine (Vt HR hll f2 hMr).mono ?_;rintro e w3 ⟨rfl,hb3⟩;obtain ⟨hc3,hf3⟩:=JY hb3)
         | (at_builtin;refine ZQ ((hown.ext hb3).ext (bra)) (Zb.one _ px py) ?cb ?cz rfl rfl rfl rfl ?_;rotate_right;intro v4 w4 hown4 hg4 hnil4))
        case cb=>simp;omega
        case cz=>have:=hb3.size;simp;omega
        have hz3:=hb3.size
        have hb34:Below w2.heap.size w2 w4:=((hb.trans (hb3.mono hzr)).alloc (by omega) _).grown hg4 (by simp;omega) (λg hg=>(World.ownsRow.lt hown g hg).1)
        have hpp:(px,py)=p:=by rw [HPX.out,HP.out]
        go_roundw
        case rel=>exact ⟨rfl,k+1,F ++ [p],m+l.length,by omega,by go_num,by go_num,HML.out,by simp;omega,hsp.out.trans (by rw [HC.out,HR.out];rfl),by rw [←hpp];exact hown4,hb34⟩
        case measure=>simp [intOf];omega
     ·have hml:m=Kg V.ls:=by rw [hm];exact Jo (by omega)
      have hsp2:Hid (Xh V=VT V F m):=by
       have:=hsp.out
       rw [List.drop_eq_nil_of_le (by omega)] at this
       exact this
      have hmb:m≤549755813888:=by omega
      have hfl:=XD V.ls
      have hFb:F.length≤70368744177664:=by omega
      obtain ⟨fl,hfl0⟩:∃fl,V.ls.flatten=fl:=⟨_,rfl⟩
      rw [hfl0] at hfl
      have hfb:fl.length≤70368744177664:=by omega
      have HFL:=hid hfl0
      clear hfl0
      have hlm:=hV2.lm
      have hld:=hV2.ld
      obtain ⟨aF,cF,rfl,hrowF,_⟩:=hown.row
      clear hm hml hfl
      by_cases hA:m=V.ms.length
      ·have hA':((m:Int) != (V.ms.length:Int))=false:=by rw [hA];simp
       have HA:=hid hA
       clear hA
       by_cases hU:(Zx [] fl).length=m
       ·have hU':(((Zx [] fl).length:Int) != (m:Int))=false:=by rw [hU];simp
        have HU:=hid hU
        clear hU
        cases hr1:Yu (XI V.ms) (-1) F
        ·have HR1:=hid hr1
         clear hr1
         go_wp2_with (first
          | (go_at_call 161;refine (Jk HFL hll2 hsum hVr.ls).mono ?_;rintro e w3 ⟨a3,c3,rfl,hrow3,hb3⟩;obtain ⟨b0,b1,b2,b3⟩:=(ZB.mk e0 e1 e2 e3).ext hb3 (by omega))
          | (go_at_call 69;refine (VL _ _ _ _ hfb hrow3).mono ?_;rintro e w4 ⟨s4,r4,rfl,hs4,hr4,hS4,hb4⟩)
          | (go_at_call 261;refine (Jw _ _ _ _ hS4).mono ?_;rintro e w5 ⟨rfl,rfl⟩)
          | (go_at_call 286;refine (Vt HR1 hFb ((hrowF.ext hb3).ext hb4) ((hMr.ext hb3).ext hb4)).mono ?_;rintro e w6 ⟨rfl,hb6⟩))
         go_ret
         exact ⟨ZE (by rw [hsp2.out];unfold VT;rw [HFL.out,HR1.out];simp [errB]),((hBr.trans (hb3.mono hBr.size)).trans (hb4.mono (by have:=hb3.size;omega))).trans (hb6.mono (by have:=hb3.size;have:=hb4.size;omega))⟩
        ·have HR1:=hid hr1
         clear hr1
         by_cases hD:V.ds=[]
         ·have hD':((V.ds.length:Int) == 0)=true:=by rw [hD];rfl
          have HD:=hid hD
          clear hD
          go_wp2_with (first
           | (go_at_call 161;refine (Jk HFL hll2 hsum hVr.ls).mono ?_;rintro e w3 ⟨a3,c3,rfl,hrow3,hb3⟩;obtain ⟨b0,b1,b2,b3⟩:=(ZB.mk e0 e1 e2 e3).ext hb3 (by omega))
           | (go_at_call 69;refine (VL _ _ _ _ hfb hrow3).mono ?_;rintro e w4 ⟨s4,r4,rfl,hs4,hr4,hS4,hb4⟩;obtain ⟨x0,x1,x2,x3⟩:=(ZB.mk b0 b1 b2 b3).ext hb4 (by have:=hb3.size;omega))
           | (go_at_call 261;refine (Jw _ _ _ _ hS4).mono ?_;rintro e w5 ⟨rfl,rfl⟩)
           | (go_at_call 286;refine (Vt HR1 hFb ((hrowF.ext hb3).ext hb4) ((hMr.ext hb3).ext hb4)).mono ?_;rintro e w6 ⟨rfl,hb6⟩;obtain ⟨y0,y1,y2,y3⟩:=(ZB.mk x0 x1 x2 x3).ext hb6 (by have:=hb3.size;have:=hb4.size;omega)))
          go_ret
          exact ⟨ZE (by rw [hsp2.out];unfold VT;rw [HD.out];simp [errB]),((hBr.trans (hb3.mono hBr.size)).trans (hb4.mono (by have:=hb3.size;omega))).trans (hb6.mono (by have:=hb3.size;have:=hb4.size;omega))⟩
         ·have hD':((V.ds.length:Int) == 0)=false:=by
           have:=List.length_pos_iff.2 hD
           rw [beq_eq_false_iff_ne];omega
          have HD:=hid hD
          clear hD
          cases hr2:Yu (XI V.ms) (-1) V.ds
          all_goals
           have HR2:=hid hr2
           clear hr2
           go_wp2_with (first
            | (go_at_call 161;refine (Jk HFL hll2 hsum hVr.ls).mono ?_;rintro e w3 ⟨a3,c3,rfl,hrow3,hb3⟩;obtain ⟨b0,b1,b2,b3⟩:=(ZB.mk e0 e1 e2 e3).ext hb3 (by omega))
            | (go_at_call 69;refine (VL _ _ _ _ hfb hrow3).mono ?_;rintro e w4 ⟨s4,r4,rfl,hs4,hr4,hS4,hb4⟩;obtain ⟨x0,x1,x2,x3⟩:=(ZB.mk b0 b1 b2 b3).ext hb4 (by have:=hb3.size;omega))
            | (go_at_call 261;refine (Jw _ _ _ _ hS4).mono ?_;rintro e w5 ⟨rfl,rfl⟩)
            | (go_at_call_of 286 aF;refine (Vt HR1 hFb ((hrowF.ext hb3).ext hb4) ((hMr.ext hb3).ext hb4)).mono ?_;rintro e w6 ⟨rfl,hb6⟩;obtain ⟨y0,y1,y2,y3⟩:=(ZB.mk x0 x1 x2 x3).ext hb6 (by have:=hb3.size;have:=hb4.size;omega))
            | (go_at_call_of 286 ad;refine (Vt HR2 hld (((hVr.ds.ext hb3).ext hb4).ext hb6) (((hMr.ext hb3).ext hb4).ext hb6)).mono ?_;rintro e w7 ⟨rfl,hb7⟩))
           go_ret
           exact ⟨ZE (by rw [hsp2.out];unfold VT;rw [HFL.out,HR1.out,HR2.out,decide_eq_true HA.out,decide_eq_true HU.out,decide_eq_true HD.out];rfl),(((hBr.trans (hb3.mono hBr.size)).trans (hb4.mono (by have:=hb3.size;omega))).trans (hb6.mono (by have:=hb3.size;have:=hb4.size;omega))).trans (hb7.mono (by have:=hb3.size;have:=hb4.size;have:=hb6.size;omega))⟩
       ·have hU':(((Zx [] fl).length:Int) != (m:Int))=true:=by rw [bne_iff_ne];omega
        have HU:=hid hU
        clear hU
        go_wp2_with (first
         | (go_at_call 161;refine (Jk HFL hll2 hsum hVr.ls).mono ?_;rintro e w3 ⟨a3,c3,rfl,hrow3,hb3⟩;obtain ⟨b0,b1,b2,b3⟩:=(ZB.mk e0 e1 e2 e3).ext hb3 (by omega))
         | (go_at_call 69;refine (VL _ _ _ _ hfb hrow3).mono ?_;rintro e w4 ⟨s4,r4,rfl,hs4,hr4,hS4,hb4⟩;obtain ⟨x0,x1,x2,x3⟩:=(ZB.mk b0 b1 b2 b3).ext hb4 (by have:=hb3.size;omega))
         | (go_at_call 261;refine (Jw _ _ _ _ hS4).mono ?_;rintro e w5 ⟨rfl,rfl⟩))
        go_ret
        exact ⟨ZE (by rw [hsp2.out];unfold VT;rw [HFL.out,decide_eq_false HU.out];simp [errB]),((hBr.trans (hb3.mono hBr.size)).trans (hb4.mono (by have:=hb3.size;omega)))⟩
      ·have hA':((m:Int) != (V.ms.length:Int))=true:=by rw [bne_iff_ne];omega
       have HA:Hid (¬ m=V.ms.length):=hA
       clear hA
       go_wp2
       go_ret
       exact ⟨ZE (by rw [hsp2.out];unfold VT;rw [decide_eq_false HA.out];rfl),hBr⟩
  ·go_enter Tryz.func193,Tryz.ntmps193
   go_wp2
   go_ret
   exact ⟨ZE (by rw [checkB_2 (by omega)];rfl),hBx⟩
 ·go_enter Tryz.func193,Tryz.ntmps193
  go_wp2
  go_ret
  exact ⟨ZE (by rw [checkB_1 (by omega)];rfl),hBx⟩
theorem Fg {V:Zs} {am al ad:Option Addr} {cm cl cd:Nat} {w:World} {bm:Bool} {k:Int} (h:Hid (Xh V=bm)) (hk:errB bm=k) (hV:Zt w am al ad V) (hsum:Kg V.ls≤549755813888) :
  Calls Tryz.prog 193 #[.agg #[.int .u64 V.id,.slice am V.ms.length cm,.slice al V.ls.length cl,.slice ad V.ds.length cd]] w λe w'=>e=.returned (.int .i64 k)∧Below w.heap.size w w':=by
 have:=Eq V am al ad cm cl cd w hV hsum
 rw [h.out,hk] at this
 exact this
end Go.Proofs.YtcdpaflmofljaaaGreat
