import Derived.Test.YtcdpaflmofljaaaGreatGNodeNil19
/- Parts of the proof of NodeNil: NK MD. -/
namespace Go.Proofs.YtcdpaflmofljaaaGreat
open Go.RowKit
theorem YJ {w w':World} {N:Nat→Prop} {G:Nat→Prop} {h r:Nat} {sf:Pid} (H:Yf w N h r sf []) (hm:Mut G w w') (h1:¬ G h) (h2:¬ G r):Yf w' (fpH h r []) h r sf [] :=
 ⟨(hm.cell (by exact H.lt) h1).trans H.c0,(hm.cell (by exact H.lt) h1).trans H.c1,(hm.cell (by exact H.lt) h1).trans H.c2,.inl rfl,.inr (.inl rfl),H.hr,H.map.same (hm.block _ H.map.lt h2),λx hx=>(by cases hx),λx hx=>(by cases hx),List.Pairwise.nil,by simp,by simp,λx hx=>(by cases hx)⟩
def Zl (own:Nat→Nat) (l:List Nat) (w w':World):Prop:=Mut (λk=>own k∈l∨w.heap.size≤k) w w'
section
variable {own:Nat→Nat} {l l':List Nat} {w w1 w':World}
theorem Zl.trans (h:Zl own l w w1) (h2:Zl own l w1 w'):Zl own l w w':=Mut.trans h (Mut.mono h2 λk _ e=>e.imp id (Nat.le_trans (Mut.size h)))
theorem Zl.mono (h:Zl own l w w') (hl:∀i∈l,i∈l'):Zl own l' w w':=Mut.mono h λk _ e=>e.imp (hl _) id
theorem Zl.below (h:Below w.heap.size w w'):Zl own l w w':=(Mut.of_below h).mono λk _ e=>.inr e
theorem Zl.one {b i:Nat} (h:Mut (λk=>k=b∨w.heap.size≤k) w w') (hb:own b=i) (hi:i∈l):Zl own l w w':=h.mono λk _ e=>e.imp (λe=>by rw [e,hb];exact hi) id
theorem Zl.only {b i:Nat} (h:Mut (λk=>k=b) w w') (hb:own b=i) (hi:i∈l):Zl own l w w':=h.mono λk _ e=>.inl (by rw [e,hb];exact hi)
theorem Zl.size (h:Zl own l w w'):w.heap.size≤w'.heap.size:=Mut.size h
theorem Zl.n (h:Zl own l w w') (h0:0 ∉ l):Mut (λk=>own k≠0∨w.heap.size≤k) w w':=Mut.mono h λk _ e=>e.imp (λe=>λe0=>h0 (e0 ▸ e)) id
theorem Zc.o {b i:Nat} {t:TypeId} {L:List Value} (h:Zc w b t L) (hm:Zl own l w w') (hb:own b=i) (hi:i ∉ l):Zc w' b t L:=h.mut hm (λe=>by
 rcases e with e | e
 ·rw [hb] at e;exact hi e
 ·exact absurd h.lt (Nat.not_lt.2 e))
theorem Zj.o {α β:Type} [DecidableEq α] {ke:α→Value} {ve:β→Value} {L:List (α × β)} {b i:Nat} (h:Zj w b ke ve L) (hm:Zl own l w w') (hb:own b=i) (hi:i ∉ l):Zj w' b ke ve L:=h.same (Mut.block hm b h.lt (λe=>by
 rcases e with e | e
 ·rw [hb] at e;exact hi e
 ·exact absurd h.lt (Nat.not_lt.2 e)))
def YD (own:Nat→Nat) (P:World→Prop) (w:World):Prop:=∀w',Mut (λk=>own k≠0∨w.heap.size≤k) w w'→P w'
theorem YD.now {P:World→Prop} (h:YD own P w):P w:=h w (Mut.refl _ _)
theorem YD.m {P:World→Prop} (h:YD own P w) (hm:Mut (λk=>own k≠0∨w.heap.size≤k) w w'):YD own P w':=λw2 h2=>h w2 (hm.trans (h2.mono λk _ e=>e.imp id (Nat.le_trans hm.size)))
theorem YD.o {P:World→Prop} (h:YD own P w) (hm:Zl own l w w') (h0:0 ∉ l):YD own P w':=h.m (hm.n h0)
theorem YD.pids {a:Option Addr} {xs:List Pid} (h:Zb w a xs) (ha:∀b off,a=some ⟨b,off,none⟩→own b=0∧b<w.heap.size):YD own (Zb · a xs) w:=λ_ hm=>h.mutN hm λb off e hg=>by
 obtain ⟨h1,h2⟩:=ha b off e
 rcases hg with hg | hg
 ·exact hg h1
 ·omega
theorem YD.bytes {a:Option Addr} {xs:List Nat} (h:Zg w a xs) (ha:∀b off,a=some ⟨b,off,none⟩→own b=0∧b<w.heap.size):YD own (Zg · a xs) w:=λ_ hm=>h.mutT hm λb off e _ hg=>by
 obtain ⟨h1,h2⟩:=ha b off e
 rcases hg with hg | hg
 ·exact hg h1
 ·omega
end
structure PB where
 (nb qb xb il iw ta tb lb sb sm ab pb hm km wb wr hb hr vb vr:Nat)
structure Gy (own:Nat→Nat) (b:PB):Prop where
 nb:own b.nb=1
 qb:own b.qb=2
 xb:own b.xb=3
 il:own b.il=3
 iw:own b.iw=3
 ta:own b.ta=4
 lb:own b.lb=5
 sb:own b.sb=6
 sm:own b.sm=6
 ab:own b.ab=7
 pb:own b.pb=8
 hm:own b.hm=9
 km:own b.km=10
 wb:own b.wb=11
 wr:own b.wr=11
 hb:own b.hb=12
 hr:own b.hr=12
 vb:own b.vb=13
 vr:own b.vr=13
 tb:own b.tb=14
 ilw:b.il≠b.iw
 sbm:b.sb≠b.sm
structure NP (cs:List Value) (x y:Int) (i:Nat) (A:VAd) (bd:Bnd) (b:PB):Prop extends N1 cs x y i A where
 c2:cs[2]?=some (.int .i64 bd.least)
 c3:cs[3]?=some (.int .i64 bd.most)
 c4:cs[4]?=some (.int .i64 bd.tmo)
 c8:cs[8]?=some (.pointer (some ⟨b.hb,0,none⟩))
 c15:cs[15]?=some (.pointer (some ⟨b.qb,0,none⟩))
 c16:cs[16]?=some (.pointer (some ⟨b.xb,0,none⟩))
 c17:cs[17]?=some (.pointer none)
 c18:cs[18]?=some (.pointer (some ⟨b.tb,0,none⟩))
 c19:cs[19]?=some (.bool false)
 c20:cs[20]?=some (.pointer (some ⟨b.lb,0,none⟩))
 c21:cs[21]?=some (.pointer (some ⟨b.sb,0,none⟩))
 c22:cs[22]?=some (.pointer (some ⟨b.ab,0,none⟩))
 c23:cs[23]?=some (.pointer (some ⟨b.pb,0,none⟩))
 c24:cs[24]?=some (.pointer (some ⟨b.wb,0,none⟩))
 c42:cs[42]?=some (.map (some b.hm))
 c43:cs[43]?=some (.map (some b.km))
 c44:cs[44]?=some (.slice none 0 0)
 c45:cs[45]?=some (.pointer (some ⟨b.vb,0,none⟩))
 c46:cs[46]?=some (.bool false)
 c47:cs[47]?=some (.slice none 0 0)
theorem NP.put {cs:List Value} {x y:Int} {i:Nat} {A:VAd} {bd:Bnd} {b:PB} (h:NP cs x y i A bd b) (j:Nat) (v:Value) (hj:j=7∨j=41∨j=48):NP (cs.set j v) x y i A bd b:=by
 have hn:∀k,k≠7→k≠41→k≠48→(cs.set j v)[k]?=cs[k]?:=λk h1 h2 h3=>List.getElem?_set_ne (λe=>by omega)
 exact ⟨⟨(hn 0 (by decide) (by decide) (by decide)).trans h.c0,(hn 1 (by decide) (by decide) (by decide)).trans h.c1,(hn 5 (by decide) (by decide) (by decide)).trans h.c5,(hn 9 (by decide) (by decide) (by decide)).trans h.c9,(hn 10 (by decide) (by decide) (by decide)).trans h.c10,(hn 11 (by decide) (by decide) (by decide)).trans h.c11,(hn 12 (by decide) (by decide) (by decide)).trans h.c12,λk hk=>(hn (25+k) (by omega) (by omega) (by omega)).trans (h.ru k hk)⟩,(hn 2 (by decide) (by decide) (by decide)).trans h.c2,(hn 3 (by decide) (by decide) (by decide)).trans h.c3,(hn 4 (by decide) (by decide) (by decide)).trans h.c4,(hn 8 (by decide) (by decide) (by decide)).trans h.c8,(hn 15 (by decide) (by decide) (by decide)).trans h.c15,(hn 16 (by decide) (by decide) (by decide)).trans h.c16,(hn 17 (by decide) (by decide) (by decide)).trans h.c17,(hn 18 (by decide) (by decide) (by decide)).trans h.c18,(hn 19 (by decide) (by decide) (by decide)).trans h.c19,(hn 20 (by decide) (by decide) (by decide)).trans h.c20,(hn 21 (by decide) (by decide) (by decide)).trans h.c21,(hn 22 (by decide) (by decide) (by decide)).trans h.c22,(hn 23 (by decide) (by decide) (by decide)).trans h.c23,(hn 24 (by decide) (by decide) (by decide)).trans h.c24,(hn 42 (by decide) (by decide) (by decide)).trans h.c42,(hn 43 (by decide) (by decide) (by decide)).trans h.c43,(hn 44 (by decide) (by decide) (by decide)).trans h.c44,(hn 45 (by decide) (by decide) (by decide)).trans h.c45,(hn 46 (by decide) (by decide) (by decide)).trans h.c46,(hn 47 (by decide) (by decide) (by decide)).trans h.c47⟩
structure Fix (own:Nat→Nat) (b:PB) (x y:Int) (i tl mc:Nat) (V:Zs) (A As At:VAd) (ma:Option Addr) (T:Int) (w:World):Prop where
 lt:∀k,own k≠0→k<w.heap.size
 hv:YD own (Zt · A.am A.al A.ad V) w
 tv:YD own (Zt · At.am At.al At.ad V) w
 sw:YD own (Zt · As.am As.al As.ad V) w
 mr:YD own (Zb · ma [(x,y)]) w
 tb:Zc w b.tb 277 (vcl V i At ++ [.map (some b.ta),.map (some tl)])
 hm:Zj w b.hm n64 sv ([]:List (Nat × Value))
 km:Zj w b.km Yg sv ([]:List (Pid × Value))
 wa:Zq w b.wb b.wr T []
 hu:Yf w (fpH b.hb b.hr []) b.hb b.hr (x,y) []
 se:ZP w b.vb b.vr []
theorem Fix.o {own:Nat→Nat} {b:PB} {x y:Int} {i tl mc:Nat} {V:Zs} {A As At:VAd} {ma:Option Addr} {T:Int} {w w':World} {l:List Nat} (h:Fix own b x y i tl mc V A As At ma T w) (t:Gy own b) (hm:Zl own l w w') (hl:∀j∈l,1≤j∧j≤8):Fix own b x y i tl mc V A As At ma T w':=by
 have h0:0 ∉ l:=λe=>by have:=hl 0 e;omega
 have hn:∀j,8<j→j ∉ l:=λj hj e=>by have:=hl j e;omega
 have hb:∀{c j:Nat},own c=j→8<j→¬ (own c∈l∨w.heap.size≤c):=fun {c j} h1 h2 e=>by
  rcases e with e | e
  ·rw [h1] at e;exact hn j h2 e
  ·have:=h.lt c (by omega);omega
 exact ⟨λk hk=>Nat.lt_of_lt_of_le (h.lt k hk) hm.size,h.hv.o hm h0,h.tv.o hm h0,h.sw.o hm h0,h.mr.o hm h0,h.tb.o hm t.tb (hn 14 (by decide)),h.hm.o hm t.hm (hn 9 (by decide)),h.km.o hm t.km (hn 10 (by decide)),h.wa.mut hm (hb t.wb (by decide)) (hb t.wr (by decide)),YJ h.hu hm (hb t.hb (by decide)) (hb t.hr (by decide)),h.se.mut hm (hb t.vb (by decide)) (hb t.vr (by decide))⟩
end Go.Proofs.YtcdpaflmofljaaaGreat
