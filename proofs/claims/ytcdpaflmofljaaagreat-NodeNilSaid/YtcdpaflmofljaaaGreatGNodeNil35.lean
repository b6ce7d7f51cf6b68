import Derived.Test.YtcdpaflmofljaaaGreatGNodeNil34
/- Parts of the proof of NodeNil: MQ MQ0 MQ1 MQ2 MQ3 MQ4 ND2 NI1. -/
namespace Go.Proofs.YtcdpaflmofljaaaGreat
open Go.RowKit
theorem Zj.clear1 {α β:Type} [DecidableEq α] {ke:α→Value} {ve:β→Value} {P:Program} {K:TypeId} {w:World} {r:Nat} {L:List (α × β)} (h:Zj w r ke ve L) {t e:TypeId} (ht:P.underlying t=some (.map K e)) :
  ∃w',(∀ty,(Builtin.clear_ #[t] ty #[.map (some r)]).run P w=.ok (.tuple #[]) w')∧Zj w' r ke ve ([]:List (α × β))∧But r w w':=by
 obtain ⟨es,clock,h1,-,-⟩:=h
 exact ⟨{ w with heap:=w.heap.setIfInBounds r (.map #[] clock) },λty=>by simp [Builtin.clear_,run_underlying ht,MapKept.run_getObj_map h1,MapKept.run_setObj_map _ h1,Result.andThen],⟨#[],clock,(MapKept.heap_set h1).1,by simp,⟨by simp,by simp⟩⟩,But.of_set _ _ _⟩
theorem But.mut {r:Nat} {w w':World} (h:But r w w'):Mut (λk=>k=r) w w':=⟨h.os,h.tape,h.output,by rw [h.size];exact Nat.le_refl _,λk hk hf=>h.block k hf⟩
section
variable {own:Nat→Nat} {b:PB} {x y T:Int} {i tl mc:Nat} {V:Zs} {A As At:VAd} {ma:Option Addr} {w w':World} {l:List Nat}
theorem Fix.anew (F:Fix own b x y i tl mc V A As At ma T w) (t:Gy own b) (hm:Zl own l w w') (h0:0 ∉ l) (h9:9 ∉ l) (h13:13 ∉ l) (h14:14 ∉ l) (km:Zj w' b.km Yg sv ([]:List (Pid × Value))) (wa:Zq w' b.wb b.wr T []) (hu:Yf w' (fpH b.hb b.hr []) b.hb b.hr (x,y) []):Fix own b x y i tl mc V A As At ma T w':=by
 have hb:∀{c j:Nat},own c=j→j≠0→j ∉ l→¬ (own c∈l∨w.heap.size≤c):=fun {c j} h1 h2 h3 e=>by
  rcases e with e | e
  ·rw [h1] at e;exact h3 e
  ·have:=F.lt c (by omega);omega
 exact ⟨λk hk=>Nat.lt_of_lt_of_le (F.lt k hk) hm.size,F.hv.o hm h0,F.tv.o hm h0,F.sw.o hm h0,F.mr.o hm h0,F.tb.o hm t.tb h14,F.hm.o hm t.hm h9,km,wa,hu,F.se.mut hm (hb t.vb (by decide) h13) (hb t.vr (by decide) h13)⟩
theorem Fix.watchO (F:Fix own b x y i tl mc V A As At ma T w) (t:Gy own b) (hm:Zl own l w w') (h:11 ∉ l):Zq w' b.wb b.wr T [] :=
 F.wa.mut hm (λe=>by
  rcases e with e | e
  ·rw [t.wb] at e;exact h e
  ·have:=F.lt b.wb (by rw [t.wb];decide);omega) (λe=>by
  rcases e with e | e
  ·rw [t.wr] at e;exact h e
  ·have:=F.lt b.wr (by rw [t.wr];decide);omega)
theorem Fix.hubO (F:Fix own b x y i tl mc V A As At ma T w) (t:Gy own b) (hm:Zl own l w w') (h:12 ∉ l):Yf w' (fpH b.hb b.hr []) b.hb b.hr (x,y) [] :=
 YJ F.hu hm (λe=>by
  rcases e with e | e
  ·rw [t.hb] at e;exact h e
  ·have:=F.lt b.hb (by rw [t.hb];decide);omega) (λe=>by
  rcases e with e | e
  ·rw [t.hr] at e;exact h e
  ·have:=F.lt b.hr (by rw [t.hr];decide);omega)
structure TSn (own:Nat→Nat) (b:PB) (x y:Int) (i tl mc:Nat) (V:Zs) (A As At:VAd) (ma:Option Addr) (T v:Int) (bd:Bnd) (n st:Int) (cz:List Value) (w:World):Prop where
 F:Fix own b x y i tl mc V A As At ma T w
 np:NP cz x y i A bd b
 c7:cz[7]?=some (.int .i64 n)
 c41:cz[41]?=some (.int .u64 st)
 B:Zc w b.nb 98 cz
 E:∃ev ea ec,cz[48]?=some ev∧Vk w 0 48 9 ev [[.int .i64 2,.int .u64 0,.slice none 0 0,.slice none 0 0,.slice none 0 0,.int .u16 x,.int .u32 y,.int .u64 1,.slice ea 1 ec]]∧(∀g,ev.ownBlock=some g→own g=0)∧YD own (Zg · ea [109]) w
 Q:∃a c,Zc w b.qb 159 [.int .u64 v,.int .u64 1,.slice a 0 c]
 X:Zc w b.xb 199 (ibC i ma mc b.il b.iw 1)
 il:Zj w b.il Yg n64 [((x,y),1)]
 iw:Zj w b.iw KQ sv []
 ta:Zj w b.ta Yg n64 [((x,y),1)]
 L:∃a k c,(k=0∨k=1∧(∃g,a=some ⟨g,0,none⟩)∧1≤c)∧Zc w b.lb 149 [.int .u64 1,.slice a k c]
 p:∃ld m0 m1,Zc w b.pb 255 (prC x y 1 x y 2 ld 2 1 x y (.pointer none) m0 m1)
 tm:YD own (Zj · tl kiI n64 ([]:List (Int × Nat))) w
end
section
variable {own:Nat→Nat} {b:PB} {x y T v st:Int} {i tl mc:Nat} {V:Zs} {A As At:VAd} {ma:Option Addr} {bd:Bnd} {cs cz:List Value} {w w':World}
theorem Vk.o0 {e:TypeId} {k:Nat} {ev:Value} {xs:List (List Value)} {l:List Nat} (h:Vk w 0 e k ev xs) (ho:∀g,ev.ownBlock=some g→own g=0) (hm:Zl own l w w') (h0:0 ∉ l):Vk w' 0 e k ev xs:=h.mut hm (λg hg hG=>by
 rcases hG with hG | hG
 ·rw [ho g hg] at hG;exact h0 hG
 ·have:=(h.blk hg).2;omega)
theorem Vl {w:World} {c ta tl:Nat} {A:VAd} (h1:V1 V x y i) (h:Zc w c 277 (vcl V i A ++ [.map (some ta),.map (some tl)])):Zc w c 277 [.int .u64 i,.slice A.am 1 A.cm,.slice A.al 1 A.cl,.slice A.ad 1 A.cd,.map (some ta),.map (some tl)]:=by
 unfold vcl at h
 rw [h1.ms,h1.ls,h1.ds] at h
 exact h
theorem zaq {s r:Nat} (hW:Zq w s r T []):Calls Tryz.prog 44 #[.pointer (some ⟨s,0,none⟩)] w λe w'=>e=.returned (.tuple #[])∧Zq w' s r T []∧Mut (λk=>k=r) w w' :=
 tick_any s r T [] w hW (by simp [keys]) (λp h=>by cases h)
theorem FY {s r:Nat} (hW:Zq w s r T []):Calls Tryz.prog 46 #[.pointer (some ⟨s,0,none⟩)] w λe w'=>∃a c,e=.returned (.slice a 0 c)∧Below w.heap.size w w':=by
 refine (late_any s r T [] w hW (by simp [keys]) (λp h=>by simp [keys] at h) (by simp)).mono ?_
 rintro e w' ⟨v,rfl,hown,hb⟩
 rw [show YS (Jg T [])=[] by simp [Jg,keys,YS]] at hown
 obtain ⟨a,c,rfl,-⟩:=Xm hown
 exact ⟨a,c,rfl,hb⟩
theorem zc7 {a:Option Addr} {k c:Nat} {W:World} (hk:k=0∨k=1∧(∃g,a=some ⟨g,0,none⟩)∧1≤c) (hL:Zc W b.lb 149 [.int .u64 1,.slice a k c]):Calls Tryz.prog 94 #[.pointer (some ⟨b.lb,0,none⟩),.int .u64 1] W λe w'=>(∃v,e=.returned v)∧Mut (λk=>k=b.lb∨W.heap.size≤k) W w'∧∃a c,Zc w' b.lb 149 [.int .u64 1,.slice a 0 c]:=by
 rcases hk with rfl | ⟨rfl,⟨g,rfl⟩,hc⟩
 ·exact (lCut0 hL).mono λe w' ⟨h1,h2⟩=>⟨⟨_,h1⟩,(Mut.of_below h2).mono λk _ e=>.inr e,⟨_,_,hL.ext h2⟩⟩
 ·exact (lCut1 hL hc).mono λe w' ⟨a,c',h1,h2,h3⟩=>⟨⟨_,h1⟩,h2,⟨_,_,h3⟩⟩
end
section
variable {own:Nat→Nat} {b:PB} {x y T v st:Int} {i tl mc:Nat} {V:Zs} {A As At:VAd} {ma:Option Addr} {bd:Bnd} {cs cz:List Value} {w:World}
set_option maxRecDepth 100000 in
set_option maxHeartbeats 6400000 in
theorem nTick0 (E:Env own b x y i V A bd cs) (S:TSn own b x y i tl mc V A As At ma T v bd 0 st cz w) (hst:max st 1=1) :
  Calls Tryz.prog 20 #[.pointer (some ⟨b.nb,0,none⟩)] w λe w'=>e=.returned (.tuple #[])∧TSn own b x y i tl mc V A As At ma T v bd 1 1 ((cz.set 7 (.int .i64 1)).set 41 (.int .u64 1)) w'∧Mut (λk=>own k≠0∨w.heap.size≤k) w w':=by
 have HE:=hid E
 have HS:=hid S
 have HST:=hid hst
 have HT:Hid (Gy own b):=hid E.t
 have HF:Hid (Fix own b x y i tl mc V A As At ma T w):=hid S.F
 have HN1:Hid (NP (cz.set 7 (.int .i64 1)) x y i A bd b):=hid (S.np.put 7 _ (.inl rfl))
 have HN2:Hid (NP ((cz.set 7 (.int .i64 1)).set 41 (.int .u64 1)) x y i A bd b):=hid (HN1.out.put 41 _ (.inr (.inl rfl)))
 have h71:(cz.set 7 (.int .i64 1))[7]?=some (.int .i64 1):=List.getElem?_set_self (List.getElem?_eq_some_iff.1 S.c7).1
 have h411:(cz.set 7 (.int .i64 1))[41]?=some (.int .u64 st):=by rw [List.getElem?_set_ne (by decide)];exact S.c41
 have H411:=hid h411
 have H412:Hid (((cz.set 7 (.int .i64 1)).set 41 (.int .u64 1))[41]?=some (.int .u64 1)):=hid (List.getElem?_set_self (List.getElem?_eq_some_iff.1 h411).1)
 have H72:Hid (((cz.set 7 (.int .i64 1)).set 41 (.int .u64 1))[7]?=some (.int .i64 1)):=hid (by rw [List.getElem?_set_ne (by decide)];exact h71)
 have H71:=hid h71
 have n5:=S.B.cell S.np.c5
 have n7:=S.B.cell S.c7
 have fz:=S.B.frozen
 clear E S hst h71 h411
 go_enter Tryz.func20,Tryz.ntmps20
 go_upto_region 2 with fail
 have hx1:Zc (w.setCell ⟨b.nb,7,none⟩ (.int .i64 1)) b.nb 98 (cz.set 7 (.int .i64 1)):=HS.out.B.set (j:=7) (v:=.int .i64 1)
 have hm1:Mut (λk=>k=b.nb) w (w.setCell ⟨b.nb,7,none⟩ (.int .i64 1)):=Zf (G:=λk=>k=b.nb) (Mut.refl _ _) _ _ _ rfl
 obtain ⟨w1,hw1⟩:∃z,w.setCell ⟨b.nb,7,none⟩ (.int .i64 1)=z:=⟨_,rfl⟩
 rw [hw1] at hx1 hm1
 try rw [hw1]
 clear hw1 n5 n7 fz
 have HB1:=hid hx1
 have HM1:Hid (Zl own [1] w w1):=hid (Zl.only hm1 HT.out.nb (by simp))
 clear hx1 hm1
 have n7:=HB1.out.cell H71.out
 have n8:=HB1.out.cell HN1.out.c8
 obtain ⟨w2,hw2⟩:∃z,w1=z:=⟨_,rfl⟩
 have HM12:Hid (Zl own [12] w1 w2):=hid (by rw [←hw2];exact Zl.below (Below.refl _ _))
 have HU2:Hid (Yf w2 (fpH b.hb b.hr []) b.hb b.hr (x,y) []):=hid (by rw [←hw2];exact HF.out.hubO HT.out HM1.out (by simp))
 try rw [hw2]
 clear hw2 n8
 have HM2:Hid (Zl own [1,12] w w2):=hid ((HM1.out.mono (by simp)).trans (HM12.out.mono (by simp)))
 have HB2:=hid (HB1.out.o HM12.out HT.out.nb (by simp))
 obtain ⟨w3,hclr,hkm3,hbut⟩:=(HF.out.km.o HM2.out HT.out.km (by simp)).clear1 Tryz.underlying94
 have hclr:∀ty,(Builtin.clear_ #[94] ty #[.map (some b.km)]).run Tryz.prog w2=.ok (.tuple #[]) w3:=hclr
 have HM23:Hid (Zl own [10] w2 w3):=hid (Zl.only hbut.mut HT.out.km (by simp))
 have HM3:Hid (Zl own [1,12,10] w w3):=hid ((HM2.out.mono (by simp)).trans (HM23.out.mono (by simp)))
 have HK3:=hid hkm3
 have HB3:=hid (HB2.out.o HM23.out HT.out.nb (by simp))
 have n5:=HB3.out.cell HN1.out.c5
 have m7:=HB2.out.cell H71.out
 have m5:=HB2.out.cell HN1.out.c5
 have m43:=HB2.out.cell HN1.out.c43
 have m24:=HB3.out.cell HN1.out.c24
 have CW:=hid (zaq (HF.out.watchO HT.out HM3.out (by simp)))
 clear hkm3 hbut n7
 go_wp2_with fail
 refine CW.out.mono ?_
 rintro e w4 ⟨rfl,hwa4,hm4⟩
 have HM34:Hid (Zl own [11] w3 w4):=hid (Zl.only hm4 HT.out.wr (by simp))
 have HM4:Hid (Zl own [1,12,10,11] w w4):=hid ((HM3.out.mono (by simp)).trans (HM34.out.mono (by simp)))
 have HB4:=hid (HB3.out.o HM34.out HT.out.nb (by simp))
 have HF4:Hid (Fix own b x y i tl mc V A As At ma T w4):=hid (HF.out.anew HT.out HM4.out (by simp) (by simp) (by simp) (by simp) (HK3.out.o HM34.out HT.out.km (by simp)) hwa4 (YJ (YJ HU2.out HM23.out (λe=>by
  rcases e with e | e
  ·rw [HT.out.hb] at e;simp at e
  ·have:=HF.out.lt b.hb (by rw [HT.out.hb];decide);have:=HM2.out.size;omega) (λe=>by
  rcases e with e | e
  ·rw [HT.out.hr] at e;simp at e
  ·have:=HF.out.lt b.hr (by rw [HT.out.hr];decide);have:=HM2.out.size;omega)) HM34.out (λe=>by
  rcases e with e | e
  ·rw [HT.out.hb] at e;simp at e
  ·have:=HF.out.lt b.hb (by rw [HT.out.hb];decide);have:=HM3.out.size;omega) (λe=>by
  rcases e with e | e
  ·rw [HT.out.hr] at e;simp at e
  ·have:=HF.out.lt b.hr (by rw [HT.out.hr];decide);have:=HM3.out.size;omega)))
 have n24:=HB4.out.cell HN1.out.c24
 have CL:=hid (FY HF4.out.wa)
 clear CW hwa4 hm4 hclr n5 m7 m5 m43 m24
 go_wp2_with fail
 refine CL.out.mono ?_
 rintro e w5 ⟨la,lc,rfl,hb5⟩
 have HB5:=hid (HB4.out.ext hb5)
 have CS:=hid (Ko (a:=la) (c:=lc) HB5.out HN1.out.toN1)
 clear CL n24
 go_wp2_with fail
 refine CS.out.mono ?_
 rintro e w6 ⟨rfl,hb6⟩
 have HB6:=hid (HB5.out.ext hb6)
 have HM46:Hid (Zl own [] w4 w6):=hid (Zl.below (hb5.trans (hb6.mono hb5.size)))
 have HM6:Hid (Zl own [1,12,10,11] w w6):=hid (HM4.out.trans (HM46.out.mono (by simp)))
 have HF6:Hid (Fix own b x y i tl mc V A As At ma T w6):=hid (HF4.out.o HT.out HM46.out (by simp))
 obtain ⟨la6,k6,lc6,hk6,hl6⟩:=HS.out.L
 have HL6:=hid (hl6.o HM6.out HT.out.lb (by simp))
 have HTB6:=hid (Vl HE.out.h1 HF6.out.tb)
 have hls:Zp w6 At.al [[(x,y)]]:=by
  have h:=HF6.out.tv.now.ls
  rw [HE.out.h1.ls] at h
  exact h
 have CT:=hid (QT (nb:=b.nb) (ta:=b.ta) (tl:=tl) (At:=At) (R:=λw'=>∃a c,Zc w' b.lb 149 [.int .u64 1,.slice a 0 c]) HB6.out HN1.out H411.out HST.out HF6.out.hv.now HE.out.h1 HE.out.sm.fine HL6.out HTB6.out hls (HS.out.ta.o HM6.out HT.out.ta (by simp)) (HS.out.tm.o HM6.out (by simp)).now (Vs HT.out.nb HT.out.lb (by decide)) (λW hm=>zc7 hk6 (HL6.out.o (Zl.one hm HT.out.nb (by simp:(1:Nat)∈[1])) HT.out.lb (by simp))))
 clear CS hb5 hb6 hls
 go_wp2_with fail
 refine CT.out.mono ?_
 rintro e w7 ⟨rfl,hm7,hx7,hl7⟩
 have HM67:Hid (Zl own [1,5] w6 w7):=hid (hm7.mono λk _ e=>by
  rcases e with e | e | e
  ·exact .inl (by rw [e,HT.out.nb];simp)
  ·exact .inl (by rw [e,HT.out.lb];simp)
  ·exact .inr e)
 have HM7:Hid (Zl own [1,12,10,11,5] w w7):=hid ((HM6.out.mono (by simp)).trans (HM67.out.mono (by simp)))
 have HF7:Hid (Fix own b x y i tl mc V A As At ma T w7):=hid (HF6.out.o HT.out HM67.out (by simp))
 have HB7:=hid hx7
 have HL7:=hid hl7
 have n7:=hx7.cell H72.out
 obtain ⟨qa,qc,hq⟩:=HS.out.Q
 have CR:=hid (Jq HB7.out HN2.out.c15 HN2.out.c46 (hq.o HM7.out HT.out.qb (by simp)))
 obtain ⟨la7,lc7,hl7⟩:=hl7
 obtain ⟨ld,m0,m1,hp⟩:=HS.out.p
 have CD:=hid (Kw (tick:=true) HE.out HF7.out HN2.out HB7.out (HS.out.X.o HM7.out HT.out.xb (by simp)) (HS.out.il.o HM7.out HT.out.il (by simp)) (HS.out.iw.o HM7.out HT.out.iw (by simp)) hl7 (hp.o HM7.out HT.out.pb (by simp)))
 clear CT hm7 hx7 hl7 hq hp
 clear CR
 go_wp2_with fail
 refine CD.out.mono ?_
 rintro e w8 ⟨rfl,hm8,hx8⟩
 have HM78:Hid (Zl own [1] w7 w8):=hid (Zl.one hm8 HT.out.nb (by simp))
 have HM8:Hid (Zl own [1,12,10,11,5] w w8):=hid (HM7.out.trans (HM78.out.mono (by simp)))
 have HF8:Hid (Fix own b x y i tl mc V A As At ma T w8):=hid (HF7.out.o HT.out HM78.out (by simp))
 have HB8:=hid hx8
 have CI:=hid (XR HB8.out HN2.out.toN1)
 obtain ⟨la8,lc8,hl8⟩:=HL7.out
 have hl8:=hl8.o HM78.out HT.out.lb (by simp)
 have HL8:=hid hl8
 have hls:Zp w8 At.al [[(x,y)]]:=by
  have h:=HF8.out.tv.now.ls
  rw [HE.out.h1.ls] at h
  exact h
 have CV:=hid (Ee HB8.out HN2.out H412.out HF8.out.hv.now HE.out.h1 HE.out.sm hl8 (Vl HE.out.h1 HF8.out.tb) hls (HS.out.ta.o HM8.out HT.out.ta (by simp)) (HS.out.tm.o HM8.out (by simp)).now)
 clear CD hm8 hx8 hl8 hls
 go_wp2_with fail
 refine CI.out.mono ?_
 rintro e w9 ⟨rfl,rfl⟩
 rename World=>w8
 clear CI
 go_wp2_with fail
 refine CV.out.mono ?_
 rintro e w9 ⟨rfl,hb9⟩
 have HM89:Hid (Zl own [] w8 w9):=hid (Zl.below hb9)
 have HM9:Hid (Zl own [1,12,10,11,5] w w9):=hid (HM8.out.trans (HM89.out.mono (by simp)))
 obtain ⟨ev,ea,ec,e1,e2,e3,e4⟩:=HS.out.E
 obtain ⟨qa9,qc9,hq9⟩:=HS.out.Q
 obtain ⟨ld9,m09,m19,hp9⟩:=HS.out.p
 have HR:Hid (TSn own b x y i tl mc V A As At ma T v bd 1 1 ((cz.set 7 (.int .i64 1)).set 41 (.int .u64 1)) w9):=hid ⟨HF8.out.o HT.out HM89.out (by simp),HN2.out,H72.out,H412.out,HB8.out.ext hb9,⟨ev,ea,ec,by rw [List.getElem?_set_ne (by decide),List.getElem?_set_ne (by decide)];exact e1,e2.o0 e3 HM9.out (by simp),e3,e4.o HM9.out (by simp)⟩,⟨qa9,qc9,hq9.o HM9.out HT.out.qb (by simp)⟩,HS.out.X.o HM9.out HT.out.xb (by simp),HS.out.il.o HM9.out HT.out.il (by simp),HS.out.iw.o HM9.out HT.out.iw (by simp),HS.out.ta.o HM9.out HT.out.ta (by simp),⟨_,0,_,.inl rfl,HL8.out.ext hb9⟩,⟨ld9,m09,m19,hp9.o HM9.out HT.out.pb (by simp)⟩,HS.out.tm.o HM9.out (by simp)⟩
 clear CV hb9 e1 e2 e3 e4 hq9 hp9
 go_wp2_with fail
 exact bodyPost_end (results_none rfl _ _ _) rfl ⟨rfl,HR.out,HM9.out.n (by simp)⟩
end
section
variable {own:Nat→Nat} {b:PB} {x y T v st:Int} {i tl mc:Nat} {V:Zs} {A As At:VAd} {ma:Option Addr} {bd:Bnd} {cs cz:List Value} {w:World}
set_option maxRecDepth 100000 in
set_option maxHeartbeats 6400000 in
theorem nTick1 (E:Env own b x y i V A bd cs) (S:TSn own b x y i tl mc V A As At ma T v bd 1 st cz w) (hst:max st 1=1) :
  Calls Tryz.prog 20 #[.pointer (some ⟨b.nb,0,none⟩)] w λe w'=>e=.returned (.tuple #[])∧TSn own b x y i tl mc V A As At ma T v bd 2 1 ((cz.set 7 (.int .i64 2)).set 41 (.int .u64 1)) w'∧Mut (λk=>own k≠0∨w.heap.size≤k) w w':=by
 have HE:=hid E
 have HS:=hid S
 have HST:=hid hst
 have HT:Hid (Gy own b):=hid E.t
 have HF:Hid (Fix own b x y i tl mc V A As At ma T w):=hid S.F
 have HN1:Hid (NP (cz.set 7 (.int .i64 2)) x y i A bd b):=hid (S.np.put 7 _ (.inl rfl))
 have HN2:Hid (NP ((cz.set 7 (.int .i64 2)).set 41 (.int .u64 1)) x y i A bd b):=hid (HN1.out.put 41 _ (.inr (.inl rfl)))
 have h71:(cz.set 7 (.int .i64 2))[7]?=some (.int .i64 2):=List.getElem?_set_self (List.getElem?_eq_some_iff.1 S.c7).1
 have h411:(cz.set 7 (.int .i64 2))[41]?=some (.int .u64 st):=by rw [List.getElem?_set_ne (by decide)];exact S.c41
 have H411:=hid h411
 have H412:Hid (((cz.set 7 (.int .i64 2)).set 41 (.int .u64 1))[41]?=some (.int .u64 1)):=hid (List.getElem?_set_self (List.getElem?_eq_some_iff.1 h411).1)
 have H72:Hid (((cz.set 7 (.int .i64 2)).set 41 (.int .u64 1))[7]?=some (.int .i64 2)):=hid (by rw [List.getElem?_set_ne (by decide)];exact h71)
 have H71:=hid h71
 have n5:=S.B.cell S.np.c5
 have n7:=S.B.cell S.c7
 have fz:=S.B.frozen
 clear E S hst h71 h411
 go_enter Tryz.func20,Tryz.ntmps20
 go_upto_region 2 with fail
 have hx1:Zc (w.setCell ⟨b.nb,7,none⟩ (.int .i64 2)) b.nb 98 (cz.set 7 (.int .i64 2)):=HS.out.B.set (j:=7) (v:=.int .i64 2)
 have hm1:Mut (λk=>k=b.nb) w (w.setCell ⟨b.nb,7,none⟩ (.int .i64 2)):=Zf (G:=λk=>k=b.nb) (Mut.refl _ _) _ _ _ rfl
 obtain ⟨w1,hw1⟩:∃z,w.setCell ⟨b.nb,7,none⟩ (.int .i64 2)=z:=⟨_,rfl⟩
 rw [hw1] at hx1 hm1
 try rw [hw1]
 clear hw1 n5 n7 fz
 have HB1:=hid hx1
 have HM1:Hid (Zl own [1] w w1):=hid (Zl.only hm1 HT.out.nb (by simp))
 clear hx1 hm1
 have n7:=HB1.out.cell H71.out
 have n8:=HB1.out.cell HN1.out.c8
 obtain ⟨w2,hw2⟩:∃z,w1=z:=⟨_,rfl⟩
 have HM12:Hid (Zl own [12] w1 w2):=hid (by rw [←hw2];exact Zl.below (Below.refl _ _))
 have HU2:Hid (Yf w2 (fpH b.hb b.hr []) b.hb b.hr (x,y) []):=hid (by rw [←hw2];exact HF.out.hubO HT.out HM1.out (by simp))
 try rw [hw2]
 clear hw2 n8
 have HM2:Hid (Zl own [1,12] w w2):=hid ((HM1.out.mono (by simp)).trans (HM12.out.mono (by simp)))
 have HB2:=hid (HB1.out.o HM12.out HT.out.nb (by simp))
 obtain ⟨w3,hclr,hkm3,hbut⟩:=(HF.out.km.o HM2.out HT.out.km (by simp)).clear1 Tryz.underlying94
 have hclr:∀ty,(Builtin.clear_ #[94] ty #[.map (some b.km)]).run Tryz.prog w2=.ok (.tuple #[]) w3:=hclr
 have HM23:Hid (Zl own [10] w2 w3):=hid (Zl.only hbut.mut HT.out.km (by simp))
 have HM3:Hid (Zl own [1,12,10] w w3):=hid ((HM2.out.mono (by simp)).trans (HM23.out.mono (by simp)))
 have HK3:=hid hkm3
 have HB3:=hid (HB2.out.o HM23.out HT.out.nb (by simp))
 have n5:=HB3.out.cell HN1.out.c5
 have m7:=HB2.out.cell H71.out
 have m5:=HB2.out.cell HN1.out.c5
 have m43:=HB2.out.cell HN1.out.c43
 have m24:=HB3.out.cell HN1.out.c24
 have CW:=hid (zaq (HF.out.watchO HT.out HM3.out (by simp)))
 clear hkm3 hbut n7
 go_wp2_with fail
 refine CW.out.mono ?_
 rintro e w4 ⟨rfl,hwa4,hm4⟩
 have HM34:Hid (Zl own [11] w3 w4):=hid (Zl.only hm4 HT.out.wr (by simp))
 have HM4:Hid (Zl own [1,12,10,11] w w4):=hid ((HM3.out.mono (by simp)).trans (HM34.out.mono (by simp)))
 have HB4:=hid (HB3.out.o HM34.out HT.out.nb (by simp))
 have HF4:Hid (Fix own b x y i tl mc V A As At ma T w4):=hid (HF.out.anew HT.out HM4.out (by simp) (by simp) (by simp) (by simp) (HK3.out.o HM34.out HT.out.km (by simp)) hwa4 (YJ (YJ HU2.out HM23.out (λe=>by
  rcases e with e | e
  ·rw [HT.out.hb] at e;simp at e
  ·have:=HF.out.lt b.hb (by rw [HT.out.hb];decide);have:=HM2.out.size;omega) (λe=>by
  rcases e with e | e
  ·rw [HT.out.hr] at e;simp at e
  ·have:=HF.out.lt b.hr (by rw [HT.out.hr];decide);have:=HM2.out.size;omega)) HM34.out (λe=>by
  rcases e with e | e
  ·rw [HT.out.hb] at e;simp at e
  ·have:=HF.out.lt b.hb (by rw [HT.out.hb];decide);have:=HM3.out.size;omega) (λe=>by
  rcases e with e | e
  ·rw [HT.out.hr] at e;simp at e
  ·have:=HF.out.lt b.hr (by rw [HT.out.hr];decide);have:=HM3.out.size;omega)))
 have n24:=HB4.out.cell HN1.out.c24
 have CL:=hid (FY HF4.out.wa)
 clear CW hwa4 hm4 hclr n5 m7 m5 m43 m24
 go_wp2_with fail
 refine CL.out.mono ?_
 rintro e w5 ⟨la,lc,rfl,hb5⟩
 have HB5:=hid (HB4.out.ext hb5)
 have CS:=hid (Ko (a:=la) (c:=lc) HB5.out HN1.out.toN1)
 clear CL n24
 go_wp2_with fail
 refine CS.out.mono ?_
 rintro e w6 ⟨rfl,hb6⟩
 have HB6:=hid (HB5.out.ext hb6)
 have HM46:Hid (Zl own [] w4 w6):=hid (Zl.below (hb5.trans (hb6.mono hb5.size)))
 have HM6:Hid (Zl own [1,12,10,11] w w6):=hid (HM4.out.trans (HM46.out.mono (by simp)))
 have HF6:Hid (Fix own b x y i tl mc V A As At ma T w6):=hid (HF4.out.o HT.out HM46.out (by simp))
 obtain ⟨la6,k6,lc6,hk6,hl6⟩:=HS.out.L
 have HL6:=hid (hl6.o HM6.out HT.out.lb (by simp))
 have HTB6:=hid (Vl HE.out.h1 HF6.out.tb)
 have hls:Zp w6 At.al [[(x,y)]]:=by
  have h:=HF6.out.tv.now.ls
  rw [HE.out.h1.ls] at h
  exact h
 have CT:=hid (QT (nb:=b.nb) (ta:=b.ta) (tl:=tl) (At:=At) (R:=λw'=>∃a c,Zc w' b.lb 149 [.int .u64 1,.slice a 0 c]) HB6.out HN1.out H411.out HST.out HF6.out.hv.now HE.out.h1 HE.out.sm.fine HL6.out HTB6.out hls (HS.out.ta.o HM6.out HT.out.ta (by simp)) (HS.out.tm.o HM6.out (by simp)).now (Vs HT.out.nb HT.out.lb (by decide)) (λW hm=>zc7 hk6 (HL6.out.o (Zl.one hm HT.out.nb (by simp:(1:Nat)∈[1])) HT.out.lb (by simp))))
 clear CS hb5 hb6 hls
 go_wp2_with fail
 refine CT.out.mono ?_
 rintro e w7 ⟨rfl,hm7,hx7,hl7⟩
 have HM67:Hid (Zl own [1,5] w6 w7):=hid (hm7.mono λk _ e=>by
  rcases e with e | e | e
  ·exact .inl (by rw [e,HT.out.nb];simp)
  ·exact .inl (by rw [e,HT.out.lb];simp)
  ·exact .inr e)
 have HM7:Hid (Zl own [1,12,10,11,5] w w7):=hid ((HM6.out.mono (by simp)).trans (HM67.out.mono (by simp)))
 have HF7:Hid (Fix own b x y i tl mc V A As At ma T w7):=hid (HF6.out.o HT.out HM67.out (by simp))
 have HB7:=hid hx7
 have HL7:=hid hl7
 have n7:=hx7.cell H72.out
 obtain ⟨qa,qc,hq⟩:=HS.out.Q
 have CR:=hid (Jq HB7.out HN2.out.c15 HN2.out.c46 (hq.o HM7.out HT.out.qb (by simp)))
 obtain ⟨la7,lc7,hl7⟩:=hl7
 obtain ⟨ld,m0,m1,hp⟩:=HS.out.p
 have CD:=hid (Kw (tick:=true) HE.out HF7.out HN2.out HB7.out (HS.out.X.o HM7.out HT.out.xb (by simp)) (HS.out.il.o HM7.out HT.out.il (by simp)) (HS.out.iw.o HM7.out HT.out.iw (by simp)) hl7 (hp.o HM7.out HT.out.pb (by simp)))
 clear CT hm7 hx7 hl7 hq hp
 clear CR
 go_wp2_with fail
 refine CD.out.mono ?_
 rintro e w8 ⟨rfl,hm8,hx8⟩
 have HM78:Hid (Zl own [1] w7 w8):=hid (Zl.one hm8 HT.out.nb (by simp))
 have HM8:Hid (Zl own [1,12,10,11,5] w w8):=hid (HM7.out.trans (HM78.out.mono (by simp)))
 have HF8:Hid (Fix own b x y i tl mc V A As At ma T w8):=hid (HF7.out.o HT.out HM78.out (by simp))
 have HB8:=hid hx8
 have CI:=hid (XR HB8.out HN2.out.toN1)
 obtain ⟨la8,lc8,hl8⟩:=HL7.out
 have hl8:=hl8.o HM78.out HT.out.lb (by simp)
 have HL8:=hid hl8
 have hls:Zp w8 At.al [[(x,y)]]:=by
  have h:=HF8.out.tv.now.ls
  rw [HE.out.h1.ls] at h
  exact h
 have CV:=hid (Ee HB8.out HN2.out H412.out HF8.out.hv.now HE.out.h1 HE.out.sm hl8 (Vl HE.out.h1 HF8.out.tb) hls (HS.out.ta.o HM8.out HT.out.ta (by simp)) (HS.out.tm.o HM8.out (by simp)).now)
 clear CD hm8 hx8 hl8 hls
 go_wp2_with fail
 refine CI.out.mono ?_
 rintro e w9 ⟨rfl,rfl⟩
 rename World=>w8
 clear CI
 go_wp2_with fail
 refine CV.out.mono ?_
 rintro e w9 ⟨rfl,hb9⟩
 have HM89:Hid (Zl own [] w8 w9):=hid (Zl.below hb9)
 have HM9:Hid (Zl own [1,12,10,11,5] w w9):=hid (HM8.out.trans (HM89.out.mono (by simp)))
 obtain ⟨ev,ea,ec,e1,e2,e3,e4⟩:=HS.out.E
 obtain ⟨qa9,qc9,hq9⟩:=HS.out.Q
 obtain ⟨ld9,m09,m19,hp9⟩:=HS.out.p
 have HR:Hid (TSn own b x y i tl mc V A As At ma T v bd 2 1 ((cz.set 7 (.int .i64 2)).set 41 (.int .u64 1)) w9):=hid ⟨HF8.out.o HT.out HM89.out (by simp),HN2.out,H72.out,H412.out,HB8.out.ext hb9,⟨ev,ea,ec,by rw [List.getElem?_set_ne (by decide),List.getElem?_set_ne (by decide)];exact e1,e2.o0 e3 HM9.out (by simp),e3,e4.o HM9.out (by simp)⟩,⟨qa9,qc9,hq9.o HM9.out HT.out.qb (by simp)⟩,HS.out.X.o HM9.out HT.out.xb (by simp),HS.out.il.o HM9.out HT.out.il (by simp),HS.out.iw.o HM9.out HT.out.iw (by simp),HS.out.ta.o HM9.out HT.out.ta (by simp),⟨_,0,_,.inl rfl,HL8.out.ext hb9⟩,⟨ld9,m09,m19,hp9.o HM9.out HT.out.pb (by simp)⟩,HS.out.tm.o HM9.out (by simp)⟩
 clear CV hb9 e1 e2 e3 e4 hq9 hp9
 go_wp2_with fail
 exact bodyPost_end (results_none rfl _ _ _) rfl ⟨rfl,HR.out,HM9.out.n (by simp)⟩
end
section
variable {own:Nat→Nat} {b:PB} {x y T v st:Int} {i tl mc:Nat} {V:Zs} {A As At:VAd} {ma:Option Addr} {bd:Bnd} {cs cz:List Value} {w:World}
set_option maxRecDepth 100000 in
set_option maxHeartbeats 6400000 in
theorem nTick2 (E:Env own b x y i V A bd cs) (S:TSn own b x y i tl mc V A As At ma T v bd 2 st cz w) (hst:max st 1=1) :
  Calls Tryz.prog 20 #[.pointer (some ⟨b.nb,0,none⟩)] w λe w'=>e=.returned (.tuple #[])∧TSn own b x y i tl mc V A As At ma T v bd 3 1 ((cz.set 7 (.int .i64 3)).set 41 (.int .u64 1)) w'∧Mut (λk=>own k≠0∨w.heap.size≤k) w w':=by
 have HE:=hid E
 have HS:=hid S
 have HST:=hid hst
 have HT:Hid (Gy own b):=hid E.t
 have HF:Hid (Fix own b x y i tl mc V A As At ma T w):=hid S.F
 have HN1:Hid (NP (cz.set 7 (.int .i64 3)) x y i A bd b):=hid (S.np.put 7 _ (.inl rfl))
 have HN2:Hid (NP ((cz.set 7 (.int .i64 3)).set 41 (.int .u64 1)) x y i A bd b):=hid (HN1.out.put 41 _ (.inr (.inl rfl)))
 have h71:(cz.set 7 (.int .i64 3))[7]?=some (.int .i64 3):=List.getElem?_set_self (List.getElem?_eq_some_iff.1 S.c7).1
 have h411:(cz.set 7 (.int .i64 3))[41]?=some (.int .u64 st):=by rw [List.getElem?_set_ne (by decide)];exact S.c41
 have H411:=hid h411
 have H412:Hid (((cz.set 7 (.int .i64 3)).set 41 (.int .u64 1))[41]?=some (.int .u64 1)):=hid (List.getElem?_set_self (List.getElem?_eq_some_iff.1 h411).1)
 have H72:Hid (((cz.set 7 (.int .i64 3)).set 41 (.int .u64 1))[7]?=some (.int .i64 3)):=hid (by rw [List.getElem?_set_ne (by decide)];exact h71)
 have H71:=hid h71
 have n5:=S.B.cell S.np.c5
 have n7:=S.B.cell S.c7
 have fz:=S.B.frozen
 clear E S hst h71 h411
 go_enter Tryz.func20,Tryz.ntmps20
 go_upto_region 2 with fail
 have hx1:Zc (w.setCell ⟨b.nb,7,none⟩ (.int .i64 3)) b.nb 98 (cz.set 7 (.int .i64 3)):=HS.out.B.set (j:=7) (v:=.int .i64 3)
 have hm1:Mut (λk=>k=b.nb) w (w.setCell ⟨b.nb,7,none⟩ (.int .i64 3)):=Zf (G:=λk=>k=b.nb) (Mut.refl _ _) _ _ _ rfl
 obtain ⟨w1,hw1⟩:∃z,w.setCell ⟨b.nb,7,none⟩ (.int .i64 3)=z:=⟨_,rfl⟩
 rw [hw1] at hx1 hm1
 try rw [hw1]
 clear hw1 n5 n7 fz
 have HB1:=hid hx1
 have HM1:Hid (Zl own [1] w w1):=hid (Zl.only hm1 HT.out.nb (by simp))
 clear hx1 hm1
 have n7:=HB1.out.cell H71.out
 have n8:=HB1.out.cell HN1.out.c8
 have CH:=hid (zdd (HF.out.hubO HT.out HM1.out (by simp)) (λk hk=>Nat.lt_of_lt_of_le (HF.out.lt k (by
  rcases hk with e | e | ⟨_,h,_⟩
  ·rw [e,HT.out.hb];decide
  ·rw [e,HT.out.hr];decide
  ·cases h)) HM1.out.size))
 go_wp2_with fail
 refine CH.out.mono ?_
 rintro e w2 ⟨rfl,L',hR,hD⟩
 have hL':L'=[]:=by
  have h:zc5 L'=[]:=hD
  unfold zc5 at h
  exact List.map_eq_nil_iff.1 h
 subst hL'
 have HM12:Hid (Zl own [12] w1 w2):=hid (hR.mt.mono λk _ e=>by
  rcases e with e | e | ⟨_,h,_⟩
  ·exact .inl (by rw [e,HT.out.hb];simp)
  ·exact .inl (by rw [e,HT.out.hr];simp)
  ·cases h)
 have HU2:Hid (Yf w2 (fpH b.hb b.hr []) b.hb b.hr (x,y) []):=hid hR.is
 clear CH hR hD n8
 have HM2:Hid (Zl own [1,12] w w2):=hid ((HM1.out.mono (by simp)).trans (HM12.out.mono (by simp)))
 have HB2:=hid (HB1.out.o HM12.out HT.out.nb (by simp))
 obtain ⟨w3,hclr,hkm3,hbut⟩:=(HF.out.km.o HM2.out HT.out.km (by simp)).clear1 Tryz.underlying94
 have hclr:∀ty,(Builtin.clear_ #[94] ty #[.map (some b.km)]).run Tryz.prog w2=.ok (.tuple #[]) w3:=hclr
 have HM23:Hid (Zl own [10] w2 w3):=hid (Zl.only hbut.mut HT.out.km (by simp))
 have HM3:Hid (Zl own [1,12,10] w w3):=hid ((HM2.out.mono (by simp)).trans (HM23.out.mono (by simp)))
 have HK3:=hid hkm3
 have HB3:=hid (HB2.out.o HM23.out HT.out.nb (by simp))
 have n5:=HB3.out.cell HN1.out.c5
 have m7:=HB2.out.cell H71.out
 have m5:=HB2.out.cell HN1.out.c5
 have m43:=HB2.out.cell HN1.out.c43
 have m24:=HB3.out.cell HN1.out.c24
 have CW:=hid (zaq (HF.out.watchO HT.out HM3.out (by simp)))
 clear hkm3 hbut n7
 go_wp2_with fail
 refine CW.out.mono ?_
 rintro e w4 ⟨rfl,hwa4,hm4⟩
 have HM34:Hid (Zl own [11] w3 w4):=hid (Zl.only hm4 HT.out.wr (by simp))
 have HM4:Hid (Zl own [1,12,10,11] w w4):=hid ((HM3.out.mono (by simp)).trans (HM34.out.mono (by simp)))
 have HB4:=hid (HB3.out.o HM34.out HT.out.nb (by simp))
 have HF4:Hid (Fix own b x y i tl mc V A As At ma T w4):=hid (HF.out.anew HT.out HM4.out (by simp) (by simp) (by simp) (by simp) (HK3.out.o HM34.out HT.out.km (by simp)) hwa4 (YJ (YJ HU2.out HM23.out (λe=>by
  rcases e with e | e
  ·rw [HT.out.hb] at e;simp at e
  ·have:=HF.out.lt b.hb (by rw [HT.out.hb];decide);have:=HM2.out.size;omega) (λe=>by
  rcases e with e | e
  ·rw [HT.out.hr] at e;simp at e
  ·have:=HF.out.lt b.hr (by rw [HT.out.hr];decide);have:=HM2.out.size;omega)) HM34.out (λe=>by
  rcases e with e | e
  ·rw [HT.out.hb] at e;simp at e
  ·have:=HF.out.lt b.hb (by rw [HT.out.hb];decide);have:=HM3.out.size;omega) (λe=>by
  rcases e with e | e
  ·rw [HT.out.hr] at e;simp at e
  ·have:=HF.out.lt b.hr (by rw [HT.out.hr];decide);have:=HM3.out.size;omega)))
 have n24:=HB4.out.cell HN1.out.c24
 have CL:=hid (FY HF4.out.wa)
 clear CW hwa4 hm4 hclr n5 m7 m5 m43 m24
 go_wp2_with fail
 refine CL.out.mono ?_
 rintro e w5 ⟨la,lc,rfl,hb5⟩
 have HB5:=hid (HB4.out.ext hb5)
 have CS:=hid (Ko (a:=la) (c:=lc) HB5.out HN1.out.toN1)
 clear CL n24
 go_wp2_with fail
 refine CS.out.mono ?_
 rintro e w6 ⟨rfl,hb6⟩
 have HB6:=hid (HB5.out.ext hb6)
 have HM46:Hid (Zl own [] w4 w6):=hid (Zl.below (hb5.trans (hb6.mono hb5.size)))
 have HM6:Hid (Zl own [1,12,10,11] w w6):=hid (HM4.out.trans (HM46.out.mono (by simp)))
 have HF6:Hid (Fix own b x y i tl mc V A As At ma T w6):=hid (HF4.out.o HT.out HM46.out (by simp))
 obtain ⟨la6,k6,lc6,hk6,hl6⟩:=HS.out.L
 have HL6:=hid (hl6.o HM6.out HT.out.lb (by simp))
 have HTB6:=hid (Vl HE.out.h1 HF6.out.tb)
 have hls:Zp w6 At.al [[(x,y)]]:=by
  have h:=HF6.out.tv.now.ls
  rw [HE.out.h1.ls] at h
  exact h
 have CT:=hid (QT (nb:=b.nb) (ta:=b.ta) (tl:=tl) (At:=At) (R:=λw'=>∃a c,Zc w' b.lb 149 [.int .u64 1,.slice a 0 c]) HB6.out HN1.out H411.out HST.out HF6.out.hv.now HE.out.h1 HE.out.sm.fine HL6.out HTB6.out hls (HS.out.ta.o HM6.out HT.out.ta (by simp)) (HS.out.tm.o HM6.out (by simp)).now (Vs HT.out.nb HT.out.lb (by decide)) (λW hm=>zc7 hk6 (HL6.out.o (Zl.one hm HT.out.nb (by simp:(1:Nat)∈[1])) HT.out.lb (by simp))))
 clear CS hb5 hb6 hls
 go_wp2_with fail
 refine CT.out.mono ?_
 rintro e w7 ⟨rfl,hm7,hx7,hl7⟩
 have HM67:Hid (Zl own [1,5] w6 w7):=hid (hm7.mono λk _ e=>by
  rcases e with e | e | e
  ·exact .inl (by rw [e,HT.out.nb];simp)
  ·exact .inl (by rw [e,HT.out.lb];simp)
  ·exact .inr e)
 have HM7:Hid (Zl own [1,12,10,11,5] w w7):=hid ((HM6.out.mono (by simp)).trans (HM67.out.mono (by simp)))
 have HF7:Hid (Fix own b x y i tl mc V A As At ma T w7):=hid (HF6.out.o HT.out HM67.out (by simp))
 have HB7:=hid hx7
 have HL7:=hid hl7
 have n7:=hx7.cell H72.out
 obtain ⟨qa,qc,hq⟩:=HS.out.Q
 have CR:=hid (Jq HB7.out HN2.out.c15 HN2.out.c46 (hq.o HM7.out HT.out.qb (by simp)))
 obtain ⟨la7,lc7,hl7⟩:=hl7
 obtain ⟨ld,m0,m1,hp⟩:=HS.out.p
 have CD:=hid (Kw (tick:=true) HE.out HF7.out HN2.out HB7.out (HS.out.X.o HM7.out HT.out.xb (by simp)) (HS.out.il.o HM7.out HT.out.il (by simp)) (HS.out.iw.o HM7.out HT.out.iw (by simp)) hl7 (hp.o HM7.out HT.out.pb (by simp)))
 clear CT hm7 hx7 hl7 hq hp
 go_wp2_with fail
 refine CR.out.mono ?_
 rintro e w9 ⟨rfl,rfl⟩
 rename World=>w7
 clear CR
 go_wp2_with fail
 refine CD.out.mono ?_
 rintro e w8 ⟨rfl,hm8,hx8⟩
 have HM78:Hid (Zl own [1] w7 w8):=hid (Zl.one hm8 HT.out.nb (by simp))
 have HM8:Hid (Zl own [1,12,10,11,5] w w8):=hid (HM7.out.trans (HM78.out.mono (by simp)))
 have HF8:Hid (Fix own b x y i tl mc V A As At ma T w8):=hid (HF7.out.o HT.out HM78.out (by simp))
 have HB8:=hid hx8
 have CI:=hid (XR HB8.out HN2.out.toN1)
 obtain ⟨la8,lc8,hl8⟩:=HL7.out
 have hl8:=hl8.o HM78.out HT.out.lb (by simp)
 have HL8:=hid hl8
 have hls:Zp w8 At.al [[(x,y)]]:=by
  have h:=HF8.out.tv.now.ls
  rw [HE.out.h1.ls] at h
  exact h
 have CV:=hid (Ee HB8.out HN2.out H412.out HF8.out.hv.now HE.out.h1 HE.out.sm hl8 (Vl HE.out.h1 HF8.out.tb) hls (HS.out.ta.o HM8.out HT.out.ta (by simp)) (HS.out.tm.o HM8.out (by simp)).now)
 clear CD hm8 hx8 hl8 hls
 go_wp2_with fail
 refine CI.out.mono ?_
 rintro e w9 ⟨rfl,rfl⟩
 rename World=>w8
 clear CI
 go_wp2_with fail
 refine CV.out.mono ?_
 rintro e w9 ⟨rfl,hb9⟩
 have HM89:Hid (Zl own [] w8 w9):=hid (Zl.below hb9)
 have HM9:Hid (Zl own [1,12,10,11,5] w w9):=hid (HM8.out.trans (HM89.out.mono (by simp)))
 obtain ⟨ev,ea,ec,e1,e2,e3,e4⟩:=HS.out.E
 obtain ⟨qa9,qc9,hq9⟩:=HS.out.Q
 obtain ⟨ld9,m09,m19,hp9⟩:=HS.out.p
 have HR:Hid (TSn own b x y i tl mc V A As At ma T v bd 3 1 ((cz.set 7 (.int .i64 3)).set 41 (.int .u64 1)) w9):=hid ⟨HF8.out.o HT.out HM89.out (by simp),HN2.out,H72.out,H412.out,HB8.out.ext hb9,⟨ev,ea,ec,by rw [List.getElem?_set_ne (by decide),List.getElem?_set_ne (by decide)];exact e1,e2.o0 e3 HM9.out (by simp),e3,e4.o HM9.out (by simp)⟩,⟨qa9,qc9,hq9.o HM9.out HT.out.qb (by simp)⟩,HS.out.X.o HM9.out HT.out.xb (by simp),HS.out.il.o HM9.out HT.out.il (by simp),HS.out.iw.o HM9.out HT.out.iw (by simp),HS.out.ta.o HM9.out HT.out.ta (by simp),⟨_,0,_,.inl rfl,HL8.out.ext hb9⟩,⟨ld9,m09,m19,hp9.o HM9.out HT.out.pb (by simp)⟩,HS.out.tm.o HM9.out (by simp)⟩
 clear CV hb9 e1 e2 e3 e4 hq9 hp9
 go_wp2_with fail
 exact bodyPost_end (results_none rfl _ _ _) rfl ⟨rfl,HR.out,HM9.out.n (by simp)⟩
end
section
variable {own:Nat→Nat} {b:PB} {x y T v st:Int} {i tl mc:Nat} {V:Zs} {A As At:VAd} {ma:Option Addr} {bd:Bnd} {cs cz:List Value} {w:World}
set_option maxRecDepth 100000 in
set_option maxHeartbeats 6400000 in
theorem nTick3 (E:Env own b x y i V A bd cs) (S:TSn own b x y i tl mc V A As At ma T v bd 3 st cz w) (hst:max st 1=1) :
  Calls Tryz.prog 20 #[.pointer (some ⟨b.nb,0,none⟩)] w λe w'=>e=.returned (.tuple #[])∧TSn own b x y i tl mc V A As At ma T v bd 4 1 ((cz.set 7 (.int .i64 4)).set 41 (.int .u64 1)) w'∧Mut (λk=>own k≠0∨w.heap.size≤k) w w':=by
 have HE:=hid E
 have HS:=hid S
 have HST:=hid hst
 have HT:Hid (Gy own b):=hid E.t
 have HF:Hid (Fix own b x y i tl mc V A As At ma T w):=hid S.F
 have HN1:Hid (NP (cz.set 7 (.int .i64 4)) x y i A bd b):=hid (S.np.put 7 _ (.inl rfl))
 have HN2:Hid (NP ((cz.set 7 (.int .i64 4)).set 41 (.int .u64 1)) x y i A bd b):=hid (HN1.out.put 41 _ (.inr (.inl rfl)))
 have h71:(cz.set 7 (.int .i64 4))[7]?=some (.int .i64 4):=List.getElem?_set_self (List.getElem?_eq_some_iff.1 S.c7).1
 have h411:(cz.set 7 (.int .i64 4))[41]?=some (.int .u64 st):=by rw [List.getElem?_set_ne (by decide)];exact S.c41
 have H411:=hid h411
 have H412:Hid (((cz.set 7 (.int .i64 4)).set 41 (.int .u64 1))[41]?=some (.int .u64 1)):=hid (List.getElem?_set_self (List.getElem?_eq_some_iff.1 h411).1)
 have H72:Hid (((cz.set 7 (.int .i64 4)).set 41 (.int .u64 1))[7]?=some (.int .i64 4)):=hid (by rw [List.getElem?_set_ne (by decide)];exact h71)
 have H71:=hid h71
 have n5:=S.B.cell S.np.c5
 have n7:=S.B.cell S.c7
 have fz:=S.B.frozen
 clear E S hst h71 h411
 go_enter Tryz.func20,Tryz.ntmps20
 go_upto_region 2 with fail
 have hx1:Zc (w.setCell ⟨b.nb,7,none⟩ (.int .i64 4)) b.nb 98 (cz.set 7 (.int .i64 4)):=HS.out.B.set (j:=7) (v:=.int .i64 4)
 have hm1:Mut (λk=>k=b.nb) w (w.setCell ⟨b.nb,7,none⟩ (.int .i64 4)):=Zf (G:=λk=>k=b.nb) (Mut.refl _ _) _ _ _ rfl
 obtain ⟨w1,hw1⟩:∃z,w.setCell ⟨b.nb,7,none⟩ (.int .i64 4)=z:=⟨_,rfl⟩
 rw [hw1] at hx1 hm1
 try rw [hw1]
 clear hw1 n5 n7 fz
 have HB1:=hid hx1
 have HM1:Hid (Zl own [1] w w1):=hid (Zl.only hm1 HT.out.nb (by simp))
 clear hx1 hm1
 have n7:=HB1.out.cell H71.out
 have n8:=HB1.out.cell HN1.out.c8
 obtain ⟨w2,hw2⟩:∃z,w1=z:=⟨_,rfl⟩
 have HM12:Hid (Zl own [12] w1 w2):=hid (by rw [←hw2];exact Zl.below (Below.refl _ _))
 have HU2:Hid (Yf w2 (fpH b.hb b.hr []) b.hb b.hr (x,y) []):=hid (by rw [←hw2];exact HF.out.hubO HT.out HM1.out (by simp))
 try rw [hw2]
 clear hw2 n8
 have HM2:Hid (Zl own [1,12] w w2):=hid ((HM1.out.mono (by simp)).trans (HM12.out.mono (by simp)))
 have HB2:=hid (HB1.out.o HM12.out HT.out.nb (by simp))
 obtain ⟨w3,hclr,hkm3,hbut⟩:=(HF.out.km.o HM2.out HT.out.km (by simp)).clear1 Tryz.underlying94
 have hclr:∀ty,(Builtin.clear_ #[94] ty #[.map (some b.km)]).run Tryz.prog w2=.ok (.tuple #[]) w3:=hclr
 have HM23:Hid (Zl own [10] w2 w3):=hid (Zl.only hbut.mut HT.out.km (by simp))
 have HM3:Hid (Zl own [1,12,10] w w3):=hid ((HM2.out.mono (by simp)).trans (HM23.out.mono (by simp)))
 have HK3:=hid hkm3
 have HB3:=hid (HB2.out.o HM23.out HT.out.nb (by simp))
 have n5:=HB3.out.cell HN1.out.c5
 have m7:=HB2.out.cell H71.out
 have m5:=HB2.out.cell HN1.out.c5
 have m43:=HB2.out.cell HN1.out.c43
 have m24:=HB3.out.cell HN1.out.c24
 have CW:=hid (zaq (HF.out.watchO HT.out HM3.out (by simp)))
 clear hkm3 hbut n7
 go_wp2_with fail
 refine CW.out.mono ?_
 rintro e w4 ⟨rfl,hwa4,hm4⟩
 have HM34:Hid (Zl own [11] w3 w4):=hid (Zl.only hm4 HT.out.wr (by simp))
 have HM4:Hid (Zl own [1,12,10,11] w w4):=hid ((HM3.out.mono (by simp)).trans (HM34.out.mono (by simp)))
 have HB4:=hid (HB3.out.o HM34.out HT.out.nb (by simp))
 have HF4:Hid (Fix own b x y i tl mc V A As At ma T w4):=hid (HF.out.anew HT.out HM4.out (by simp) (by simp) (by simp) (by simp) (HK3.out.o HM34.out HT.out.km (by simp)) hwa4 (YJ (YJ HU2.out HM23.out (λe=>by
  rcases e with e | e
  ·rw [HT.out.hb] at e;simp at e
  ·have:=HF.out.lt b.hb (by rw [HT.out.hb];decide);have:=HM2.out.size;omega) (λe=>by
  rcases e with e | e
  ·rw [HT.out.hr] at e;simp at e
  ·have:=HF.out.lt b.hr (by rw [HT.out.hr];decide);have:=HM2.out.size;omega)) HM34.out (λe=>by
  rcases e with e | e
  ·rw [HT.out.hb] at e;simp at e
  ·have:=HF.out.lt b.hb (by rw [HT.out.hb];decide);have:=HM3.out.size;omega) (λe=>by
  rcases e with e | e
  ·rw [HT.out.hr] at e;simp at e
  ·have:=HF.out.lt b.hr (by rw [HT.out.hr];decide);have:=HM3.out.size;omega)))
 have n24:=HB4.out.cell HN1.out.c24
 have CL:=hid (FY HF4.out.wa)
 clear CW hwa4 hm4 hclr n5 m7 m5 m43 m24
 go_wp2_with fail
 refine CL.out.mono ?_
 rintro e w5 ⟨la,lc,rfl,hb5⟩
 have HB5:=hid (HB4.out.ext hb5)
 have CS:=hid (Ko (a:=la) (c:=lc) HB5.out HN1.out.toN1)
 clear CL n24
 go_wp2_with fail
 refine CS.out.mono ?_
 rintro e w6 ⟨rfl,hb6⟩
 have HB6:=hid (HB5.out.ext hb6)
 have HM46:Hid (Zl own [] w4 w6):=hid (Zl.below (hb5.trans (hb6.mono hb5.size)))
 have HM6:Hid (Zl own [1,12,10,11] w w6):=hid (HM4.out.trans (HM46.out.mono (by simp)))
 have HF6:Hid (Fix own b x y i tl mc V A As At ma T w6):=hid (HF4.out.o HT.out HM46.out (by simp))
 obtain ⟨la6,k6,lc6,hk6,hl6⟩:=HS.out.L
 have HL6:=hid (hl6.o HM6.out HT.out.lb (by simp))
 have HTB6:=hid (Vl HE.out.h1 HF6.out.tb)
 have hls:Zp w6 At.al [[(x,y)]]:=by
  have h:=HF6.out.tv.now.ls
  rw [HE.out.h1.ls] at h
  exact h
 have CT:=hid (QT (nb:=b.nb) (ta:=b.ta) (tl:=tl) (At:=At) (R:=λw'=>∃a c,Zc w' b.lb 149 [.int .u64 1,.slice a 0 c]) HB6.out HN1.out H411.out HST.out HF6.out.hv.now HE.out.h1 HE.out.sm.fine HL6.out HTB6.out hls (HS.out.ta.o HM6.out HT.out.ta (by simp)) (HS.out.tm.o HM6.out (by simp)).now (Vs HT.out.nb HT.out.lb (by decide)) (λW hm=>zc7 hk6 (HL6.out.o (Zl.one hm HT.out.nb (by simp:(1:Nat)∈[1])) HT.out.lb (by simp))))
 clear CS hb5 hb6 hls
 go_wp2_with fail
 refine CT.out.mono ?_
 rintro e w7 ⟨rfl,hm7,hx7,hl7⟩
 have HM67:Hid (Zl own [1,5] w6 w7):=hid (hm7.mono λk _ e=>by
  rcases e with e | e | e
  ·exact .inl (by rw [e,HT.out.nb];simp)
  ·exact .inl (by rw [e,HT.out.lb];simp)
  ·exact .inr e)
 have HM7:Hid (Zl own [1,12,10,11,5] w w7):=hid ((HM6.out.mono (by simp)).trans (HM67.out.mono (by simp)))
 have HF7:Hid (Fix own b x y i tl mc V A As At ma T w7):=hid (HF6.out.o HT.out HM67.out (by simp))
 have HB7:=hid hx7
 have HL7:=hid hl7
 have n7:=hx7.cell H72.out
 obtain ⟨qa,qc,hq⟩:=HS.out.Q
 have CR:=hid (Jq HB7.out HN2.out.c15 HN2.out.c46 (hq.o HM7.out HT.out.qb (by simp)))
 obtain ⟨la7,lc7,hl7⟩:=hl7
 obtain ⟨ld,m0,m1,hp⟩:=HS.out.p
 have CD:=hid (Kw (tick:=true) HE.out HF7.out HN2.out HB7.out (HS.out.X.o HM7.out HT.out.xb (by simp)) (HS.out.il.o HM7.out HT.out.il (by simp)) (HS.out.iw.o HM7.out HT.out.iw (by simp)) hl7 (hp.o HM7.out HT.out.pb (by simp)))
 clear CT hm7 hx7 hl7 hq hp
 clear CR
 go_wp2_with fail
 refine CD.out.mono ?_
 rintro e w8 ⟨rfl,hm8,hx8⟩
 have HM78:Hid (Zl own [1] w7 w8):=hid (Zl.one hm8 HT.out.nb (by simp))
 have HM8:Hid (Zl own [1,12,10,11,5] w w8):=hid (HM7.out.trans (HM78.out.mono (by simp)))
 have HF8:Hid (Fix own b x y i tl mc V A As At ma T w8):=hid (HF7.out.o HT.out HM78.out (by simp))
 have HB8:=hid hx8
 have CI:=hid (XR HB8.out HN2.out.toN1)
 obtain ⟨la8,lc8,hl8⟩:=HL7.out
 have hl8:=hl8.o HM78.out HT.out.lb (by simp)
 have HL8:=hid hl8
 have hls:Zp w8 At.al [[(x,y)]]:=by
  have h:=HF8.out.tv.now.ls
  rw [HE.out.h1.ls] at h
  exact h
 have CV:=hid (Ee HB8.out HN2.out H412.out HF8.out.hv.now HE.out.h1 HE.out.sm hl8 (Vl HE.out.h1 HF8.out.tb) hls (HS.out.ta.o HM8.out HT.out.ta (by simp)) (HS.out.tm.o HM8.out (by simp)).now)
 clear CD hm8 hx8 hl8 hls
 go_wp2_with fail
 refine CI.out.mono ?_
 rintro e w9 ⟨rfl,rfl⟩
 rename World=>w8
 clear CI
 go_wp2_with fail
 refine CV.out.mono ?_
 rintro e w9 ⟨rfl,hb9⟩
 have HM89:Hid (Zl own [] w8 w9):=hid (Zl.below hb9)
 have HM9:Hid (Zl own [1,12,10,11,5] w w9):=hid (HM8.out.trans (HM89.out.mono (by simp)))
 obtain ⟨ev,ea,ec,e1,e2,e3,e4⟩:=HS.out.E
 obtain ⟨qa9,qc9,hq9⟩:=HS.out.Q
 obtain ⟨ld9,m09,m19,hp9⟩:=HS.out.p
 have HR:Hid (TSn own b x y i tl mc V A As At ma T v bd 4 1 ((cz.set 7 (.int .i64 4)).set 41 (.int .u64 1)) w9):=hid ⟨HF8.out.o HT.out HM89.out (by simp),HN2.out,H72.out,H412.out,HB8.out.ext hb9,⟨ev,ea,ec,by rw [List.getElem?_set_ne (by decide),List.getElem?_set_ne (by decide)];exact e1,e2.o0 e3 HM9.out (by simp),e3,e4.o HM9.out (by simp)⟩,⟨qa9,qc9,hq9.o HM9.out HT.out.qb (by simp)⟩,HS.out.X.o HM9.out HT.out.xb (by simp),HS.out.il.o HM9.out HT.out.il (by simp),HS.out.iw.o HM9.out HT.out.iw (by simp),HS.out.ta.o HM9.out HT.out.ta (by simp),⟨_,0,_,.inl rfl,HL8.out.ext hb9⟩,⟨ld9,m09,m19,hp9.o HM9.out HT.out.pb (by simp)⟩,HS.out.tm.o HM9.out (by simp)⟩
 clear CV hb9 e1 e2 e3 e4 hq9 hp9
 go_wp2_with fail
 exact bodyPost_end (results_none rfl _ _ _) rfl ⟨rfl,HR.out,HM9.out.n (by simp)⟩
end
section
variable {own:Nat→Nat} {b:PB} {x y T v st:Int} {i tl mc:Nat} {V:Zs} {A As At:VAd} {ma:Option Addr} {bd:Bnd} {cs cz:List Value} {w:World}
set_option maxRecDepth 100000 in
set_option maxHeartbeats 6400000 in
theorem nTick4 (E:Env own b x y i V A bd cs) (S:TSn own b x y i tl mc V A As At ma T v bd 4 st cz w) (hst:max st 1=1) :
  Calls Tryz.prog 20 #[.pointer (some ⟨b.nb,0,none⟩)] w λe w'=>e=.returned (.tuple #[])∧TSn own b x y i tl mc V A As At ma T v bd 5 1 ((cz.set 7 (.int .i64 5)).set 41 (.int .u64 1)) w'∧Mut (λk=>own k≠0∨w.heap.size≤k) w w':=by
 have HE:=hid E
 have HS:=hid S
 have HST:=hid hst
 have HT:Hid (Gy own b):=hid E.t
 have HF:Hid (Fix own b x y i tl mc V A As At ma T w):=hid S.F
 have HN1:Hid (NP (cz.set 7 (.int .i64 5)) x y i A bd b):=hid (S.np.put 7 _ (.inl rfl))
 have HN2:Hid (NP ((cz.set 7 (.int .i64 5)).set 41 (.int .u64 1)) x y i A bd b):=hid (HN1.out.put 41 _ (.inr (.inl rfl)))
 have h71:(cz.set 7 (.int .i64 5))[7]?=some (.int .i64 5):=List.getElem?_set_self (List.getElem?_eq_some_iff.1 S.c7).1
 have h411:(cz.set 7 (.int .i64 5))[41]?=some (.int .u64 st):=by rw [List.getElem?_set_ne (by decide)];exact S.c41
 have H411:=hid h411
 have H412:Hid (((cz.set 7 (.int .i64 5)).set 41 (.int .u64 1))[41]?=some (.int .u64 1)):=hid (List.getElem?_set_self (List.getElem?_eq_some_iff.1 h411).1)
 have H72:Hid (((cz.set 7 (.int .i64 5)).set 41 (.int .u64 1))[7]?=some (.int .i64 5)):=hid (by rw [List.getElem?_set_ne (by decide)];exact h71)
 have H71:=hid h71
 have n5:=S.B.cell S.np.c5
 have n7:=S.B.cell S.c7
 have fz:=S.B.frozen
 clear E S hst h71 h411
 go_enter Tryz.func20,Tryz.ntmps20
 go_upto_region 2 with fail
 have hx1:Zc (w.setCell ⟨b.nb,7,none⟩ (.int .i64 5)) b.nb 98 (cz.set 7 (.int .i64 5)):=HS.out.B.set (j:=7) (v:=.int .i64 5)
 have hm1:Mut (λk=>k=b.nb) w (w.setCell ⟨b.nb,7,none⟩ (.int .i64 5)):=Zf (G:=λk=>k=b.nb) (Mut.refl _ _) _ _ _ rfl
 obtain ⟨w1,hw1⟩:∃z,w.setCell ⟨b.nb,7,none⟩ (.int .i64 5)=z:=⟨_,rfl⟩
 rw [hw1] at hx1 hm1
 try rw [hw1]
 clear hw1 n5 n7 fz
 have HB1:=hid hx1
 have HM1:Hid (Zl own [1] w w1):=hid (Zl.only hm1 HT.out.nb (by simp))
 clear hx1 hm1
 have n7:=HB1.out.cell H71.out
 have n8:=HB1.out.cell HN1.out.c8
 obtain ⟨w2,hw2⟩:∃z,w1=z:=⟨_,rfl⟩
 have HM12:Hid (Zl own [12] w1 w2):=hid (by rw [←hw2];exact Zl.below (Below.refl _ _))
 have HU2:Hid (Yf w2 (fpH b.hb b.hr []) b.hb b.hr (x,y) []):=hid (by rw [←hw2];exact HF.out.hubO HT.out HM1.out (by simp))
 try rw [hw2]
 clear hw2 n8
 have HM2:Hid (Zl own [1,12] w w2):=hid ((HM1.out.mono (by simp)).trans (HM12.out.mono (by simp)))
 have HB2:=hid (HB1.out.o HM12.out HT.out.nb (by simp))
 obtain ⟨w3,hclr,hkm3,hbut⟩:=(HF.out.km.o HM2.out HT.out.km (by simp)).clear1 Tryz.underlying94
 have hclr:∀ty,(Builtin.clear_ #[94] ty #[.map (some b.km)]).run Tryz.prog w2=.ok (.tuple #[]) w3:=hclr
 have HM23:Hid (Zl own [10] w2 w3):=hid (Zl.only hbut.mut HT.out.km (by simp))
 have HM3:Hid (Zl own [1,12,10] w w3):=hid ((HM2.out.mono (by simp)).trans (HM23.out.mono (by simp)))
 have HK3:=hid hkm3
 have HB3:=hid (HB2.out.o HM23.out HT.out.nb (by simp))
 have n5:=HB3.out.cell HN1.out.c5
 have m7:=HB2.out.cell H71.out
 have m5:=HB2.out.cell HN1.out.c5
 have m43:=HB2.out.cell HN1.out.c43
 have m24:=HB3.out.cell HN1.out.c24
 have CW:=hid (zaq (HF.out.watchO HT.out HM3.out (by simp)))
 clear hkm3 hbut n7
 go_wp2_with fail
 refine CW.out.mono ?_
 rintro e w4 ⟨rfl,hwa4,hm4⟩
 have HM34:Hid (Zl own [11] w3 w4):=hid (Zl.only hm4 HT.out.wr (by simp))
 have HM4:Hid (Zl own [1,12,10,11] w w4):=hid ((HM3.out.mono (by simp)).trans (HM34.out.mono (by simp)))
 have HB4:=hid (HB3.out.o HM34.out HT.out.nb (by simp))
 have HF4:Hid (Fix own b x y i tl mc V A As At ma T w4):=hid (HF.out.anew HT.out HM4.out (by simp) (by simp) (by simp) (by simp) (HK3.out.o HM34.out HT.out.km (by simp)) hwa4 (YJ (YJ HU2.out HM23.out (λe=>by
  rcases e with e | e
  ·rw [HT.out.hb] at e;simp at e
  ·have:=HF.out.lt b.hb (by rw [HT.out.hb];decide);have:=HM2.out.size;omega) (λe=>by
  rcases e with e | e
  ·rw [HT.out.hr] at e;simp at e
  ·have:=HF.out.lt b.hr (by rw [HT.out.hr];decide);have:=HM2.out.size;omega)) HM34.out (λe=>by
  rcases e with e | e
  ·rw [HT.out.hb] at e;simp at e
  ·have:=HF.out.lt b.hb (by rw [HT.out.hb];decide);have:=HM3.out.size;omega) (λe=>by
  rcases e with e | e
  ·rw [HT.out.hr] at e;simp at e
  ·have:=HF.out.lt b.hr (by rw [HT.out.hr];decide);have:=HM3.out.size;omega)))
 have n24:=HB4.out.cell HN1.out.c24
 have CL:=hid (FY HF4.out.wa)
 clear CW hwa4 hm4 hclr n5 m7 m5 m43 m24
 go_wp2_with fail
 refine CL.out.mono ?_
 rintro e w5 ⟨la,lc,rfl,hb5⟩
 have HB5:=hid (HB4.out.ext hb5)
 have CS:=hid (Ko (a:=la) (c:=lc) HB5.out HN1.out.toN1)
 clear CL n24
 go_wp2_with fail
 refine CS.out.mono ?_
 rintro e w6 ⟨rfl,hb6⟩
 have HB6:=hid (HB5.out.ext hb6)
 have HM46:Hid (Zl own [] w4 w6):=hid (Zl.below (hb5.trans (hb6.mono hb5.size)))
 have HM6:Hid (Zl own [1,12,10,11] w w6):=hid (HM4.out.trans (HM46.out.mono (by simp)))
 have HF6:Hid (Fix own b x y i tl mc V A As At ma T w6):=hid (HF4.out.o HT.out HM46.out (by simp))
 obtain ⟨la6,k6,lc6,hk6,hl6⟩:=HS.out.L
 have HL6:=hid (hl6.o HM6.out HT.out.lb (by simp))
 have HTB6:=hid (Vl HE.out.h1 HF6.out.tb)
 have hls:Zp w6 At.al [[(x,y)]]:=by
  have h:=HF6.out.tv.now.ls
  rw [HE.out.h1.ls] at h
  exact h
 have CT:=hid (QT (nb:=b.nb) (ta:=b.ta) (tl:=tl) (At:=At) (R:=λw'=>∃a c,Zc w' b.lb 149 [.int .u64 1,.slice a 0 c]) HB6.out HN1.out H411.out HST.out HF6.out.hv.now HE.out.h1 HE.out.sm.fine HL6.out HTB6.out hls (HS.out.ta.o HM6.out HT.out.ta (by simp)) (HS.out.tm.o HM6.out (by simp)).now (Vs HT.out.nb HT.out.lb (by decide)) (λW hm=>zc7 hk6 (HL6.out.o (Zl.one hm HT.out.nb (by simp:(1:Nat)∈[1])) HT.out.lb (by simp))))
 clear CS hb5 hb6 hls
 go_wp2_with fail
 refine CT.out.mono ?_
 rintro e w7 ⟨rfl,hm7,hx7,hl7⟩
 have HM67:Hid (Zl own [1,5] w6 w7):=hid (hm7.mono λk _ e=>by
  rcases e with e | e | e
  ·exact .inl (by rw [e,HT.out.nb];simp)
  ·exact .inl (by rw [e,HT.out.lb];simp)
  ·exact .inr e)
 have HM7:Hid (Zl own [1,12,10,11,5] w w7):=hid ((HM6.out.mono (by simp)).trans (HM67.out.mono (by simp)))
 have HF7:Hid (Fix own b x y i tl mc V A As At ma T w7):=hid (HF6.out.o HT.out HM67.out (by simp))
 have HB7:=hid hx7
 have HL7:=hid hl7
 have n7:=hx7.cell H72.out
 obtain ⟨qa,qc,hq⟩:=HS.out.Q
 have CR:=hid (Jq HB7.out HN2.out.c15 HN2.out.c46 (hq.o HM7.out HT.out.qb (by simp)))
 obtain ⟨la7,lc7,hl7⟩:=hl7
 obtain ⟨ld,m0,m1,hp⟩:=HS.out.p
 have CD:=hid (Kw (tick:=true) HE.out HF7.out HN2.out HB7.out (HS.out.X.o HM7.out HT.out.xb (by simp)) (HS.out.il.o HM7.out HT.out.il (by simp)) (HS.out.iw.o HM7.out HT.out.iw (by simp)) hl7 (hp.o HM7.out HT.out.pb (by simp)))
 clear CT hm7 hx7 hl7 hq hp
 clear CR
 go_wp2_with fail
 refine CD.out.mono ?_
 rintro e w8 ⟨rfl,hm8,hx8⟩
 have HM78:Hid (Zl own [1] w7 w8):=hid (Zl.one hm8 HT.out.nb (by simp))
 have HM8:Hid (Zl own [1,12,10,11,5] w w8):=hid (HM7.out.trans (HM78.out.mono (by simp)))
 have HF8:Hid (Fix own b x y i tl mc V A As At ma T w8):=hid (HF7.out.o HT.out HM78.out (by simp))
 have HB8:=hid hx8
 have CI:=hid (XR HB8.out HN2.out.toN1)
 obtain ⟨la8,lc8,hl8⟩:=HL7.out
 have hl8:=hl8.o HM78.out HT.out.lb (by simp)
 have HL8:=hid hl8
 have hls:Zp w8 At.al [[(x,y)]]:=by
  have h:=HF8.out.tv.now.ls
  rw [HE.out.h1.ls] at h
  exact h
 have CV:=hid (Ee HB8.out HN2.out H412.out HF8.out.hv.now HE.out.h1 HE.out.sm hl8 (Vl HE.out.h1 HF8.out.tb) hls (HS.out.ta.o HM8.out HT.out.ta (by simp)) (HS.out.tm.o HM8.out (by simp)).now)
 clear CD hm8 hx8 hl8 hls
 go_wp2_with fail
 refine CI.out.mono ?_
 rintro e w9 ⟨rfl,rfl⟩
 rename World=>w8
 clear CI
 go_wp2_with fail
 refine CV.out.mono ?_
 rintro e w9 ⟨rfl,hb9⟩
 have HM89:Hid (Zl own [] w8 w9):=hid (Zl.below hb9)
 have HM9:Hid (Zl own [1,12,10,11,5] w w9):=hid (HM8.out.trans (HM89.out.mono (by simp)))
 obtain ⟨ev,ea,ec,e1,e2,e3,e4⟩:=HS.out.E
 obtain ⟨qa9,qc9,hq9⟩:=HS.out.Q
 obtain ⟨ld9,m09,m19,hp9⟩:=HS.out.p
 have HR:Hid (TSn own b x y i tl mc V A As At ma T v bd 5 1 ((cz.set 7 (.int .i64 5)).set 41 (.int .u64 1)) w9):=hid ⟨HF8.out.o HT.out HM89.out (by simp),HN2.out,H72.out,H412.out,HB8.out.ext hb9,⟨ev,ea,ec,by rw [List.getElem?_set_ne (by decide),List.getElem?_set_ne (by decide)];exact e1,e2.o0 e3 HM9.out (by simp),e3,e4.o HM9.out (by simp)⟩,⟨qa9,qc9,hq9.o HM9.out HT.out.qb (by simp)⟩,HS.out.X.o HM9.out HT.out.xb (by simp),HS.out.il.o HM9.out HT.out.il (by simp),HS.out.iw.o HM9.out HT.out.iw (by simp),HS.out.ta.o HM9.out HT.out.ta (by simp),⟨_,0,_,.inl rfl,HL8.out.ext hb9⟩,⟨ld9,m09,m19,hp9.o HM9.out HT.out.pb (by simp)⟩,HS.out.tm.o HM9.out (by simp)⟩
 clear CV hb9 e1 e2 e3 e4 hq9 hp9
 go_wp2_with fail
 exact bodyPost_end (results_none rfl _ _ _) rfl ⟨rfl,HR.out,HM9.out.n (by simp)⟩
end
def KR (lo hi:Nat) (w:World) (A:VAd) (V:Zs):Prop:=∀G:Nat→Prop,(∀k,G k→k<lo∨hi≤k)→∀W',Mut G w W'→Zt W' A.am A.al A.ad V
theorem KR.of_stab {lo b:Nat} {w:World} {A:VAd} {V:Zs} (h:Gn b w A.am A.al A.ad V) (hb:lo≤b):KR lo w.heap.size w A V:=λG hG W' hm=>h (λk=>G k∧k<lo) (λk e=>Nat.lt_of_lt_of_le e.2 hb) W' ⟨hm.os,hm.tape,hm.output,hm.size,λk hk hf=>hm.block k hk (λe=>hf ⟨e,(hG k e).resolve_right (λh=>by omega)⟩)⟩
theorem KR.ext {lo hi:Nat} {w w':World} {A:VAd} {V:Zs} (h:KR lo hi w A V) (hb:Below w.heap.size w w'):KR lo hi w' A V:=λG hG W' hm=>h G hG W' ((Mut.of_below hb).trans hm)
theorem KR.mut {lo hi:Nat} {w w':World} {G:Nat→Prop} {A:VAd} {V:Zs} (h:KR lo hi w A V) (hm:Mut G w w') (hG:∀k,G k→k<lo∨hi≤k):KR lo hi w' A V:=λG2 hG2 W' hm2=>h (λk=>G k∨G2 k) (λk e=>e.elim (hG k) (hG2 k)) W' ((hm.mono λk _ e=>.inl e).trans (hm2.mono λk _ e=>.inr e))
theorem KR.r {lo hi:Nat} {w:World} {A:VAd} {V:Zs} (h:KR lo hi w A V):Zt w A.am A.al A.ad V:=h (λ_=>False) (λ_ e=>e.elim) w (Mut.refl _ _)
set_option maxRecDepth 100000 in
set_option maxHeartbeats 3200000 in
theorem Fe {V:Zs} {i:Nat} {A:VAd} {w:World} (hf:FitV V i) (hV:Zt w A.am A.al A.ad V) :
    Calls Tryz.prog 71 #[.agg (vcl V i A).toArray] w λe w'=>∃b mr A',e=.returned (.pointer (some ⟨b,0,none⟩))∧StateNew w w' V i b mr A'∧mr<b∧∃hi,w.heap.size≤hi∧hi≤mr∧KR w.heap.size hi w' A' V:=by
  have hmm:=@run_makeMap Tryz.prog
  obtain ⟨am,al,ad,cm,cl,cd⟩:=A
  obtain ⟨m1,e1⟩:∃q,V.ms.length=q:=⟨_,rfl⟩
  obtain ⟨m2,e2⟩:∃q,V.ls.length=q:=⟨_,rfl⟩
  obtain ⟨m3,e3⟩:∃q,V.ds.length=q:=⟨_,rfl⟩
  obtain ⟨W1,hW1⟩:∃W1,w.alloc (.cells #[.int .u64 i,.slice am m1 cm,.slice al m2 cl,.slice ad m3 cd] 35)=W1:=⟨_,rfl⟩
  have hb1:Below w.heap.size w W1:=by rw [←hW1];exact bra
  have c0:W1.cell? ⟨w.heap.size,0,none⟩=some (.int .u64 i):=by rw [←hW1];simp
  have c1:W1.cell? ⟨w.heap.size,1,none⟩=some (.slice am m1 cm):=by rw [←hW1];simp
  have c2:W1.cell? ⟨w.heap.size,2,none⟩=some (.slice al m2 cl):=by rw [←hW1];simp
  have c3:W1.cell? ⟨w.heap.size,3,none⟩=some (.slice ad m3 cd):=by rw [←hW1];simp
  have C1:=Qo (A:=⟨am,al,ad,cm,cl,cd⟩) hf (hV.ext hb1)
  have hx:(vcl V i ⟨am,al,ad,cm,cl,cd⟩).toArray=#[.int .u64 i,.slice am m1 cm,.slice al m2 cl,.slice ad m3 cd]:=by unfold vcl;rw [e1,e2,e3]
  rw [hx] at C1 ⊢
  have C1:=hid C1
  have HB1:=hid hb1
  have HE:=hid (And.intro e1 (And.intro e2 e3))
  clear hb1 hx e1 e2 e3 hV
  go_enter Tryz.func71,Tryz.ntmps71
  go_wp2_with fail
  refine C1.out.mono ?_
  rintro e w2 ⟨⟨am',al',ad',cm',cl',cd'⟩,rfl,hst2,hb2⟩
  have hv2:=hst2.r
  have HST2:=hid hst2
  have HV2:=hid hv2
  have HB2:=hid (HB1.out.trans (hb2.mono HB1.out.size))
  have hy:(vcl V i ⟨am',al',ad',cm',cl',cd'⟩).toArray=#[.int .u64 i,.slice am' m1 cm',.slice al' m2 cl',.slice ad' m3 cd']:=by unfold vcl;rw [HE.out.1,HE.out.2.1,HE.out.2.2]
  rw [hy]
  clear hv2 hb2 hst2 C1 c0 c1 c2 c3 hW1 hy
  go_wp2_with fail
  go_ret
  have hbm:=HB2.out.alloc HB2.out.size (.map #[] 0)
  refine ⟨w2.heap.size+1,w2.heap.size,⟨am',al',ad',cm',cl',cd'⟩,rfl,⟨?_,?_,?_,?_,?_,?_⟩,by omega,w2.heap.size,HB2.out.size,Nat.le_refl _,?_⟩
  · have:=HB2.out.size;simp;omega
  · have:=HB2.out.size;omega
  · exact hbm.alloc hbm.size _
  · have h:=Zc.madeN (w2.alloc (.map #[] 0)) 247 (vcl V i ⟨am',al',ad',cm',cl',cd'⟩ ++ .map (some w2.heap.size) :: Em) (n:=w2.heap.size+1) (by simp)
    have hc:(vcl V i ⟨am',al',ad',cm',cl',cd'⟩ ++ .map (some w2.heap.size) :: Em).toArray=#[.int .u64 i,.slice am' m1 cm',.slice al' m2 cl',.slice ad' m3 cd',.map (some w2.heap.size),.string ⟨#[]⟩,.string ⟨#[]⟩,.string ⟨#[]⟩,.string ⟨#[]⟩,.string ⟨#[]⟩,.string ⟨#[]⟩,.string ⟨#[]⟩,.string ⟨#[]⟩]:=by unfold vcl Em;rw [HE.out.1,HE.out.2.1,HE.out.2.2];rfl
    rw [hc] at h
    exact h
  · exact HV2.out.ext ((bra).alloc (by simp) _)
  · exact (Zj.made w2).alloc _
  · exact (KR.of_stab HST2.out HB1.out.size).ext ((bra).alloc (by simp) _)
set_option maxRecDepth 100000 in
set_option maxHeartbeats 3200000 in
theorem zaj {V:Zs} {i:Nat} {A:VAd} {w:World} (hf:FitV V i) (hV:Zt w A.am A.al A.ad V) :
    Calls Tryz.prog 173 #[.agg (vcl V i A).toArray] w λe w'=>∃b m1 m2 A',e=.returned (.pointer (some ⟨b,0,none⟩))∧zbq w w' V i b m1 m2 A'∧m1<b∧m2<b∧m1<m2∧∃hi,w.heap.size≤hi∧hi≤m1∧KR w.heap.size hi w' A' V:=by
  have hmm:=@run_makeMap Tryz.prog
  obtain ⟨am,al,ad,cm,cl,cd⟩:=A
  obtain ⟨m1,e1⟩:∃q,V.ms.length=q:=⟨_,rfl⟩
  obtain ⟨m2,e2⟩:∃q,V.ls.length=q:=⟨_,rfl⟩
  obtain ⟨m3,e3⟩:∃q,V.ds.length=q:=⟨_,rfl⟩
  obtain ⟨W1,hW1⟩:∃W1,w.alloc (.cells #[.int .u64 i,.slice am m1 cm,.slice al m2 cl,.slice ad m3 cd] 35)=W1:=⟨_,rfl⟩
  have hb1:Below w.heap.size w W1:=by rw [←hW1];exact bra
  have c0:W1.cell? ⟨w.heap.size,0,none⟩=some (.int .u64 i):=by rw [←hW1];simp
  have c1:W1.cell? ⟨w.heap.size,1,none⟩=some (.slice am m1 cm):=by rw [←hW1];simp
  have c2:W1.cell? ⟨w.heap.size,2,none⟩=some (.slice al m2 cl):=by rw [←hW1];simp
  have c3:W1.cell? ⟨w.heap.size,3,none⟩=some (.slice ad m3 cd):=by rw [←hW1];simp
  have C1:=Qo (A:=⟨am,al,ad,cm,cl,cd⟩) hf (hV.ext hb1)
  have hx:(vcl V i ⟨am,al,ad,cm,cl,cd⟩).toArray=#[.int .u64 i,.slice am m1 cm,.slice al m2 cl,.slice ad m3 cd]:=by unfold vcl;rw [e1,e2,e3]
  rw [hx] at C1 ⊢
  have C1:=hid C1
  have HB1:=hid hb1
  have HE:=hid (And.intro e1 (And.intro e2 e3))
  clear hb1 hx e1 e2 e3 hV
  go_enter Tryz.func173,Tryz.ntmps173
  go_wp2_with fail
  refine C1.out.mono ?_
  rintro e w2 ⟨⟨am',al',ad',cm',cl',cd'⟩,rfl,hst2,hb2⟩
  have hv2:=hst2.r
  have HST2:=hid hst2
  have HV2:=hid hv2
  have HB2:=hid (HB1.out.trans (hb2.mono HB1.out.size))
  have hy:(vcl V i ⟨am',al',ad',cm',cl',cd'⟩).toArray=#[.int .u64 i,.slice am' m1 cm',.slice al' m2 cl',.slice ad' m3 cd']:=by unfold vcl;rw [HE.out.1,HE.out.2.1,HE.out.2.2]
  rw [hy]
  clear hv2 hb2 hst2 C1 c0 c1 c2 c3 hW1 hy
  go_wp2_with fail
  go_ret
  have hbm:=HB2.out.alloc HB2.out.size (.map #[] 0)
  have hbm2:=hbm.alloc hbm.size (.map #[] 0)
  refine ⟨w2.heap.size+2,w2.heap.size,w2.heap.size+1,⟨am',al',ad',cm',cl',cd'⟩,rfl,⟨?_,?_,?_,?_,?_,?_,?_,?_,?_⟩,by omega,by omega,by omega,w2.heap.size,HB2.out.size,Nat.le_refl _,?_⟩
  · have:=HB2.out.size;simp;omega
  · have:=HB2.out.size;omega
  · have:=HB2.out.size;omega
  · exact hbm2.alloc hbm2.size _
  · have h:=Zc.madeN ((w2.alloc (.map #[] 0)).alloc (.map #[] 0)) 277 (vcl V i ⟨am',al',ad',cm',cl',cd'⟩ ++ [.map (some w2.heap.size),.map (some (w2.heap.size+1))]) (n:=w2.heap.size+2) (by simp)
    have hc:(vcl V i ⟨am',al',ad',cm',cl',cd'⟩ ++ [Value.map (some w2.heap.size),Value.map (some (w2.heap.size+1))]).toArray=#[.int .u64 i,.slice am' m1 cm',.slice al' m2 cl',.slice ad' m3 cd',.map (some w2.heap.size),.map (some (w2.heap.size+1))]:=by unfold vcl;rw [HE.out.1,HE.out.2.1,HE.out.2.2];rfl
    rw [hc] at h
    simpa using h
  · exact HV2.out.ext (((bra).alloc (by simp) _).alloc (by simp;omega) _)
  · exact ((Zj.made w2).alloc _).alloc _
  · have h:=(Zj.made (ke:=eI) (ve:=n64) (w2.alloc (.map #[] 0))).alloc (.cells #[.int .u64 i,.slice am' m1 cm',.slice al' m2 cl',.slice ad' m3 cd',.map (some w2.heap.size),.map (some (w2.heap.size+1))] 277)
    simpa using h
  · exact λG hG W' hm=>(HST2.out.ext (((bra).alloc (by simp) _).alloc (by simp;omega) _)) G (λk hk=>Nat.lt_of_lt_of_le (hG k hk) HB1.out.size) W' hm
  · exact (KR.of_stab HST2.out HB1.out.size).ext (((bra).alloc (by simp) _).alloc (by simp;omega) _)
theorem zeo {w w':World} {V:Zs} {i b m1 m2:Nat} {am:Option Addr} {cm:Nat} {e:Ending} (blk:∀g off,am=some ⟨g,off,none⟩→V.ms≠[]→w.heap.size≤g) (he:e=.returned (.pointer (some ⟨b,0,none⟩))) (box:Zc w' b 199 [.int .u64 i,.slice am V.ms.length cm,.map (some m1),.map (some m2),.int .i64 0])
    (lt:w.heap.size≤b) (lt1:w.heap.size≤m1) (lt2:w.heap.size≤m2) (below:Below w.heap.size w w') (row:Zb w' am V.ms) (map1:Zj w' m1 Yg n64 []) (map2:∀{α β:Type} [DecidableEq α] (ke:α→Value) (ve:β→Value),Zj w' m2 ke ve ([]:List (α × β))) (ne:m1≠m2) :
    ∃b m1 m2 am cm,e=.returned (.pointer (some ⟨b,0,none⟩))∧InNew w w' V i b m1 m2 am cm∧∀g off,am=some ⟨g,off,none⟩→V.ms≠[]→w.heap.size≤g:=⟨b,m1,m2,am,cm,he,⟨lt,lt1,lt2,below,box,row,map1,map2,ne⟩,blk⟩
set_option maxRecDepth 100000 in
set_option maxHeartbeats 3200000 in
theorem Fp {V:Zs} {i:Nat} {A:VAd} {w:World} (hf:FitV V i) (hV:Zt w A.am A.al A.ad V) :
    Calls Tryz.prog 172 #[.agg (vcl V i A).toArray] w λe w'=>∃b m1 m2 am cm,e=.returned (.pointer (some ⟨b,0,none⟩))∧InNew w w' V i b m1 m2 am cm∧∀g off,am=some ⟨g,off,none⟩→V.ms≠[]→w.heap.size≤g:=by
  have hmm:=@run_makeMap Tryz.prog
  obtain ⟨am,al,ad,cm,cl,cd⟩:=A
  obtain ⟨m1,e1⟩:∃q,V.ms.length=q:=⟨_,rfl⟩
  obtain ⟨m2,e2⟩:∃q,V.ls.length=q:=⟨_,rfl⟩
  obtain ⟨m3,e3⟩:∃q,V.ds.length=q:=⟨_,rfl⟩
  obtain ⟨W1,hW1⟩:∃W1,w.alloc (.cells #[.int .u64 i,.slice am m1 cm,.slice al m2 cl,.slice ad m3 cd] 35)=W1:=⟨_,rfl⟩
  have hb1:Below w.heap.size w W1:=by rw [←hW1];exact bra
  have c0:W1.cell? ⟨w.heap.size,0,none⟩=some (.int .u64 i):=by rw [←hW1];simp
  have c1:W1.cell? ⟨w.heap.size,1,none⟩=some (.slice am m1 cm):=by rw [←hW1];simp
  have hM:=(hV.ext hb1).ms
  have hms:=hf.ms
  have CM:Hid (∀W,Below W1.heap.size W1 W→Calls Tryz.prog 86 #[.slice am m1 cm] W λe w'=>∃v,e=.returned v∧Zy w' W1.heap.size v V.ms∧Below W1.heap.size W1 w'∧Below W.heap.size W w'):=hid λW h=>(Qe (hid e1) (by omega) (hM.ext h)).mono λe w' ⟨v,h1,h2,h3⟩=>⟨v,h1,Zy.mono h2 h.size,h.trans (h3.mono h.size),h3⟩
  have HS:Hid (∀W,Below W1.heap.size W1 W→Below W1.heap.size W1 W∧W.cell? ⟨w.heap.size,0,none⟩=some (.int .u64 i)∧W.cell? ⟨w.heap.size,1,none⟩=some (.slice am m1 cm)):=hid λW h=>⟨h,Zk c0 h,Zk c1 h⟩
  have H0:Below W1.heap.size W1 W1.drew:=(Below.refl _ _).drew
  have hx:(vcl V i ⟨am,al,ad,cm,cl,cd⟩).toArray=#[.int .u64 i,.slice am m1 cm,.slice al m2 cl,.slice ad m3 cd]:=by unfold vcl;rw [e1,e2,e3]
  rw [hx]
  have HB1:=hid hb1
  have HE:=hid e1
  clear hb1 hx e1 e2 e3 hV hf c0 c1 hM hms
  go_enter Tryz.func172,Tryz.ntmps172
  go_wp2_with fail
  clear hW1
  go_region_held3 (λW=>Below W1.heap.size W1 W∧W.cell? ⟨w.heap.size,0,none⟩=some (.int .u64 i)∧W.cell? ⟨w.heap.size,1,none⟩=some (.slice am m1 cm)) (exact HS.out _ (by repeat (first | assumption | exact H0 | refine Zd ?_ _ | exact Below.refl _ _ | refine Below.drew ?_))) (first | ((go_at_call 86;refine (CM.out _ (by repeat (first | assumption | exact H0 | refine Zd ?_ _ | exact Below.refl _ _ | refine Below.drew ?_))).mono ?_;rintro e w6 ⟨v6,rfl,hown6,hb6,hq6⟩;obtain ⟨a6,k6,rfl,hrow6,hblk6⟩:=Zy.row hown6;have HBK6:=hid hblk6;clear hblk6)))
  all_goals (
    go_wp2
    go_ret
    have s1:=HB1.out.size
    have s2:=hb6.size
    have s3:=hq6.size
    refine zeo (am:=a6) (cm:=k6) (λg off e hne=>Nat.le_trans HB1.out.size (HBK6.out g off e)) rfl (Zc.madeN _ _ _ (by first | rfl | simp)) ?_ ?_ ?_ ?_ ?_ ?_ ?_ ?_)
  all_goals (first
    | omega
    | (simp;done)
    | (simp at s3 ⊢;omega)
    | (refine HB1.out.trans (Below.mono ?_ HB1.out.size);repeat (first | assumption | exact H0 | refine Zd ?_ _ | exact Below.refl _ _ | refine Below.drew ?_))
    | (refine hrow6.ext ?_;repeat (first | assumption | refine Zd ?_ _ | exact Below.refl _ _))
    | (intros;first
      | (refine VX (X:=w6) ?_ ?_
         · first | rfl | (simp;done)
         · repeat (first | assumption | exact Below.refl _ _ | refine Zd ?_ _ | refine Zh ?_ hq6 | refine Below.drew ?_))
      | (refine VX (X:=w6.alloc (.map #[] 0)) ?_ ?_
         · first | rfl | (simp;done)
         · repeat (first | assumption | exact Below.refl _ _ | refine Zd ?_ _ | refine Zh ?_ hq6 | refine Below.drew ?_))
      | (refine VX (X:=W1) ?_ ?_
         · first | rfl | (simp;done)
         · repeat (first | assumption | exact Below.refl _ _ | refine Zd ?_ _ | refine Zh ?_ hq6 | refine Below.drew ?_))
      | (refine VX (X:=W1.alloc (.map #[] 0)) ?_ ?_
         · first | rfl | (simp;done)
         · repeat (first | assumption | exact Below.refl _ _ | refine Zd ?_ _ | refine Zh ?_ hq6 | refine Below.drew ?_))
      | (refine VX (X:=W1.drew) ?_ ?_
         · first | rfl | (simp;done)
         · repeat (first | assumption | exact Below.refl _ _ | refine Zd ?_ _ | refine Zh ?_ hq6 | refine Below.drew ?_))
      | (refine VX (X:=(W1.alloc (.map #[] 0)).drew) ?_ ?_
         · first | rfl | (simp;done)
         · repeat (first | assumption | exact Below.refl _ _ | refine Zd ?_ _ | refine Zh ?_ hq6 | refine Below.drew ?_))))
structure Made (z:Nat) (w:World) (V:Zs) (i qb ib tb il iw ta tl:Nat) (mi:Option Addr) (mc:Nat) (At:VAd) (lo hi:Nat):Prop where
 q:Zc w qb 159 [.int .u64 i,.int .u64 0,.slice none 0 0]
 x:Zc w ib 199 [.int .u64 i,.slice mi V.ms.length mc,.map (some il),.map (some iw),.int .i64 0]
 xr:Zb w mi V.ms
 xb:∀g off,mi=some ⟨g,off,none⟩→V.ms≠[]→qb<g∧g<lo
 mil:Zj w il Yg n64 []
 miw:∀{α β:Type} [DecidableEq α] (ke:α→Value) (ve:β→Value),Zj w iw ke ve ([]:List (α × β))
 t:Zc w tb 277 (vcl V i At ++ [.map (some ta),.map (some tl)])
 mta:Zj w ta Yg n64 []
 mtl:Zj w tl eI n64 []
 kr:KR lo hi w At V
 o:z≤qb∧qb<ib∧qb<il∧qb<iw∧il≠iw∧ib<lo∧il<lo∧iw<lo∧lo≤hi∧hi≤ta∧ta<tl∧tl<tb∧tb<w.heap.size
section
variable {z:Nat} {w w':World} {V:Zs} {i qb ib tb il iw ta tl mc lo hi:Nat} {mi:Option Addr} {At:VAd}
theorem Zb.mutG {a:Option Addr} {xs:List Pid} {G:Nat→Prop} (h:Zb w a xs) (hm:Mut G w w') (hG:∀g off,a=some ⟨g,off,none⟩→xs≠[]→¬ G g):Zb w' a xs:=by
 by_cases hx:xs=[]
 ·exact .inl hx
 ·exact h.mutN hm λg off e=>hG g off e hx
theorem Made.mut {G:Nat→Prop} (h:Made z w V i qb ib tb il iw ta tl mi mc At lo hi) (hm:Mut G w w') (hG:∀k,G k→k<z∨w.heap.size≤k):Made z w' V i qb ib tb il iw ta tl mi mc At lo hi:=by
 have ho:=h.o
 have hn:∀k,z≤k→k<w.heap.size→¬ G k:=λk h1 h2 e=>by have:=hG k e;omega
 exact ⟨h.q.mut hm (hn _ (by omega) (by omega)),h.x.mut hm (hn _ (by omega) (by omega)),h.xr.mutG hm (λg off e hx=>hn _ (by have:=h.xb g off e hx;omega) (by have:=h.xb g off e hx;omega)),h.xb,h.mil.same (hm.block _ h.mil.lt (hn _ (by omega) (by omega))),λke ve=>(h.miw ke ve).same (hm.block _ (h.miw ke ve).lt (hn _ (by omega) (by omega))),h.t.mut hm (hn _ (by omega) (by omega)),h.mta.same (hm.block _ h.mta.lt (hn _ (by omega) (by omega))),h.mtl.same (hm.block _ h.mtl.lt (hn _ (by omega) (by omega))),h.kr.mut hm (λk e=>by have:=hG k e;omega),by have:=hm.size;omega⟩
theorem Made.less {z':Nat} (h:Made z w V i qb ib tb il iw ta tl mi mc At lo hi) (hz:z'≤z):Made z' w V i qb ib tb il iw ta tl mi mc At lo hi:=⟨h.q,h.x,h.xr,h.xb,h.mil,h.miw,h.t,h.mta,h.mtl,h.kr,by have:=h.o;omega⟩
theorem made_of {w7 w8 w9 w10:World} (hz:z≤w7.heap.size) (hq1:w7.heap.size≤qb) (hq:Zc w8 qb 159 [.int .u64 i,.int .u64 0,.slice none 0 0]) (hI:InNew w8 w9 V i ib il iw mi mc) (hrb:∀g off,mi=some ⟨g,off,none⟩→V.ms≠[]→w8.heap.size≤g) (hb:Below w9.heap.size w9 w10) (hT:zbq w9 w10 V i tb ta tl At) (h1:ta<tb) (h2:tl<tb) (h3:ta<tl) (h4:w9.heap.size≤hi) (h5:hi≤ta) (hk:KR w9.heap.size hi w10 At V):Made z w10 V i qb ib tb il iw ta tl mi mc At w9.heap.size hi:=by
 have q1:=hq.lt
 have q2:=hI.lt
 have q3:=hI.lt1
 have q4:=hI.lt2
 have q5:=hI.box.lt
 have q6:=hI.map1.lt
 have q7:=(hI.map2 n64 n64).lt
 have q8:=hT.box.lt
 exact ⟨(hq.ext hI.below).ext hb,hI.box.ext hb,hI.row.ext hb,λg off e hx=>by
  have g1:=hrb g off e hx
  obtain ⟨g',off',e',g2,-⟩:=hI.row.get (List.length_pos_iff.2 hx)
  rw [e] at e';cases e'
  omega,hI.map1.ext hb,λke ve=>(hI.map2 ke ve).ext hb,hT.box,hT.map1,hT.map2,hk,by have:=hI.ne;omega⟩
end
structure Inst2 (w w':World) (V:Zs) (i:Nat) (x y l m t T:Int) (A:VAd) (nb h stb pb wb sb sr m1 m2:Nat) (led acc:Value) (ps:List Value):Prop where
 all:∃(ba:Option Addr) (bn bc qb ib tb il iw ta tl:Nat) (mi:Option Addr) (mc:Nat) (At:VAd) (lo hi wr':Nat) (ev:Value) (A':VAd),Zc w' nb 98 ((FF x y l m t 1 (.slice none 0 0) 0 h [.int .u64 i,.slice A.am V.ms.length A.cm,.slice A.al V.ls.length A.cl,.slice A.ad V.ds.length A.cd,.int .u64 0,.slice ba bn bc,.pointer (some ⟨qb,0,none⟩),.pointer (some ⟨ib,0,none⟩),.pointer none,.pointer (some ⟨tb,0,none⟩),.bool false] led (.pointer (some ⟨stb,0,none⟩)) acc (.pointer (some ⟨pb,0,none⟩)) wb rum0 0 m1 m2 (.slice none 0 0) sb false (.slice none 0 0) (.slice none 0 0)).set 48 ev)∧Vk w' w.heap.size 48 9 ev [[.int .i64 1,.int .u64 i,.slice A'.am V.ms.length A'.cm,.slice A'.al V.ls.length A'.cl,.slice A'.ad V.ds.length A'.cd,.int .u16 0,.int .u32 0,.int .u64 0,.slice none 0 0]]∧(∀g,ev.ownBlock=some g→tb<g)∧Gn w.heap.size w' A'.am A'.al A'.ad V∧Made w.heap.size w' V i qb ib tb il iw ta tl mi mc At lo hi∧Zc w' pb 255 ps∧tb<wr'∧Zq w' wb wr' T (Xp [] [] (ZI V (x,y)))∧ZP w' sb sr []
 mt:Mut (λk=>k=nb∨k=pb∨k=wb∨k=sr) w w'
end Go.Proofs.YtcdpaflmofljaaaGreat
