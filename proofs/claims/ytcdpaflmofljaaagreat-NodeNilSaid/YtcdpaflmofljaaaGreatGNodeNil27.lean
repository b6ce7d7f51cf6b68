import Derived.Test.YtcdpaflmofljaaaGreatGNodeNil26
/- Parts of the proof of NodeNil: MJ. -/
namespace Go.Proofs.YtcdpaflmofljaaaGreat
open Go.RowKit
theorem prepL (x y:Int):(ML Zu (Et 1 1 x y)).toArray=#[.int .i64 4,.int .u16 0,.int .u32 0,.int .u64 0,.int .u64 1,.int .u64 0,.int .i64 0,.int .u32 1,.int .u16 x,.int .u32 y,.int .u32 0,.int .u16 0,.int .u32 0,.bool false,.int .i64 0,.int .u16 0,.int .u32 0,.int .u64 0,.int .u64 0,.slice none 0 0,.int .u64 0,.slice none 0 0,.slice none 0 0,.slice none 0 0,.int .u64 0,.slice none 0 0,.slice none 0 0,.slice none 0 0,.slice none 0 0]:=by rfl
theorem acptL (B2:MA) (x y:Int) (i:Nat):(ML (mA B2) (EB 1 1 x y (VH x y i))).toArray=#[.int .i64 6,.int .u16 0,.int .u32 0,.int .u64 0,.int .u64 1,.int .u64 0,.int .i64 0,.int .u32 1,.int .u16 x,.int .u32 y,.int .u32 0,.int .u16 0,.int .u32 0,.bool false,.int .i64 2,.int .u16 x,.int .u32 y,.int .u64 1,.int .u64 i,.slice B2.da 1 B2.dc,.int .u64 0,.slice B2.am 0 B2.cm,.slice B2.al 0 B2.cl,.slice B2.ad 0 B2.cd,.int .u64 0,.slice none 0 0,.slice none 0 0,.slice none 0 0,.slice none 0 0]:=by rfl
section
variable {w:World} {nb lb pb i lc:Nat} {cs:List Value} {x y s0 s1 s2 b0 b1 b2 osl m0 m1:Int} {A:VAd} {V:Zs} {tick:Bool} {N:Nat→Prop} {R:World→Prop} {k ld val:Value} {la:Option Addr}
set_option maxRecDepth 100000 in
set_option maxHeartbeats 3200000 in
theorem nDrive0 (hB:Zc w nb 98 cs) (hN:N1 cs x y i A) (hV:Zt w A.am A.al A.ad V) (h1:V1 V x y i) (hf:Gb V) (c20:cs[20]?=some (.pointer (some ⟨lb,0,none⟩))) (c23:cs[23]?=some (.pointer (some ⟨pb,0,none⟩))) (hL:Zc w lb 149 [.int .u64 1,k]) (hP:Zc w pb 255 (prC x y s0 s1 s2 2 ld 2 b0 b1 b2 (.pointer none) m0 m1))
  (CW:∀W,Below w.heap.size w W→Calls Tryz.prog 104 #[.pointer (some ⟨nb,0,none⟩),.bool tick] W λe w'=>e=.returned (.agg #[.int .i64 0,.int .u16 0,.int .u32 0,.int .u64 0,.int .u64 0,.slice none 0 0,.int .u64 0,.slice none 0 0,.slice none 0 0,.slice none 0 0])∧Mut (λk=>k=nb∨W.heap.size≤k) W w'∧Zc w' nb 98 cs) :
  Calls Tryz.prog 49 #[.pointer (some ⟨nb,0,none⟩),.bool tick] w λe w'=>e=.returned (.tuple #[])∧Mut (λk=>k=nb∨w.heap.size≤k) w w'∧Zc w' nb 98 cs:=by
 have CI:=hid (XR hB hN)
 have CC:=hid (EV hB hN hV h1 hf)
 have HB:=hid hB
 have HN:=hid hN
 have H1:=hid h1
 have HV:=hid hV
 have HC20:=hid c20
 have HC23:=hid c23
 have HL:=hid hL
 have HP:=hid hP
 have HCW:=hid CW
 clear hB hN hV h1 hf c20 c23 hL hP CW
 go_enter Tryz.func49,Tryz.ntmps49
 go_wp2_with fail
 refine CI.out.mono ?_
 rintro e w1 ⟨rfl,rfl⟩
 rename World=>w
 clear CI
 go_wp2_with fail
 refine CC.out.mono ?_
 rintro e w1 ⟨rfl,hb1⟩
 have HB1:=hid (HB.out.ext hb1)
 have HP1:=hid (HP.out.ext hb1)
 have HW1:=hid hb1
 have CL:=hid (XT (HL.out.ext hb1))
 have CP:=hid (Jd HP1.out)
 have CT:=hid (Kl HP1.out)
 have n20:=HB1.out.cell HC20.out
 have n23:=HB1.out.cell HC23.out
 clear CC hb1
 go_wp2_with fail
 refine CL.out.mono ?_
 rintro e w9 ⟨rfl,rfl⟩
 rename World=>w1
 clear CL n20
 go_wp2_with fail
 refine CP.out.mono ?_
 rintro e w9 ⟨rfl,rfl⟩
 rename World=>w1
 go_wp2_with fail
 refine CT.out.mono ?_
 rintro e w9 ⟨rfl,rfl⟩
 rename World=>w1
 clear CT
 go_wp2_with fail
 refine CP.out.mono ?_
 rintro e w9 ⟨rfl,rfl⟩
 rename World=>w1
 have CV:=hid (VJ HP1.out)
 clear CP
 go_wp2_with fail
 refine CV.out.mono ?_
 rintro e w2 ⟨rfl,hb2⟩
 clear CV n23
 go_upto_region 15 with fail
 obtain ⟨w3,hw3⟩:∃z,w2.alloc (.cells #[.int .i64 0,.int .u16 0,.int .u32 0,.int .u64 0,.int .u64 0,.slice none 0 0,.int .u64 0,.slice none 0 0,.slice none 0 0,.slice none 0 0] 126)=z:=⟨_,rfl⟩
 have hb3:Below w2.heap.size w2 w3:=by rw [←hw3];exact bra
 have hx3:Zc w3 w2.heap.size 126 [.int .i64 0,.int .u16 0,.int .u32 0,.int .u64 0,.int .u64 0,.slice none 0 0,.int .u64 0,.slice none 0 0,.slice none 0 0,.slice none 0 0]:=by rw [←hw3];exact Zc.made _ _ _
 try rw [hw3]
 clear hw3
 have hb13:=hb2.trans (hb3.mono hb2.size)
 have HW3:=hid (HW1.out.trans (hb13.mono HW1.out.size))
 have HX3:=hid hx3
 have HB3:=hid (HB1.out.ext hb13)
 have HP3:=hid (HP1.out.ext hb13)
 have HZ3:Hid (w.heap.size≤w2.heap.size∧w2.heap.size<w3.heap.size):=hid ⟨Nat.le_trans HW1.out.size hb2.size,hx3.lt⟩
 have CW:=hid (HCW.out w3 HW3.out)
 clear hb2 hb3 hb13 hx3 HB1 HP1 HW1
 go_wp2_with fail
 refine CW.out.mono ?_
 rintro e w4 ⟨rfl,hm4,hbx4⟩
 have hx4:=HX3.out.mut hm4 (λe=>by have:=HZ3.out;have:=HB.out.lt;rcases e with e | e <;> omega)
 have HX4:=hid hx4
 have HM4:=hid hm4
 have HB4:=hid hbx4
 have fz:=hx4.frozen
 have e0:=hx4.cell (j:=0) rfl
 have e1:=hx4.cell (j:=1) rfl
 have e2:=hx4.cell (j:=2) rfl
 have e3:=hx4.cell (j:=3) rfl
 have e4:=hx4.cell (j:=4) rfl
 have e5:=hx4.cell (j:=5) rfl
 have e6:=hx4.cell (j:=6) rfl
 have e7:=hx4.cell (j:=7) rfl
 have e8:=hx4.cell (j:=8) rfl
 have e9:=hx4.cell (j:=9) rfl
 clear hx4 hm4 hbx4 CW
 go_wp2_with fail
 have hmr:=YG w4 w2.heap.size (.int .i64 0) (.int .u16 0) (.int .u32 0) (.int .u64 0) (.int .u64 0) (.slice none 0 0) (.int .u64 0) (.slice none 0 0) (.slice none 0 0) (.slice none 0 0)
 have hmz:Mut (λk=>k=nb∨w.heap.size≤k) w _:=(((Mut.of_below HW3.out).mono λk _ e=>.inr e).trans (HM4.out.mono λk _ e=>e.imp id (Nat.le_trans HW3.out.size))).trans (hmr.mono λk _ e=>.inr (by rw [e];exact HZ3.out.1))
 have hbz:=HB4.out.mut hmr (λe=>by have:=HZ3.out;have:=HB.out.lt;omega)
 exact bodyPost_ret (results_none rfl _ _ _) rfl ⟨rfl,hmz,hbz⟩
end
end Go.Proofs.YtcdpaflmofljaaaGreat
