import Derived.Test.YtcdpaflmofljaaaGreatGNodeNil25
/- Parts of the proof of NodeNil: MI. -/
namespace Go.Proofs.YtcdpaflmofljaaaGreat
open Go.RowKit
theorem Ff {cs:List Value} {j:Nat} {v:Value} (h:cs[j]?=some v):cs.set j v=cs:=by
 apply List.ext_getElem?
 intro k
 by_cases e:j=k
 ·subst e
  rw [List.getElem?_set_self (by exact (List.getElem?_eq_some_iff.1 h).1),h]
 ·rw [List.getElem?_set_ne e]
section
variable {w:World} {nb vr i:Nat} {cs:List Value} {x y:Int} {A:VAd} {V:Zs} {bd:Bnd} {b:PB} {own:Nat→Nat} {tick:Bool} {N:Nat→Prop}
set_option maxRecDepth 100000 in
set_option maxHeartbeats 3200000 in
theorem nWants0 (hB:Zc w nb 98 cs) (hN:NP cs x y i A bd b) (h1:V1 V x y i) (hfit:EI bd V.ls=true) (hnl:own nb≠0) (hV:YD own (Zt · A.am A.al A.ad V) w) (hS:∀W,Mut (λk=>k=nb∨w.heap.size≤k) w W→ZP W b.vb vr [])
  (CQ:∀W,Mut (λk=>k=nb∨w.heap.size≤k) w W→w.heap.size<W.heap.size→Zc W nb 98 cs→Calls Tryz.prog 201 #[.pointer (some ⟨nb,0,none⟩)] W λe w'=>e=.returned (.agg #[.int .i64 0,.int .u16 0,.int .u32 0,.int .u64 0,.int .u64 0,.slice none 0 0,.int .u64 0,.slice none 0 0,.slice none 0 0,.slice none 0 0])∧Below W.heap.size W w') :
  Calls Tryz.prog 104 #[.pointer (some ⟨nb,0,none⟩),.bool tick] w λe w'=>e=.returned (.agg #[.int .i64 0,.int .u16 0,.int .u32 0,.int .u64 0,.int .u64 0,.slice none 0 0,.int .u64 0,.slice none 0 0,.slice none 0 0,.slice none 0 0])∧Mut (λk=>k=nb∨w.heap.size≤k) w w'∧Zc w' nb 98 cs:=by
 obtain ⟨W1,hW1⟩:∃W1,w.alloc (.cells #[.int .i64 0,.int .u16 0,.int .u32 0,.int .u64 0,.int .u64 0,.slice none 0 0,.int .u64 0,.slice none 0 0,.slice none 0 0,.slice none 0 0] 126)=W1:=⟨_,rfl⟩
 have hb1:Below w.heap.size w W1:=by rw [←hW1];exact bra
 have xR:Zc W1 w.heap.size 126 [.int .i64 0,.int .u16 0,.int .u32 0,.int .u64 0,.int .u64 0,.slice none 0 0,.int .u64 0,.slice none 0 0,.slice none 0 0,.slice none 0 0]:=by rw [←hW1];exact Zc.made _ _ _
 have HMK:Hid (∀W,Mut (λk=>k=nb∨W1.heap.size≤k) W1 W→Mut (λk=>k=nb∨w.heap.size≤k) w W):=hid λW h=>((Mut.of_below hb1).mono λk _ e=>.inr e).trans (h.mono λk _ e=>e.imp id (Nat.le_trans hb1.size))
 have HBW:=hid (hB.ext hb1)
 have HZ:Hid (nb<w.heap.size∧w.heap.size<W1.heap.size):=hid ⟨hB.lt,xR.lt⟩
 have HX1:=hid xR
 have HB1:=hid hb1
 have HN:=hid hN
 have H1:=hid h1
 have HFI:=hid hfit
 have HNL:=hid hnl
 have HV:=hid hV
 have HSE:=hid hS
 have HCQ:=hid CQ
 have HS:Hid (∀W,Zc W nb 98 cs→W.cell? ⟨nb,44,none⟩=some (.slice none 0 0)∧W.cell? ⟨nb,25,none⟩=some (.int .u32 0)∧W.cell? ⟨nb,26,none⟩=some (.int .u32 0)∧W.cell? ⟨nb,27,none⟩=some (.int .u32 0)∧W.cell? ⟨nb,28,none⟩=some (.int .u32 0)∧W.cell? ⟨nb,29,none⟩=some (.int .u32 0)∧W.cell? ⟨nb,30,none⟩=some (.int .u32 0)∧W.cell? ⟨nb,31,none⟩=some (.int .u32 0)∧W.cell? ⟨nb,32,none⟩=some (.int .u32 0)∧W.cell? ⟨nb,33,none⟩=some (.int .u32 0)∧W.cell? ⟨nb,34,none⟩=some (.int .u32 0)∧W.cell? ⟨nb,35,none⟩=some (.int .u32 0)∧W.cell? ⟨nb,36,none⟩=some (.int .u32 0)∧W.cell? ⟨nb,37,none⟩=some (.int .u32 0)∧W.cell? ⟨nb,38,none⟩=some (.int .u32 0)∧W.cell? ⟨nb,39,none⟩=some (.int .u32 0)∧W.cell? ⟨nb,40,none⟩=some (.int .u32 0)):=hid λW h=>⟨h.cell HN.out.c44,h.cell (HN.out.ru 0 (by decide)),h.cell (HN.out.ru 1 (by decide)),h.cell (HN.out.ru 2 (by decide)),h.cell (HN.out.ru 3 (by decide)),h.cell (HN.out.ru 4 (by decide)),h.cell (HN.out.ru 5 (by decide)),h.cell (HN.out.ru 6 (by decide)),h.cell (HN.out.ru 7 (by decide)),h.cell (HN.out.ru 8 (by decide)),h.cell (HN.out.ru 9 (by decide)),h.cell (HN.out.ru 10 (by decide)),h.cell (HN.out.ru 11 (by decide)),h.cell (HN.out.ru 12 (by decide)),h.cell (HN.out.ru 13 (by decide)),h.cell (HN.out.ru 14 (by decide)),h.cell (HN.out.ru 15 (by decide))⟩
 have HS3:Hid (∀W,Zc W nb 98 cs→W.cell? ⟨nb,44,none⟩=some (.slice none 0 0)∧W.cell? ⟨nb,9,none⟩=some (.int .u64 i)∧W.cell? ⟨nb,10,none⟩=some (.slice A.am 1 A.cm)∧W.cell? ⟨nb,11,none⟩=some (.slice A.al 1 A.cl)∧W.cell? ⟨nb,12,none⟩=some (.slice A.ad 1 A.cd)∧W.cell? ⟨nb,2,none⟩=some (.int .i64 bd.least)∧W.cell? ⟨nb,3,none⟩=some (.int .i64 bd.most)∧W.cell? ⟨nb,4,none⟩=some (.int .i64 bd.tmo)):=hid λW h=>⟨h.cell HN.out.c44,h.cell HN.out.c9,h.cell HN.out.c10,h.cell HN.out.c11,h.cell HN.out.c12,h.cell HN.out.c2,h.cell HN.out.c3,h.cell HN.out.c4⟩
 have CSO:Hid (∀W,Below W1.heap.size W1 W→Calls Tryz.prog 197 #[.agg #[.int .u32 0,.int .u32 0,.int .u32 0,.int .u32 0,.int .u32 0,.int .u32 0,.int .u32 0,.int .u32 0,.int .u32 0,.int .u32 0,.int .u32 0,.int .u32 0,.int .u32 0,.int .u32 0,.int .u32 0,.int .u32 0],.slice none 0 0] W λe w'=>e=.returned (.slice none 0 0)∧Below W1.heap.size W1 w'):=hid λW hb=>(zaz W).mono λe w' ⟨h1,h2⟩=>⟨h1,hb.trans (h2.mono hb.size)⟩
 clear hB hN h1 hfit hnl hV hS CQ hb1 xR
 go_enter Tryz.func104,Tryz.ntmps104
 go_upto_region 1 with fail
 try rw [hW1]
 clear hW1
 refine rhd HS.out (HBW.out.ext (Below.refl _ _).drew) λhHeld=>?_
 refine tkv 0 (.pointer (some ⟨nb,0,none⟩)) rfl ?_
 refine tkv 1 (.pointer (some ⟨nb,0,none⟩)) rfl ?_
 refine tkv 2 (.pointer (some ⟨nb,0,none⟩)) rfl ?_
 refine tkv 3 (.pointer (some ⟨nb,25,none⟩)) rfl ?_
 refine tkv 4 (.agg #[.int .u32 0,.int .u32 0,.int .u32 0,.int .u32 0,.int .u32 0,.int .u32 0,.int .u32 0,.int .u32 0,.int .u32 0,.int .u32 0,.int .u32 0,.int .u32 0,.int .u32 0,.int .u32 0,.int .u32 0,.int .u32 0]) rfl ?_
 refine tkv 5 (.pointer (some ⟨nb,0,none⟩)) rfl ?_
 refine tkv 6 (.pointer (some ⟨nb,0,none⟩)) rfl ?_
 refine tkv 7 (.pointer (some ⟨nb,44,none⟩)) rfl ?_
 refine tkv 8 (.slice none 0 0) rfl ?_
 refine rd1 9 rfl λK hK=>?_
 go_simp
 refine (CSO.out _ (Below.refl _ _).drew).mono ?_
 rintro e w2 ⟨rfl,hb2⟩
 refine hK.out _ _ (HS.out _ (HBW.out.ext hb2)) (λhHeld=>?_)
 clear hK K
 try simp only [lay]
 refine tkv 10 (.pointer (some ⟨nb,0,none⟩)) rfl ?_
 refine tkv 11 (.pointer (some ⟨nb,44,none⟩)) rfl ?_
 have j44:=(HBW.out.ext hb2).cell HN.out.c44
 have fz:=(HBW.out.ext hb2).frozen
 refine rd1 12 rfl λK hK=>?_
 go_simp
 have hm:Mut (λk=>k=nb) w2 (w2.setCell ⟨nb,44,none⟩ (.slice none 0 0)):=Zf (G:=λk=>k=nb) (Mut.refl _ _) _ _ _ rfl
 have hbx:Zc (w2.setCell ⟨nb,44,none⟩ (.slice none 0 0)) nb 98 cs:=by
  have h:=(HBW.out.ext hb2).set (j:=44) (v:=.slice none 0 0)
  rw [Ff HN.out.c44] at h
  exact h
 obtain ⟨w3,hw3⟩:∃z,w2.setCell ⟨nb,44,none⟩ (.slice none 0 0)=z:=⟨_,rfl⟩
 rw [hw3] at hm hbx
 rw [hw3]
 have HM3:Hid (Mut (λk=>k=nb∨W1.heap.size≤k) W1 w3):=hid (((Mut.of_below hb2).mono λk _ e=>.inr e).trans (hm.mono λk _ e=>.inl e))
 have HB3:=hid hbx
 clear hw3 hm hbx hb2 j44 fz
 refine hK.out _ _ (HS.out _ HB3.out) (λhHeld=>?_)
 clear hK K
 try simp only [lay]
 refine dn ?_
 have HMW3:Hid (Mut (λk=>k=nb∨w.heap.size≤k) w w3):=hid (HMK.out _ HM3.out)
 have CG:=hid (nGone0 HB3.out HN.out.toN1 HN.out.c45 (HV.out.m (HMW3.out.mono λk _ e=>e.imp (λe=>by rw [e];exact HNL.out) id)).now H1.out (HSE.out _ HMW3.out))
 clear HS CSO HBW
 go_wp2_with fail
 refine CG.out.mono ?_
 rintro e w4 ⟨ga,gc,rfl,hb4⟩
 have HB4:=hid (HB3.out.ext hb4)
 have HM4:Hid (Mut (λk=>k=nb∨W1.heap.size≤k) W1 w4):=hid (HM3.out.trans ((Mut.of_below hb4).mono λk _ e=>.inr (Nat.le_trans HM3.out.size e)))
 have HMW4:Hid (Mut (λk=>k=nb∨w.heap.size≤k) w w4):=hid (HMK.out _ HM4.out)
 have CFI:Hid (∀W,Below w4.heap.size w4 W→Calls Tryz.prog 199 #[.agg #[.int .u64 i,.slice A.am 1 A.cm,.slice A.al 1 A.cl,.slice A.ad 1 A.cd],.agg #[.int .i64 bd.least,.int .i64 bd.most,.int .i64 bd.tmo]] W λe w'=>e=.returned (.bool true)∧Below w4.heap.size w4 w'):=hid λW hb=>by
  have h:=EQ (b:=bd) (cm:=A.cm) (cl:=A.cl) (cd:=A.cd) (hid HFI.out) ((HV.out.m (HMW4.out.mono λk _ e=>e.imp (λe=>by rw [e];exact HNL.out) id)).now.ext hb) (by rw [H1.out.ls];simp)
  rw [H1.out.id,H1.out.ms,H1.out.ls,H1.out.ds] at h
  exact Calls.mono h λe w' ⟨h1,h2⟩=>⟨h1,hb.trans (h2.mono hb.size)⟩
 clear CG hb4 HB3 HM3 HMW3
 go_upto_region 3 with fail
 refine rhd HS3.out (HB4.out.ext (Below.refl _ _).drew) λhHeld=>?_
 refine tkv 0 (.slice ga 0 gc) rfl ?_
 refine tkP 1 (.int .i64 0) rfl ?_ ?_
 ·intro W hSw
  try dsimp only at hSw
  (go_simp;try rfl)
 try simp only [lay]
 refine tkP 2 (.bool false) rfl ?_ ?_
 ·intro W hSw
  try dsimp only at hSw
  (go_simp;try rfl)
 try simp only [lay]
 refine tkP 3 (.bool false) rfl ?_ ?_
 ·intro W hSw
  try dsimp only at hSw
  (go_simp;try rfl)
 try simp only [lay]
 refine tkv 4 (.pointer (some ⟨nb,0,none⟩)) rfl ?_
 refine tkv 5 (.pointer (some ⟨nb,0,none⟩)) rfl ?_
 refine tkv 6 (.pointer (some ⟨nb,44,none⟩)) rfl ?_
 refine tkv 7 (.slice none 0 0) rfl ?_
 refine tkP 8 (.int .i64 0) rfl ?_ ?_
 ·intro W hSw
  try dsimp only at hSw
  (go_simp;try rfl)
 try simp only [lay]
 refine tkP 9 (.bool false) rfl ?_ ?_
 ·intro W hSw
  try dsimp only at hSw
  (go_simp;try rfl)
 try simp only [lay]
 refine tkP 10 (.bool false) rfl ?_ ?_
 ·intro W hSw
  try dsimp only at hSw
  (go_simp;try rfl)
 try simp only [lay]
 refine tkP 11 (.bool false) rfl ?_ ?_
 ·intro W hSw
  try dsimp only at hSw
  (go_simp;try rfl)
 try simp only [lay]
 refine tkv 12 (.pointer (some ⟨nb,0,none⟩)) rfl ?_
 refine tkv 13 (.pointer (some ⟨nb,0,none⟩)) rfl ?_
 refine tkv 14 (.pointer (some ⟨nb,9,none⟩)) rfl ?_
 refine tkv 15 (.pointer (some ⟨nb,9,none⟩)) rfl ?_
 refine tkv 16 (.agg #[.int .u64 i,.slice A.am 1 A.cm,.slice A.al 1 A.cl,.slice A.ad 1 A.cd]) rfl ?_
 refine tkv 17 (.pointer (some ⟨nb,0,none⟩)) rfl ?_
 refine tkv 18 (.pointer (some ⟨nb,0,none⟩)) rfl ?_
 refine tkv 19 (.pointer (some ⟨nb,2,none⟩)) rfl ?_
 refine tkv 20 (.agg #[.int .i64 bd.least,.int .i64 bd.most,.int .i64 bd.tmo]) rfl ?_
 refine rd1 21 rfl λK hK=>?_
 go_simp
 refine (CFI.out _ (Below.refl _ _).drew).mono ?_
 rintro e w5 ⟨rfl,hb5⟩
 refine hK.out _ _ (HS3.out _ (HB4.out.ext hb5)) (λhHeld=>?_)
 clear hK K
 try simp only [lay]
 refine tkP 22 (.bool false) rfl ?_ ?_
 ·intro W hSw
  try dsimp only at hSw
  (go_simp;try rfl)
 try simp only [lay]
 refine tkP 23 (.bool false) rfl ?_ ?_
 ·intro W hSw
  try dsimp only at hSw
  (go_simp;try rfl)
 try simp only [lay]
 refine dn ?_
 have HB5:=hid (HB4.out.ext hb5)
 have HM5:Hid (Mut (λk=>k=nb∨W1.heap.size≤k) W1 w5):=hid (HM4.out.trans ((Mut.of_below hb5).mono λk _ e=>.inr (Nat.le_trans HM4.out.size e)))
 have CS:=hid (HCQ.out _ (HMK.out _ HM5.out) (by have:=HZ.out;have:=HM5.out.size;omega) HB5.out)
 clear hb5 HB4 HM4 HMW4 CFI HS3
 go_wp2_with fail
 refine CS.out.mono ?_
 rintro e w6 ⟨rfl,hb6⟩
 have hm6:Mut (λk=>k=nb∨W1.heap.size≤k) W1 w6:=HM5.out.trans ((Mut.of_below hb6).mono λk _ e=>.inr (Nat.le_trans HM5.out.size e))
 have hx6:=HX1.out.mut hm6 (λe=>by have:=HZ.out;rcases e with e | e <;> omega)
 have HX6:=hid hx6
 have HM6:=hid hm6
 have HB6:=hid (HB5.out.ext hb6)
 have fz:=hx6.frozen
 have e0:=hx6.cell (j:=0) rfl
 have e1:=hx6.cell (j:=1) rfl
 have e2:=hx6.cell (j:=2) rfl
 have e3:=hx6.cell (j:=3) rfl
 have e4:=hx6.cell (j:=4) rfl
 have e5:=hx6.cell (j:=5) rfl
 have e6:=hx6.cell (j:=6) rfl
 have e7:=hx6.cell (j:=7) rfl
 have e8:=hx6.cell (j:=8) rfl
 have e9:=hx6.cell (j:=9) rfl
 clear hx6 hm6 hb6 CS
 go_wp2_with fail
 have hxr:=YF (n0:=.int .i64 0) (n1:=.int .u16 0) (n2:=.int .u32 0) (n3:=.int .u64 0) (n4:=.int .u64 0) (n5:=.slice none 0 0) (n6:=.int .u64 0) (n7:=.slice none 0 0) (n8:=.slice none 0 0) (n9:=.slice none 0 0) HX6.out
 have hmr:=YG w6 w.heap.size (.int .i64 0) (.int .u16 0) (.int .u32 0) (.int .u64 0) (.int .u64 0) (.slice none 0 0) (.int .u64 0) (.slice none 0 0) (.slice none 0 0) (.slice none 0 0)
 have hmz:Mut (λk=>k=nb∨w.heap.size≤k) w _:=(HMK.out _ HM6.out).trans (hmr.mono λk _ e=>.inr (Nat.le_of_eq e.symm))
 have hbz:=HB6.out.mut hmr (λe=>by have:=HZ.out;omega)
 refine bodyPost_ret (v:=.agg #[.int .i64 0,.int .u16 0,.int .u32 0,.int .u64 0,.int .u64 0,.slice none 0 0,.int .u64 0,.slice none 0 0,.slice none 0 0,.slice none 0 0]) (VD (p:=4) rfl _ rfl hxr) rfl ?_
 exact ⟨rfl,hmz,hbz⟩
set_option maxRecDepth 100000 in
set_option maxHeartbeats 3200000 in
theorem nWants1 (hB:Zc w nb 98 cs) (hN:NP cs x y i A bd b) (h1:V1 V x y i) (hfit:EI bd V.ls=true) (hnl:own nb≠0) (hV:YD own (Zt · A.am A.al A.ad V) w) (hS:∀W,Mut (λk=>k=nb∨w.heap.size≤k) w W→ZP W b.vb vr [])
  (CQ:∀W,Mut (λk=>k=nb∨w.heap.size≤k) w W→w.heap.size<W.heap.size→Zc W nb 98 cs→Calls Tryz.prog 201 #[.pointer (some ⟨nb,0,none⟩)] W λe w'=>∃B:MA,e=.returned (.agg (Yd B (VH x y i)))∧CR w' (λk=>N k∨k=w.heap.size) B (VH x y i)∧Below W.heap.size W w') :
  Calls Tryz.prog 104 #[.pointer (some ⟨nb,0,none⟩),.bool tick] w λe w'=>∃B:MA,e=.returned (.agg (Yd B (VH x y i)))∧CR w' N B (VH x y i)∧Mut (λk=>k=nb∨w.heap.size≤k) w w'∧Zc w' nb 98 cs:=by
 obtain ⟨W1,hW1⟩:∃W1,w.alloc (.cells #[.int .i64 0,.int .u16 0,.int .u32 0,.int .u64 0,.int .u64 0,.slice none 0 0,.int .u64 0,.slice none 0 0,.slice none 0 0,.slice none 0 0] 126)=W1:=⟨_,rfl⟩
 have hb1:Below w.heap.size w W1:=by rw [←hW1];exact bra
 have xR:Zc W1 w.heap.size 126 [.int .i64 0,.int .u16 0,.int .u32 0,.int .u64 0,.int .u64 0,.slice none 0 0,.int .u64 0,.slice none 0 0,.slice none 0 0,.slice none 0 0]:=by rw [←hW1];exact Zc.made _ _ _
 have HMK:Hid (∀W,Mut (λk=>k=nb∨W1.heap.size≤k) W1 W→Mut (λk=>k=nb∨w.heap.size≤k) w W):=hid λW h=>((Mut.of_below hb1).mono λk _ e=>.inr e).trans (h.mono λk _ e=>e.imp id (Nat.le_trans hb1.size))
 have HBW:=hid (hB.ext hb1)
 have HZ:Hid (nb<w.heap.size∧w.heap.size<W1.heap.size):=hid ⟨hB.lt,xR.lt⟩
 have HX1:=hid xR
 have HB1:=hid hb1
 have HN:=hid hN
 have H1:=hid h1
 have HFI:=hid hfit
 have HNL:=hid hnl
 have HV:=hid hV
 have HSE:=hid hS
 have HCQ:=hid CQ
 have HS:Hid (∀W,Zc W nb 98 cs→W.cell? ⟨nb,44,none⟩=some (.slice none 0 0)∧W.cell? ⟨nb,25,none⟩=some (.int .u32 0)∧W.cell? ⟨nb,26,none⟩=some (.int .u32 0)∧W.cell? ⟨nb,27,none⟩=some (.int .u32 0)∧W.cell? ⟨nb,28,none⟩=some (.int .u32 0)∧W.cell? ⟨nb,29,none⟩=some (.int .u32 0)∧W.cell? ⟨nb,30,none⟩=some (.int .u32 0)∧W.cell? ⟨nb,31,none⟩=some (.int .u32 0)∧W.cell? ⟨nb,32,none⟩=some (.int .u32 0)∧W.cell? ⟨nb,33,none⟩=some (.int .u32 0)∧W.cell? ⟨nb,34,none⟩=some (.int .u32 0)∧W.cell? ⟨nb,35,none⟩=some (.int .u32 0)∧W.cell? ⟨nb,36,none⟩=some (.int .u32 0)∧W.cell? ⟨nb,37,none⟩=some (.int .u32 0)∧W.cell? ⟨nb,38,none⟩=some (.int .u32 0)∧W.cell? ⟨nb,39,none⟩=some (.int .u32 0)∧W.cell? ⟨nb,40,none⟩=some (.int .u32 0)):=hid λW h=>⟨h.cell HN.out.c44,h.cell (HN.out.ru 0 (by decide)),h.cell (HN.out.ru 1 (by decide)),h.cell (HN.out.ru 2 (by decide)),h.cell (HN.out.ru 3 (by decide)),h.cell (HN.out.ru 4 (by decide)),h.cell (HN.out.ru 5 (by decide)),h.cell (HN.out.ru 6 (by decide)),h.cell (HN.out.ru 7 (by decide)),h.cell (HN.out.ru 8 (by decide)),h.cell (HN.out.ru 9 (by decide)),h.cell (HN.out.ru 10 (by decide)),h.cell (HN.out.ru 11 (by decide)),h.cell (HN.out.ru 12 (by decide)),h.cell (HN.out.ru 13 (by decide)),h.cell (HN.out.ru 14 (by decide)),h.cell (HN.out.ru 15 (by decide))⟩
 have HS3:Hid (∀W,Zc W nb 98 cs→W.cell? ⟨nb,44,none⟩=some (.slice none 0 0)∧W.cell? ⟨nb,9,none⟩=some (.int .u64 i)∧W.cell? ⟨nb,10,none⟩=some (.slice A.am 1 A.cm)∧W.cell? ⟨nb,11,none⟩=some (.slice A.al 1 A.cl)∧W.cell? ⟨nb,12,none⟩=some (.slice A.ad 1 A.cd)∧W.cell? ⟨nb,2,none⟩=some (.int .i64 bd.least)∧W.cell? ⟨nb,3,none⟩=some (.int .i64 bd.most)∧W.cell? ⟨nb,4,none⟩=some (.int .i64 bd.tmo)):=hid λW h=>⟨h.cell HN.out.c44,h.cell HN.out.c9,h.cell HN.out.c10,h.cell HN.out.c11,h.cell HN.out.c12,h.cell HN.out.c2,h.cell HN.out.c3,h.cell HN.out.c4⟩
 have CSO:Hid (∀W,Below W1.heap.size W1 W→Calls Tryz.prog 197 #[.agg #[.int .u32 0,.int .u32 0,.int .u32 0,.int .u32 0,.int .u32 0,.int .u32 0,.int .u32 0,.int .u32 0,.int .u32 0,.int .u32 0,.int .u32 0,.int .u32 0,.int .u32 0,.int .u32 0,.int .u32 0,.int .u32 0],.slice none 0 0] W λe w'=>e=.returned (.slice none 0 0)∧Below W1.heap.size W1 w'):=hid λW hb=>(zaz W).mono λe w' ⟨h1,h2⟩=>⟨h1,hb.trans (h2.mono hb.size)⟩
 clear hB hN h1 hfit hnl hV hS CQ hb1 xR
 go_enter Tryz.func104,Tryz.ntmps104
 go_upto_region 1 with fail
 try rw [hW1]
 clear hW1
 refine rhd HS.out (HBW.out.ext (Below.refl _ _).drew) λhHeld=>?_
 refine tkv 0 (.pointer (some ⟨nb,0,none⟩)) rfl ?_
 refine tkv 1 (.pointer (some ⟨nb,0,none⟩)) rfl ?_
 refine tkv 2 (.pointer (some ⟨nb,0,none⟩)) rfl ?_
 refine tkv 3 (.pointer (some ⟨nb,25,none⟩)) rfl ?_
 refine tkv 4 (.agg #[.int .u32 0,.int .u32 0,.int .u32 0,.int .u32 0,.int .u32 0,.int .u32 0,.int .u32 0,.int .u32 0,.int .u32 0,.int .u32 0,.int .u32 0,.int .u32 0,.int .u32 0,.int .u32 0,.int .u32 0,.int .u32 0]) rfl ?_
 refine tkv 5 (.pointer (some ⟨nb,0,none⟩)) rfl ?_
 refine tkv 6 (.pointer (some ⟨nb,0,none⟩)) rfl ?_
 refine tkv 7 (.pointer (some ⟨nb,44,none⟩)) rfl ?_
 refine tkv 8 (.slice none 0 0) rfl ?_
 refine rd1 9 rfl λK hK=>?_
 go_simp
 refine (CSO.out _ (Below.refl _ _).drew).mono ?_
 rintro e w2 ⟨rfl,hb2⟩
 refine hK.out _ _ (HS.out _ (HBW.out.ext hb2)) (λhHeld=>?_)
 clear hK K
 try simp only [lay]
 refine tkv 10 (.pointer (some ⟨nb,0,none⟩)) rfl ?_
 refine tkv 11 (.pointer (some ⟨nb,44,none⟩)) rfl ?_
 have j44:=(HBW.out.ext hb2).cell HN.out.c44
 have fz:=(HBW.out.ext hb2).frozen
 refine rd1 12 rfl λK hK=>?_
 go_simp
 have hm:Mut (λk=>k=nb) w2 (w2.setCell ⟨nb,44,none⟩ (.slice none 0 0)):=Zf (G:=λk=>k=nb) (Mut.refl _ _) _ _ _ rfl
 have hbx:Zc (w2.setCell ⟨nb,44,none⟩ (.slice none 0 0)) nb 98 cs:=by
  have h:=(HBW.out.ext hb2).set (j:=44) (v:=.slice none 0 0)
  rw [Ff HN.out.c44] at h
  exact h
 obtain ⟨w3,hw3⟩:∃z,w2.setCell ⟨nb,44,none⟩ (.slice none 0 0)=z:=⟨_,rfl⟩
 rw [hw3] at hm hbx
 rw [hw3]
 have HM3:Hid (Mut (λk=>k=nb∨W1.heap.size≤k) W1 w3):=hid (((Mut.of_below hb2).mono λk _ e=>.inr e).trans (hm.mono λk _ e=>.inl e))
 have HB3:=hid hbx
 clear hw3 hm hbx hb2 j44 fz
 refine hK.out _ _ (HS.out _ HB3.out) (λhHeld=>?_)
 clear hK K
 try simp only [lay]
 refine dn ?_
 have HMW3:Hid (Mut (λk=>k=nb∨w.heap.size≤k) w w3):=hid (HMK.out _ HM3.out)
 have CG:=hid (nGone0 HB3.out HN.out.toN1 HN.out.c45 (HV.out.m (HMW3.out.mono λk _ e=>e.imp (λe=>by rw [e];exact HNL.out) id)).now H1.out (HSE.out _ HMW3.out))
 clear HS CSO HBW
 go_wp2_with fail
 refine CG.out.mono ?_
 rintro e w4 ⟨ga,gc,rfl,hb4⟩
 have HB4:=hid (HB3.out.ext hb4)
 have HM4:Hid (Mut (λk=>k=nb∨W1.heap.size≤k) W1 w4):=hid (HM3.out.trans ((Mut.of_below hb4).mono λk _ e=>.inr (Nat.le_trans HM3.out.size e)))
 have HMW4:Hid (Mut (λk=>k=nb∨w.heap.size≤k) w w4):=hid (HMK.out _ HM4.out)
 have CFI:Hid (∀W,Below w4.heap.size w4 W→Calls Tryz.prog 199 #[.agg #[.int .u64 i,.slice A.am 1 A.cm,.slice A.al 1 A.cl,.slice A.ad 1 A.cd],.agg #[.int .i64 bd.least,.int .i64 bd.most,.int .i64 bd.tmo]] W λe w'=>e=.returned (.bool true)∧Below w4.heap.size w4 w'):=hid λW hb=>by
  have h:=EQ (b:=bd) (cm:=A.cm) (cl:=A.cl) (cd:=A.cd) (hid HFI.out) ((HV.out.m (HMW4.out.mono λk _ e=>e.imp (λe=>by rw [e];exact HNL.out) id)).now.ext hb) (by rw [H1.out.ls];simp)
  rw [H1.out.id,H1.out.ms,H1.out.ls,H1.out.ds] at h
  exact Calls.mono h λe w' ⟨h1,h2⟩=>⟨h1,hb.trans (h2.mono hb.size)⟩
 clear CG hb4 HB3 HM3 HMW3
 go_upto_region 3 with fail
 refine rhd HS3.out (HB4.out.ext (Below.refl _ _).drew) λhHeld=>?_
 refine tkv 0 (.slice ga 0 gc) rfl ?_
 refine tkP 1 (.int .i64 0) rfl ?_ ?_
 ·intro W hSw
  try dsimp only at hSw
  (go_simp;try rfl)
 try simp only [lay]
 refine tkP 2 (.bool false) rfl ?_ ?_
 ·intro W hSw
  try dsimp only at hSw
  (go_simp;try rfl)
 try simp only [lay]
 refine tkP 3 (.bool false) rfl ?_ ?_
 ·intro W hSw
  try dsimp only at hSw
  (go_simp;try rfl)
 try simp only [lay]
 refine tkv 4 (.pointer (some ⟨nb,0,none⟩)) rfl ?_
 refine tkv 5 (.pointer (some ⟨nb,0,none⟩)) rfl ?_
 refine tkv 6 (.pointer (some ⟨nb,44,none⟩)) rfl ?_
 refine tkv 7 (.slice none 0 0) rfl ?_
 refine tkP 8 (.int .i64 0) rfl ?_ ?_
 ·intro W hSw
  try dsimp only at hSw
  (go_simp;try rfl)
 try simp only [lay]
 refine tkP 9 (.bool false) rfl ?_ ?_
 ·intro W hSw
  try dsimp only at hSw
  (go_simp;try rfl)
 try simp only [lay]
 refine tkP 10 (.bool false) rfl ?_ ?_
 ·intro W hSw
  try dsimp only at hSw
  (go_simp;try rfl)
 try simp only [lay]
 refine tkP 11 (.bool false) rfl ?_ ?_
 ·intro W hSw
  try dsimp only at hSw
  (go_simp;try rfl)
 try simp only [lay]
 refine tkv 12 (.pointer (some ⟨nb,0,none⟩)) rfl ?_
 refine tkv 13 (.pointer (some ⟨nb,0,none⟩)) rfl ?_
 refine tkv 14 (.pointer (some ⟨nb,9,none⟩)) rfl ?_
 refine tkv 15 (.pointer (some ⟨nb,9,none⟩)) rfl ?_
 refine tkv 16 (.agg #[.int .u64 i,.slice A.am 1 A.cm,.slice A.al 1 A.cl,.slice A.ad 1 A.cd]) rfl ?_
 refine tkv 17 (.pointer (some ⟨nb,0,none⟩)) rfl ?_
 refine tkv 18 (.pointer (some ⟨nb,0,none⟩)) rfl ?_
 refine tkv 19 (.pointer (some ⟨nb,2,none⟩)) rfl ?_
 refine tkv 20 (.agg #[.int .i64 bd.least,.int .i64 bd.most,.int .i64 bd.tmo]) rfl ?_
 refine rd1 21 rfl λK hK=>?_
 go_simp
 refine (CFI.out _ (Below.refl _ _).drew).mono ?_
 rintro e w5 ⟨rfl,hb5⟩
 refine hK.out _ _ (HS3.out _ (HB4.out.ext hb5)) (λhHeld=>?_)
 clear hK K
 try simp only [lay]
 refine tkP 22 (.bool false) rfl ?_ ?_
 ·intro W hSw
  try dsimp only at hSw
  (go_simp;try rfl)
 try simp only [lay]
 refine tkP 23 (.bool false) rfl ?_ ?_
 ·intro W hSw
  try dsimp only at hSw
  (go_simp;try rfl)
 try simp only [lay]
 refine dn ?_
 have HB5:=hid (HB4.out.ext hb5)
 have HM5:Hid (Mut (λk=>k=nb∨W1.heap.size≤k) W1 w5):=hid (HM4.out.trans ((Mut.of_below hb5).mono λk _ e=>.inr (Nat.le_trans HM4.out.size e)))
 have CS:=hid (HCQ.out _ (HMK.out _ HM5.out) (by have:=HZ.out;have:=HM5.out.size;omega) HB5.out)
 clear hb5 HB4 HM4 HMW4 CFI HS3
 go_wp2_with fail
 refine CS.out.mono ?_
 rintro e w6 ⟨B,rfl,hcr,hb6⟩
 have HCR:=hid hcr
 clear hcr
 rw [Ku]
 have hm6:Mut (λk=>k=nb∨W1.heap.size≤k) W1 w6:=HM5.out.trans ((Mut.of_below hb6).mono λk _ e=>.inr (Nat.le_trans HM5.out.size e))
 have hx6:=HX1.out.mut hm6 (λe=>by have:=HZ.out;rcases e with e | e <;> omega)
 have HX6:=hid hx6
 have HM6:=hid hm6
 have HB6:=hid (HB5.out.ext hb6)
 have fz:=hx6.frozen
 have e0:=hx6.cell (j:=0) rfl
 have e1:=hx6.cell (j:=1) rfl
 have e2:=hx6.cell (j:=2) rfl
 have e3:=hx6.cell (j:=3) rfl
 have e4:=hx6.cell (j:=4) rfl
 have e5:=hx6.cell (j:=5) rfl
 have e6:=hx6.cell (j:=6) rfl
 have e7:=hx6.cell (j:=7) rfl
 have e8:=hx6.cell (j:=8) rfl
 have e9:=hx6.cell (j:=9) rfl
 clear hx6 hm6 hb6 CS
 go_wp2_with fail
 have hxr:=YF (n0:=.int .i64 2) (n1:=.int .u16 x) (n2:=.int .u32 y) (n3:=.int .u64 1) (n4:=.int .u64 i) (n5:=.slice B.da 1 B.dc) (n6:=.int .u64 0) (n7:=.slice B.am 0 B.cm) (n8:=.slice B.al 0 B.cl) (n9:=.slice B.ad 0 B.cd) HX6.out
 have hmr:=YG w6 w.heap.size (.int .i64 2) (.int .u16 x) (.int .u32 y) (.int .u64 1) (.int .u64 i) (.slice B.da 1 B.dc) (.int .u64 0) (.slice B.am 0 B.cm) (.slice B.al 0 B.cl) (.slice B.ad 0 B.cd)
 have hmz:Mut (λk=>k=nb∨w.heap.size≤k) w _:=(HMK.out _ HM6.out).trans (hmr.mono λk _ e=>.inr (Nat.le_of_eq e.symm))
 have hbz:=HB6.out.mut hmr (λe=>by have:=HZ.out;omega)
 refine bodyPost_ret (v:=.agg #[.int .i64 2,.int .u16 x,.int .u32 y,.int .u64 1,.int .u64 i,.slice B.da 1 B.dc,.int .u64 0,.slice B.am 0 B.cm,.slice B.al 0 B.cl,.slice B.ad 0 B.cd]) (VD (p:=4) rfl _ rfl hxr) rfl ?_
 exact ⟨B,rfl,(HCR.out.mut hmr (λk e=>.inl (.inr e))).more (λk e=>.inl (.inl e)),hmz,hbz⟩
end
end Go.Proofs.YtcdpaflmofljaaaGreat
