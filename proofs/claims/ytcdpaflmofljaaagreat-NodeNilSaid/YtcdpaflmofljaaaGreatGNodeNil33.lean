import Derived.Test.YtcdpaflmofljaaaGreatGNodeNil32
/- Parts of the proof of NodeNil: MP4. -/
namespace Go.Proofs.YtcdpaflmofljaaaGreat
open Go.RowKit
section
variable {w:World} {nb i ta tl:Nat} {cs:List Value} {x y st:Int} {A At:VAd} {V:Zs} {bd:Bnd} {b:PB} {R:World→Prop} {k:Value}
set_option maxRecDepth 100000 in
set_option maxHeartbeats 6400000 in
theorem QT (hB:Zc w nb 98 cs) (hN:NP cs x y i A bd b) (c41:cs[41]?=some (.int .u64 st)) (hst:max st 1=1) (hV:Zt w A.am A.al A.ad V) (h1:V1 V x y i) (hf:Gb V) (hL:Zc w b.lb 149 [.int .u64 1,k]) (hT:Zc w b.tb 277 [.int .u64 i,.slice At.am 1 At.cm,.slice At.al 1 At.cl,.slice At.ad 1 At.cd,.map (some ta),.map (some tl)]) (hls:Zp w At.al [[(x,y)]]) (hta:Zj w ta Yg n64 [((x,y),1)]) (htl:Zj w tl kiI n64 ([]:List (Int × Nat))) (hnl:nb≠b.lb)
  (CU:∀W,Mut (λk=>k=nb∨w.heap.size≤k) w W→Calls Tryz.prog 94 #[.pointer (some ⟨b.lb,0,none⟩),.int .u64 1] W λe w'=>(∃v,e=.returned v)∧Mut (λk=>k=b.lb∨W.heap.size≤k) W w'∧R w') :
  Calls Tryz.prog 47 #[.pointer (some ⟨nb,0,none⟩)] w λe w'=>e=.returned (.tuple #[])∧Mut (λk=>k=nb∨k=b.lb∨w.heap.size≤k) w w'∧Zc w' nb 98 (cs.set 41 (.int .u64 1))∧R w':=by
 have CC:=hid (EV hB hN.toN1 hV h1 hf)
 have HB:=hid hB
 have HN:=hid hN
 have HC41:=hid c41
 have HST:=hid hst
 have HL:=hid hL
 have HTA:Hid (∀W,Below w.heap.size w W→Calls Tryz.prog 93 #[.pointer (some ⟨b.tb,0,none⟩)] W λe w'=>e=.returned (.int .u64 1)∧Below W.heap.size W w'):=hid λW hb=>tAll0 (hT.ext hb) (hls.ext hb) (hta.ext hb) (htl.ext hb)
 have HNE:Hid (nb≠b.lb∧nb<w.heap.size∧b.lb<w.heap.size):=hid ⟨hnl,hB.lt,hL.lt⟩
 have HCU:=hid CU
 clear hB hN c41 hst hV h1 hf hL hT hls hta htl hnl CU
 go_enter Tryz.func47,Tryz.ntmps47
 go_wp2_with fail
 refine CC.out.mono ?_
 rintro e w2 ⟨rfl,hb2⟩
 have HW2:=hid hb2
 have HB2:=hid (HB.out.ext hb2)
 clear hb2 CC
 have HS1:Hid (∀W,Below w2.heap.size w2 W→W.cell? ⟨nb,18,none⟩=some (.pointer (some ⟨b.tb,0,none⟩))∧W.cell? ⟨nb,20,none⟩=some (.pointer (some ⟨b.lb,0,none⟩))):=hid λW hb=>⟨(HB2.out.ext hb).cell HN.out.c18,(HB2.out.ext hb).cell HN.out.c20⟩
 have HS5:Hid (∀W,Zc W nb 98 (cs.set 41 (.int .u64 1))→W.cell? ⟨nb,18,none⟩=some (.pointer (some ⟨b.tb,0,none⟩))∧W.cell? ⟨nb,20,none⟩=some (.pointer (some ⟨b.lb,0,none⟩))):=hid λW h=>⟨h.cell (HN.out.put 41 _ (.inr (.inl rfl))).c18,h.cell (HN.out.put 41 _ (.inr (.inl rfl))).c20⟩
 have CAL:Hid (∀W,Below w2.heap.size w2 W→Calls Tryz.prog 93 #[.pointer (some ⟨b.tb,0,none⟩)] W λe w'=>e=.returned (.int .u64 1)∧Below w2.heap.size w2 w'):=hid λW hb=>(HTA.out W (HW2.out.trans (hb.mono HW2.out.size))).mono λe w' ⟨h1,h2⟩=>⟨h1,hb.trans (h2.mono hb.size)⟩
 have CAP:Hid (∀W,Below w2.heap.size w2 W→Calls Tryz.prog 33 #[.pointer (some ⟨b.lb,0,none⟩)] W λe w'=>e=.returned (.int .u64 1)∧Below w2.heap.size w2 w'):=hid λW hb=>(XT (HL.out.ext (HW2.out.trans (hb.mono HW2.out.size)))).mono λe w' ⟨h1,h2⟩=>⟨h1,by rw [h2];exact hb⟩
 go_upto_region 1 with fail
 go_cut [] (λw5=>Hid (Mut (λk=>k=nb∨w.heap.size≤k) w w5)∧Hid (Zc w5 nb 98 (cs.set 41 (.int .u64 1))))
 case first =>
  refine rhd HS1.out ((Below.refl _ _).drew) λhHeld=>?_
  refine tkv 0 (.pointer (some ⟨nb,0,none⟩)) rfl ?_
  refine tkv 1 (.pointer (some ⟨nb,0,none⟩)) rfl ?_
  refine tkv 2 (.pointer (some ⟨nb,0,none⟩)) rfl ?_
  refine tkv 3 (.pointer (some ⟨nb,41,none⟩)) rfl ?_
  refine tkv 5 (.pointer (some ⟨nb,0,none⟩)) rfl ?_
  refine tkv 6 (.pointer (some ⟨nb,0,none⟩)) rfl ?_
  refine tkv 7 (.pointer (some ⟨nb,9,none⟩)) rfl ?_
  refine tkv 8 (.pointer (some ⟨nb,18,none⟩)) rfl ?_
  refine tkv 9 (.pointer (some ⟨b.tb,0,none⟩)) rfl ?_
  refine tkv 11 (.pointer (some ⟨nb,0,none⟩)) rfl ?_
  refine tkv 12 (.pointer (some ⟨nb,0,none⟩)) rfl ?_
  refine tkv 13 (.pointer (some ⟨nb,20,none⟩)) rfl ?_
  refine tkv 14 (.pointer (some ⟨b.lb,0,none⟩)) rfl ?_
  refine rd (rs:=[4,10]) ?_
  refine AllReadyH.cons (o:=_) rfl (λK hK=>?_) (AllReadyH.cons (o:=_) rfl (λK hK=>?_) AllReadyH.nil)
  ·have q41:=(HB2.out.ext (Below.refl _ _).drew).cell HC41.out
   go_simp
   clear q41
   refine hK.out _ _ (HS1.out _ (Below.refl _ _).drew) (λhHeld=>?_)
   clear hK K
   try simp only [lay]
   refine rd1 10 rfl λK hK=>?_
   go_simp
   refine (CAL.out _ (Below.refl _ _).drew).mono ?_
   rintro e w3 ⟨rfl,hw3⟩
   refine hK.out _ _ (HS1.out _ hw3) (λhHeld=>?_)
   clear hK K
   try simp only [lay]
   refine rd1 15 rfl λK hK=>?_
   go_simp
   refine (CAP.out _ hw3).mono ?_
   rintro e w4 ⟨rfl,hw4⟩
   refine hK.out _ _ (HS1.out _ hw4) (λhHeld=>?_)
   clear hK K
   try simp only [lay]
   refine tkP 16 (.int .u64 1) rfl ?_ ?_
   ·intro W hSw
    try dsimp only at hSw
    (go_simp;try rfl)
   try simp only [lay]
   refine tkP 17 (.int .u64 1) rfl ?_ ?_
   ·intro W hSw
    try dsimp only at hSw
    (go_simp;first | exact HST.out | (rw [HST.out]) | simp [HST.out])
   try simp only [lay]
   refine tkv 18 (.pointer (some ⟨nb,0,none⟩)) rfl ?_
   refine tkv 19 (.pointer (some ⟨nb,41,none⟩)) rfl ?_
   have hb4:=hw4
   have fz:=(HB2.out.ext hb4).frozen
   have q41:=(HB2.out.ext hb4).cell HC41.out
   refine rd1 20 rfl λK hK=>?_
   go_simp
   have hbx:Zc (w4.setCell ⟨nb,41,none⟩ (.int .u64 1)) nb 98 (cs.set 41 (.int .u64 1)):=(HB2.out.ext hb4).set (j:=41) (v:=.int .u64 1)
   have hm:Mut (λk=>k=nb) w4 (w4.setCell ⟨nb,41,none⟩ (.int .u64 1)):=Zf (G:=λk=>k=nb) (Mut.refl _ _) _ _ _ rfl
   obtain ⟨w5,hw5⟩:∃z,w4.setCell ⟨nb,41,none⟩ (.int .u64 1)=z:=⟨_,rfl⟩
   rw [hw5] at hm hbx
   try rw [hw5]
   have HM5:Hid (Mut (λk=>k=nb∨w.heap.size≤k) w w5):=hid (((Mut.of_below (HW2.out.trans (hb4.mono HW2.out.size))).mono λk _ e=>.inr e).trans (hm.mono λk _ e=>.inl e))
   have HB5:=hid hbx
   clear hw5 hm hbx fz q41 hb4
   refine hK.out _ _ (HS5.out _ HB5.out) (λhHeld=>?_)
   clear hK K
   try simp only [lay]
   refine dn ?_
   go_wp2_with fail
   go_meet
   exact ⟨HM5,HB5⟩
  ·go_simp
   refine (CAL.out _ (Below.refl _ _).drew).mono ?_
   rintro e w3 ⟨rfl,hw3⟩
   refine hK.out _ _ (HS1.out _ hw3) (λhHeld=>?_)
   clear hK K
   try simp only [lay]
   refine rd (rs:=[4,15]) ?_
   refine AllReadyH.cons (o:=_) rfl (λK hK=>?_) (AllReadyH.cons (o:=_) rfl (λK hK=>?_) AllReadyH.nil)
   ·have q41:=(HB2.out.ext hw3).cell HC41.out
    go_simp
    clear q41
    refine hK.out _ _ (HS1.out _ hw3) (λhHeld=>?_)
    clear hK K
    try simp only [lay]
    refine rd1 15 rfl λK hK=>?_
    go_simp
    refine (CAP.out _ hw3).mono ?_
    rintro e w4 ⟨rfl,hw4⟩
    refine hK.out _ _ (HS1.out _ hw4) (λhHeld=>?_)
    clear hK K
    try simp only [lay]
    refine tkP 16 (.int .u64 1) rfl ?_ ?_
    ·intro W hSw
     try dsimp only at hSw
     (go_simp;try rfl)
    try simp only [lay]
    refine tkP 17 (.int .u64 1) rfl ?_ ?_
    ·intro W hSw
     try dsimp only at hSw
     (go_simp;first | exact HST.out | (rw [HST.out]) | simp [HST.out])
    try simp only [lay]
    refine tkv 18 (.pointer (some ⟨nb,0,none⟩)) rfl ?_
    refine tkv 19 (.pointer (some ⟨nb,41,none⟩)) rfl ?_
    have hb4:=hw4
    have fz:=(HB2.out.ext hb4).frozen
    have q41:=(HB2.out.ext hb4).cell HC41.out
    refine rd1 20 rfl λK hK=>?_
    go_simp
    have hbx:Zc (w4.setCell ⟨nb,41,none⟩ (.int .u64 1)) nb 98 (cs.set 41 (.int .u64 1)):=(HB2.out.ext hb4).set (j:=41) (v:=.int .u64 1)
    have hm:Mut (λk=>k=nb) w4 (w4.setCell ⟨nb,41,none⟩ (.int .u64 1)):=Zf (G:=λk=>k=nb) (Mut.refl _ _) _ _ _ rfl
    obtain ⟨w5,hw5⟩:∃z,w4.setCell ⟨nb,41,none⟩ (.int .u64 1)=z:=⟨_,rfl⟩
    rw [hw5] at hm hbx
    try rw [hw5]
    have HM5:Hid (Mut (λk=>k=nb∨w.heap.size≤k) w w5):=hid (((Mut.of_below (HW2.out.trans (hb4.mono HW2.out.size))).mono λk _ e=>.inr e).trans (hm.mono λk _ e=>.inl e))
    have HB5:=hid hbx
    clear hw5 hm hbx fz q41 hb4
    refine hK.out _ _ (HS5.out _ HB5.out) (λhHeld=>?_)
    clear hK K
    try simp only [lay]
    refine dn ?_
    go_wp2_with fail
    go_meet
    exact ⟨HM5,HB5⟩
   ·go_simp
    refine (CAP.out _ hw3).mono ?_
    rintro e w4 ⟨rfl,hw4⟩
    refine hK.out _ _ (HS1.out _ hw4) (λhHeld=>?_)
    clear hK K
    try simp only [lay]
    refine tkP 16 (.int .u64 1) rfl ?_ ?_
    ·intro W hSw
     try dsimp only at hSw
     (go_simp;try rfl)
    try simp only [lay]
    refine rd1 4 rfl λK hK=>?_
    have q41:=(HB2.out.ext hw4).cell HC41.out
    go_simp
    clear q41
    refine hK.out _ _ (HS1.out _ hw4) (λhHeld=>?_)
    clear hK K
    try simp only [lay]
    refine tkP 17 (.int .u64 1) rfl ?_ ?_
    ·intro W hSw
     try dsimp only at hSw
     (go_simp;first | exact HST.out | (rw [HST.out]) | simp [HST.out])
    try simp only [lay]
    refine tkv 18 (.pointer (some ⟨nb,0,none⟩)) rfl ?_
    refine tkv 19 (.pointer (some ⟨nb,41,none⟩)) rfl ?_
    have hb4:=hw4
    have fz:=(HB2.out.ext hb4).frozen
    have q41:=(HB2.out.ext hb4).cell HC41.out
    refine rd1 20 rfl λK hK=>?_
    go_simp
    have hbx:Zc (w4.setCell ⟨nb,41,none⟩ (.int .u64 1)) nb 98 (cs.set 41 (.int .u64 1)):=(HB2.out.ext hb4).set (j:=41) (v:=.int .u64 1)
    have hm:Mut (λk=>k=nb) w4 (w4.setCell ⟨nb,41,none⟩ (.int .u64 1)):=Zf (G:=λk=>k=nb) (Mut.refl _ _) _ _ _ rfl
    obtain ⟨w5,hw5⟩:∃z,w4.setCell ⟨nb,41,none⟩ (.int .u64 1)=z:=⟨_,rfl⟩
    rw [hw5] at hm hbx
    try rw [hw5]
    have HM5:Hid (Mut (λk=>k=nb∨w.heap.size≤k) w w5):=hid (((Mut.of_below (HW2.out.trans (hb4.mono HW2.out.size))).mono λk _ e=>.inr e).trans (hm.mono λk _ e=>.inl e))
    have HB5:=hid hbx
    clear hw5 hm hbx fz q41 hb4
    refine hK.out _ _ (HS5.out _ HB5.out) (λhHeld=>?_)
    clear hK K
    try simp only [lay]
    refine dn ?_
    go_wp2_with fail
    go_meet
    exact ⟨HM5,HB5⟩
 case rest =>
  obtain ⟨HM5,HB5⟩:=hcut
  rename World=>w5
  have HN5:=hid (HN.out.put 41 (.int .u64 1) (.inr (.inl rfl)))
  have hl5:=HL.out.mut HM5.out (λe=>by have:=HNE.out;rcases e with e | e <;> omega)
  have h41:(cs.set 41 (.int .u64 1))[41]?=some (.int .u64 1):=List.getElem?_set_self (List.getElem?_eq_some_iff.1 HC41.out).1
  have HS6:Hid (∀W,Below w5.heap.size w5 W→W.cell? ⟨nb,41,none⟩=some (.int .u64 1)∧W.cell? ⟨nb,20,none⟩=some (.pointer (some ⟨b.lb,0,none⟩))):=hid λW hb=>⟨(HB5.out.ext hb).cell h41,(HB5.out.ext hb).cell HN5.out.c20⟩
  have HSF:Hid (∀W,Mut (λk=>k=b.lb∨w5.heap.size≤k) w5 W→W.cell? ⟨nb,41,none⟩=some (.int .u64 1)∧W.cell? ⟨nb,20,none⟩=some (.pointer (some ⟨b.lb,0,none⟩))):=hid λW hm=>by
   have h:=HB5.out.mut hm (λe=>by have:=HNE.out;have:=HB5.out.lt;rcases e with e | e <;> omega)
   exact ⟨h.cell h41,h.cell HN5.out.c20⟩
  have CA5:Hid (∀W,Below w5.heap.size w5 W→Calls Tryz.prog 33 #[.pointer (some ⟨b.lb,0,none⟩)] W λe w'=>e=.returned (.int .u64 1)∧Below w5.heap.size w5 w'):=hid λW hb=>(XT (hl5.ext hb)).mono λe w' ⟨h1,h2⟩=>⟨h1,by rw [h2];exact hb⟩
  have CCU:Hid (∀W,Below w5.heap.size w5 W→Calls Tryz.prog 94 #[.pointer (some ⟨b.lb,0,none⟩),.int .u64 1] W λe w'=>(∃v,e=.returned v)∧Mut (λk=>k=b.lb∨w5.heap.size≤k) w5 w'∧R w'):=hid λW hb=>(HCU.out W (HM5.out.trans ((Mut.of_below hb).mono λk _ e=>.inr (Nat.le_trans HM5.out.size e)))).mono λe w' ⟨h1,h2,h3⟩=>⟨h1,((Mut.of_below hb).mono λk _ e=>.inr e).trans (h2.mono λk _ e=>e.imp id (Nat.le_trans hb.size)),h3⟩
  clear hl5 CAL CAP HS1 HS5
  go_upto_region 2 with fail
  refine rhd HS6.out ((Below.refl _ _).drew) λhHeld=>?_
  refine tkv 0 (.pointer (some ⟨nb,0,none⟩)) rfl ?_
  refine tkv 1 (.pointer (some ⟨nb,0,none⟩)) rfl ?_
  refine tkv 2 (.pointer (some ⟨nb,20,none⟩)) rfl ?_
  refine tkv 3 (.pointer (some ⟨b.lb,0,none⟩)) rfl ?_
  refine tkv 4 (.pointer (some ⟨nb,0,none⟩)) rfl ?_
  refine tkv 5 (.pointer (some ⟨nb,0,none⟩)) rfl ?_
  refine tkv 6 (.pointer (some ⟨nb,41,none⟩)) rfl ?_
  refine tkv 7 (.int .u64 1) rfl ?_
  refine tkv 8 (.pointer (some ⟨nb,0,none⟩)) rfl ?_
  refine tkv 9 (.pointer (some ⟨nb,0,none⟩)) rfl ?_
  refine tkv 10 (.pointer (some ⟨nb,20,none⟩)) rfl ?_
  refine tkv 11 (.pointer (some ⟨b.lb,0,none⟩)) rfl ?_
  refine rd1 12 rfl λK hK=>?_
  go_simp
  refine (CA5.out _ (Below.refl _ _).drew).mono ?_
  rintro e w6 ⟨rfl,hb6⟩
  refine hK.out _ _ (HS6.out _ hb6) (λhHeld=>?_)
  clear hK K
  try simp only [lay]
  refine tkP 13 (.int .u64 1) rfl ?_ ?_
  ·intro W hSw
   try dsimp only at hSw
   (go_simp;try rfl)
  try simp only [lay]
  refine rd1 14 rfl λK hK=>?_
  go_simp
  refine (CCU.out _ hb6).mono ?_
  rintro e w7 ⟨⟨cv,rfl⟩,hm7,hp7⟩
  have HM7:=hid hm7
  have HP7:=hid hp7
  clear hm7 hp7
  refine hK.out _ _ (HSF.out _ HM7.out) (λhHeld=>?_)
  clear hK K
  try simp only [lay]
  refine dn ?_
  have HB7:=hid (HB5.out.mut HM7.out (λe=>by have:=HNE.out;have:=HB5.out.lt;rcases e with e | e <;> omega))
  go_wp2_with fail
  exact bodyPost_end (results_none rfl _ _ _) rfl ⟨rfl,(HM5.out.mono λk _ e=>e.imp id .inr).trans (HM7.out.mono λk _ e=>.inr (e.imp id (Nat.le_trans HM5.out.size))),HB7.out,HP7.out⟩
end
end Go.Proofs.YtcdpaflmofljaaaGreat
