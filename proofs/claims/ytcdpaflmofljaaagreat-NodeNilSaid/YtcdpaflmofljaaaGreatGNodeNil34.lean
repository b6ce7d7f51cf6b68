import Derived.Test.YtcdpaflmofljaaaGreatGNodeNil33
/- Parts of the proof of NodeNil: MP5. -/
namespace Go.Proofs.YtcdpaflmofljaaaGreat
open Go.RowKit
section
variable {w:World} {nb i ta tl:Nat} {cs:List Value} {x y:Int} {A At:VAd} {V:Zs} {bd:Bnd} {b:PB} {k:Value}
set_option maxRecDepth 100000 in
set_option maxHeartbeats 12800000 in
theorem Ee (hB:Zc w nb 98 cs) (hN:NP cs x y i A bd b) (c41:cs[41]?=some (.int .u64 1)) (hV:Zt w A.am A.al A.ad V) (h1:V1 V x y i) (hs:KA V) (hL:Zc w b.lb 149 [.int .u64 1,k]) (hT:Zc w b.tb 277 [.int .u64 i,.slice At.am 1 At.cm,.slice At.al 1 At.cl,.slice At.ad 1 At.cd,.map (some ta),.map (some tl)]) (hls:Zp w At.al [[(x,y)]]) (hta:Zj w ta Yg n64 [((x,y),1)]) (htl:Zj w tl kiI n64 ([]:List (Int × Nat))) :
  Calls Tryz.prog 50 #[.pointer (some ⟨nb,0,none⟩)] w λe w'=>e=.returned (.tuple #[])∧Below w.heap.size w w':=by
 have HB:=hid hB
 have HN:=hid hN
 have HC41:=hid c41
 have HV:=hid hV
 have H1:=hid h1
 have HSM:=hid hs
 have hvv:YM V A.am A.al A.ad A.cm A.cl A.cd=.agg #[.int .u64 i,.slice A.am 1 A.cm,.slice A.al 1 A.cl,.slice A.ad 1 A.cd]:=by unfold YM;rw [h1.id,h1.ms,h1.ls,h1.ds];rfl
 have HVV:=hid hvv
 have CA1:Hid (∀W,Below w.heap.size w W→Calls Tryz.prog 33 #[.pointer (some ⟨b.lb,0,none⟩)] W λe w'=>e=.returned (.int .u64 1)∧Below W.heap.size W w'):=hid λW hb=>(XT (hL.ext hb)).mono λe w' ⟨h1,h2⟩=>⟨h1,by rw [h2];exact Below.refl _ _⟩
 have CLF:Hid (∀W,Below w.heap.size w W→Calls Tryz.prog 107 #[.agg #[.int .u64 i,.slice A.am 1 A.cm,.slice A.al 1 A.cl,.slice A.ad 1 A.cd],.agg #[.int .u16 x,.int .u32 y]] W λe w'=>e=.returned (.int .i64 0)∧Below W.heap.size W w'):=hid λW hb=>by
  have h:=zbX V A.am A.al A.ad A.cm A.cl A.cd x y W (hV.ext hb)
  have hv2:Value.agg #[.int .u64 V.id,.slice A.am V.ms.length A.cm,.slice A.al V.ls.length A.cl,.slice A.ad V.ds.length A.cd]=.agg #[.int .u64 i,.slice A.am 1 A.cm,.slice A.al 1 A.cl,.slice A.ad 1 A.cd]:=hvv
  rw [hv2,show XV V.ls (x,y)=0 by rw [h1.ls];simp [XV,Xr]] at h
  exact h
 have CSL:Hid (∀W,Below w.heap.size w W→Calls Tryz.prog 106 #[.pointer (some ⟨b.tb,0,none⟩),.int .i64 0] W λe w'=>e=.returned (.int .u64 1)∧Below W.heap.size W w'):=hid λW hb=>tLeaf0 (hT.ext hb) (hls.ext hb) (hta.ext hb) (htl.ext hb)
 have CSU:Hid (∀W,Below w.heap.size w W→Calls Tryz.prog 14 #[.pointer (some ⟨nb,0,none⟩)] W λe w'=>∃sa sc,e=.returned (.slice sa 0 sc)∧Below W.heap.size W w'):=hid λW hb=>(zcZ (hB.ext hb) hN.toN1 (hV.ext hb) h1).mono λe w' ⟨sa,sc,h1,h2,h3⟩=>⟨sa,sc,h1,h3⟩
 have HS:Hid (∀W,Below w.heap.size w W→W.cell? ⟨nb,0,none⟩=some (.int .u16 x)∧W.cell? ⟨nb,1,none⟩=some (.int .u32 y)∧W.cell? ⟨nb,9,none⟩=some (.int .u64 i)∧W.cell? ⟨nb,10,none⟩=some (.slice A.am 1 A.cm)∧W.cell? ⟨nb,11,none⟩=some (.slice A.al 1 A.cl)∧W.cell? ⟨nb,12,none⟩=some (.slice A.ad 1 A.cd)∧W.cell? ⟨nb,18,none⟩=some (.pointer (some ⟨b.tb,0,none⟩))∧W.cell? ⟨nb,20,none⟩=some (.pointer (some ⟨b.lb,0,none⟩))∧W.cell? ⟨nb,41,none⟩=some (.int .u64 1)):=hid λW hb=>⟨(HB.out.ext hb).cell HN.out.c0,(HB.out.ext hb).cell HN.out.c1,(HB.out.ext hb).cell HN.out.c9,(HB.out.ext hb).cell HN.out.c10,(HB.out.ext hb).cell HN.out.c11,(HB.out.ext hb).cell HN.out.c12,(HB.out.ext hb).cell HN.out.c18,(HB.out.ext hb).cell HN.out.c20,(HB.out.ext hb).cell HC41.out⟩
 clear hB hN c41 hV h1 hs hL hT hls hta htl hvv
 go_enter Tryz.func50,Tryz.ntmps50
 go_upto_region 0 with fail
 go_cut [2] (λu2 wx=>∃g sa sc,u2=.pointer (some ⟨g,0,none⟩)∧Hid (Below w.heap.size w wx)∧Hid (Zc wx g 118 [.int .u64 i,.int .u64 1,.int .u64 1,.int .u64 1,.slice sa 0 sc]))
 case first =>
  refine rhd HS.out ((Below.refl _ _).drew) λhHeld=>?_
  refine tkv 0 (.pointer (some ⟨nb,0,none⟩)) rfl ?_
  refine tkv 1 (.pointer (some ⟨nb,0,none⟩)) rfl ?_
  refine tkv 2 (.pointer (some ⟨nb,9,none⟩)) rfl ?_
  refine tkv 3 (.pointer (some ⟨nb,9,none⟩)) rfl ?_
  refine tkv 4 (.pointer (some ⟨nb,9,none⟩)) rfl ?_
  refine tkv 5 (.int .u64 i) rfl ?_
  refine tkv 6 (.pointer (some ⟨nb,0,none⟩)) rfl ?_
  refine tkv 7 (.pointer (some ⟨nb,0,none⟩)) rfl ?_
  refine tkv 8 (.pointer (some ⟨nb,20,none⟩)) rfl ?_
  refine tkv 9 (.pointer (some ⟨b.lb,0,none⟩)) rfl ?_
  refine tkv 11 (.pointer (some ⟨nb,0,none⟩)) rfl ?_
  refine tkv 12 (.pointer (some ⟨nb,0,none⟩)) rfl ?_
  refine tkv 13 (.pointer (some ⟨nb,9,none⟩)) rfl ?_
  refine tkv 14 (.pointer (some ⟨nb,18,none⟩)) rfl ?_
  refine tkv 15 (.pointer (some ⟨b.tb,0,none⟩)) rfl ?_
  refine tkv 16 (.pointer (some ⟨nb,0,none⟩)) rfl ?_
  refine tkv 17 (.pointer (some ⟨nb,0,none⟩)) rfl ?_
  refine tkv 18 (.pointer (some ⟨nb,9,none⟩)) rfl ?_
  refine tkv 19 (.pointer (some ⟨nb,9,none⟩)) rfl ?_
  refine tkv 20 (.agg #[.int .u64 i,.slice A.am 1 A.cm,.slice A.al 1 A.cl,.slice A.ad 1 A.cd]) rfl ?_
  refine tkv 21 (.pointer (some ⟨nb,0,none⟩)) rfl ?_
  refine tkv 22 (.pointer (some ⟨nb,0,none⟩)) rfl ?_
  refine tkv 23 (.pointer (some ⟨nb,0,none⟩)) rfl ?_
  refine tkv 24 (.agg #[.int .u16 x,.int .u32 y]) rfl ?_
  refine tkv 27 (.pointer (some ⟨nb,0,none⟩)) rfl ?_
  refine tkv 28 (.pointer (some ⟨nb,0,none⟩)) rfl ?_
  refine tkv 29 (.pointer (some ⟨nb,41,none⟩)) rfl ?_
  refine tkv 30 (.int .u64 1) rfl ?_
  refine tkv 31 (.pointer (some ⟨nb,0,none⟩)) rfl ?_
  refine tkv 32 (.pointer (some ⟨nb,0,none⟩)) rfl ?_
  refine tkv 33 (.pointer (some ⟨nb,20,none⟩)) rfl ?_
  refine tkv 34 (.pointer (some ⟨b.lb,0,none⟩)) rfl ?_
  refine tkv 37 (.pointer (some ⟨nb,0,none⟩)) rfl ?_
  refine rd (rs:=[10,40]) ?_
  refine AllReadyH.cons (o:=_) rfl (λK hK=>?_) (AllReadyH.cons (o:=_) rfl (λK hK=>?_) AllReadyH.nil)
  ·go_simp
   refine (CA1.out _ (Below.refl w.heap.size w).drew).mono ?_
   rintro e u0a ⟨rfl,gu0a⟩
   have hu0a:=Below.trans (Below.refl w.heap.size w).drew (gu0a.mono (Below.size (Below.refl w.heap.size w).drew))
   clear gu0a
   refine hK.out _ _ (HS.out _ hu0a) (λhHeld=>?_)
   clear hK K
   try simp only [lay]
   refine rd (rs:=[25,40]) ?_
   refine AllReadyH.cons (o:=_) rfl (λK hK=>?_) (AllReadyH.cons (o:=_) rfl (λK hK=>?_) AllReadyH.nil)
   ·go_simp
    refine (CLF.out _ hu0a).mono ?_
    rintro e u1a ⟨rfl,gu1a⟩
    have hu1a:=Below.trans hu0a (gu1a.mono (Below.size hu0a))
    clear gu1a
    refine hK.out _ _ (HS.out _ hu1a) (λhHeld=>?_)
    clear hK K
    try simp only [lay]
    refine rd (rs:=[26,40]) ?_
    refine AllReadyH.cons (o:=_) rfl (λK hK=>?_) (AllReadyH.cons (o:=_) rfl (λK hK=>?_) AllReadyH.nil)
    ·go_simp
     refine (CSL.out _ hu1a).mono ?_
     rintro e u2a ⟨rfl,gu2a⟩
     have hu2a:=Below.trans hu1a (gu2a.mono (Below.size hu1a))
     clear gu2a
     refine hK.out _ _ (HS.out _ hu2a) (λhHeld=>?_)
     clear hK K
     try simp only [lay]
     refine rd (rs:=[35,40]) ?_
     refine AllReadyH.cons (o:=_) rfl (λK hK=>?_) (AllReadyH.cons (o:=_) rfl (λK hK=>?_) AllReadyH.nil)
     ·go_simp
      refine (CA1.out _ hu2a).mono ?_
      rintro e u3a ⟨rfl,gu3a⟩
      have hu3a:=Below.trans hu2a (gu3a.mono (Below.size hu2a))
      clear gu3a
      refine hK.out _ _ (HS.out _ hu3a) (λhHeld=>?_)
      clear hK K
      try simp only [lay]
      refine tkP 36 (.int .u64 1) rfl ?_ ?_
      ·intro W hSw
       try dsimp only at hSw
       (go_simp;try rfl)
      try simp only [lay]
      refine rd (rs:=[38,40]) ?_
      refine AllReadyH.cons (o:=_) rfl (λK hK=>?_) (AllReadyH.cons (o:=_) rfl (λK hK=>?_) AllReadyH.nil)
      ·go_simp
       refine (CSU.out _ hu3a).mono ?_
       rintro e u4a ⟨sa,sc,rfl,gu4a⟩
       have hu4a:=Below.trans hu3a (gu4a.mono (Below.size hu3a))
       clear gu4a
       refine hK.out _ _ (HS.out _ hu4a) (λhHeld=>?_)
       clear hK K
       try simp only [lay]
       refine tkv 39 (.agg #[.int .u64 i,.int .u64 1,.int .u64 1,.int .u64 1,.slice sa 0 sc]) rfl ?_
       refine rd1 40 rfl λK hK=>?_
       go_simp
       obtain ⟨wa,hwa⟩:∃z,u4a.alloc (.cells #[.int .u64 0,.int .u64 0,.int .u64 0,.int .u64 0,.slice none 0 0] 118)=z:=⟨_,rfl⟩
       have hx:Zc wa u4a.heap.size 118 [.int .u64 0,.int .u64 0,.int .u64 0,.int .u64 0,.slice none 0 0]:=by rw [←hwa];exact Zc.made _ _ _
       have hwb:Below w.heap.size w wa:=by rw [←hwa];exact Zd hu4a _
       try rw [hwa]
       clear hwa
       obtain ⟨q,hq⟩:∃q,u4a.heap.size=q:=⟨_,rfl⟩
       have hqz:w.heap.size≤q:=by rw [←hq];exact Below.size hu4a
       rw [hq] at hx
       try rw [hq]
       clear hq
       refine hK.out _ _ (HS.out _ hwb) (λhHeld=>?_)
       clear hK K
       try simp only [lay]
       refine rd1 41 rfl λK hK=>?_
       have fz:=hx.frozen
       have e0:=hx.cell (j:=0) rfl
       have e1:=hx.cell (j:=1) rfl
       have e2:=hx.cell (j:=2) rfl
       have e3:=hx.cell (j:=3) rfl
       have e4:=hx.cell (j:=4) rfl
       go_simp
       have hx9:=((((hx.set (j:=0) (v:=.int .u64 i)).set (j:=1) (v:=.int .u64 1)).set (j:=2) (v:=.int .u64 1)).set (j:=3) (v:=.int .u64 1)).set (j:=4) (v:=.slice sa 0 sc)
       have hb9:=Zi (o:=4) (u:=.slice sa 0 sc) (Zi (o:=3) (u:=.int .u64 1) (Zi (o:=2) (u:=.int .u64 1) (Zi (o:=1) (u:=.int .u64 1) (Zi (o:=0) (u:=.int .u64 i) hwb hqz) hqz) hqz) hqz) hqz
       have hx9:Zc _ q 118 [.int .u64 i,.int .u64 1,.int .u64 1,.int .u64 1,.slice sa 0 sc]:=hx9
       clear e0 e1 e2 e3 e4 fz hx
       refine hK.out _ _ (HS.out _ hb9) (λhHeld=>?_)
       clear hK K
       try simp only [lay]
       refine dn ?_
       go_wp2_with fail
       go_meet
       exact ⟨_,_,_,rfl,hid hb9,hid hx9⟩
      ·go_simp
       obtain ⟨wa,hwa⟩:∃z,u3a.alloc (.cells #[.int .u64 0,.int .u64 0,.int .u64 0,.int .u64 0,.slice none 0 0] 118)=z:=⟨_,rfl⟩
       have hx:Zc wa u3a.heap.size 118 [.int .u64 0,.int .u64 0,.int .u64 0,.int .u64 0,.slice none 0 0]:=by rw [←hwa];exact Zc.made _ _ _
       have hwb:Below w.heap.size w wa:=by rw [←hwa];exact Zd hu3a _
       try rw [hwa]
       clear hwa
       obtain ⟨q,hq⟩:∃q,u3a.heap.size=q:=⟨_,rfl⟩
       have hqz:w.heap.size≤q:=by rw [←hq];exact Below.size hu3a
       rw [hq] at hx
       try rw [hq]
       clear hq
       refine hK.out _ _ (HS.out _ hwb) (λhHeld=>?_)
       clear hK K
       try simp only [lay]
       refine rd1 38 rfl λK hK=>?_
       go_simp
       refine (CSU.out _ hwb).mono ?_
       rintro e u4b ⟨sa,sc,rfl,gu4b⟩
       have hu4b:=Below.trans hwb (gu4b.mono (Below.size hwb))
       have hx:=hx.ext gu4b
       clear gu4b
       refine hK.out _ _ (HS.out _ hu4b) (λhHeld=>?_)
       clear hK K
       try simp only [lay]
       refine tkv 39 (.agg #[.int .u64 i,.int .u64 1,.int .u64 1,.int .u64 1,.slice sa 0 sc]) rfl ?_
       refine rd1 41 rfl λK hK=>?_
       have fz:=hx.frozen
       have e0:=hx.cell (j:=0) rfl
       have e1:=hx.cell (j:=1) rfl
       have e2:=hx.cell (j:=2) rfl
       have e3:=hx.cell (j:=3) rfl
       have e4:=hx.cell (j:=4) rfl
       go_simp
       have hx9:=((((hx.set (j:=0) (v:=.int .u64 i)).set (j:=1) (v:=.int .u64 1)).set (j:=2) (v:=.int .u64 1)).set (j:=3) (v:=.int .u64 1)).set (j:=4) (v:=.slice sa 0 sc)
       have hb9:=Zi (o:=4) (u:=.slice sa 0 sc) (Zi (o:=3) (u:=.int .u64 1) (Zi (o:=2) (u:=.int .u64 1) (Zi (o:=1) (u:=.int .u64 1) (Zi (o:=0) (u:=.int .u64 i) hu4b hqz) hqz) hqz) hqz) hqz
       have hx9:Zc _ q 118 [.int .u64 i,.int .u64 1,.int .u64 1,.int .u64 1,.slice sa 0 sc]:=hx9
       clear e0 e1 e2 e3 e4 fz hx
       refine hK.out _ _ (HS.out _ hb9) (λhHeld=>?_)
       clear hK K
       try simp only [lay]
       refine dn ?_
       go_wp2_with fail
       go_meet
       exact ⟨_,_,_,rfl,hid hb9,hid hx9⟩
     ·go_simp
      obtain ⟨wa,hwa⟩:∃z,u2a.alloc (.cells #[.int .u64 0,.int .u64 0,.int .u64 0,.int .u64 0,.slice none 0 0] 118)=z:=⟨_,rfl⟩
      have hx:Zc wa u2a.heap.size 118 [.int .u64 0,.int .u64 0,.int .u64 0,.int .u64 0,.slice none 0 0]:=by rw [←hwa];exact Zc.made _ _ _
      have hwb:Below w.heap.size w wa:=by rw [←hwa];exact Zd hu2a _
      try rw [hwa]
      clear hwa
      obtain ⟨q,hq⟩:∃q,u2a.heap.size=q:=⟨_,rfl⟩
      have hqz:w.heap.size≤q:=by rw [←hq];exact Below.size hu2a
      rw [hq] at hx
      try rw [hq]
      clear hq
      refine hK.out _ _ (HS.out _ hwb) (λhHeld=>?_)
      clear hK K
      try simp only [lay]
      refine rd1 35 rfl λK hK=>?_
      go_simp
      refine (CA1.out _ hwb).mono ?_
      rintro e u3b ⟨rfl,gu3b⟩
      have hu3b:=Below.trans hwb (gu3b.mono (Below.size hwb))
      have hx:=hx.ext gu3b
      clear gu3b
      refine hK.out _ _ (HS.out _ hu3b) (λhHeld=>?_)
      clear hK K
      try simp only [lay]
      refine tkP 36 (.int .u64 1) rfl ?_ ?_
      ·intro W hSw
       try dsimp only at hSw
       (go_simp;try rfl)
      try simp only [lay]
      refine rd1 38 rfl λK hK=>?_
      go_simp
      refine (CSU.out _ hu3b).mono ?_
      rintro e u4b ⟨sa,sc,rfl,gu4b⟩
      have hu4b:=Below.trans hu3b (gu4b.mono (Below.size hu3b))
      have hx:=hx.ext gu4b
      clear gu4b
      refine hK.out _ _ (HS.out _ hu4b) (λhHeld=>?_)
      clear hK K
      try simp only [lay]
      refine tkv 39 (.agg #[.int .u64 i,.int .u64 1,.int .u64 1,.int .u64 1,.slice sa 0 sc]) rfl ?_
      refine rd1 41 rfl λK hK=>?_
      have fz:=hx.frozen
      have e0:=hx.cell (j:=0) rfl
      have e1:=hx.cell (j:=1) rfl
      have e2:=hx.cell (j:=2) rfl
      have e3:=hx.cell (j:=3) rfl
      have e4:=hx.cell (j:=4) rfl
      go_simp
      have hx9:=((((hx.set (j:=0) (v:=.int .u64 i)).set (j:=1) (v:=.int .u64 1)).set (j:=2) (v:=.int .u64 1)).set (j:=3) (v:=.int .u64 1)).set (j:=4) (v:=.slice sa 0 sc)
      have hb9:=Zi (o:=4) (u:=.slice sa 0 sc) (Zi (o:=3) (u:=.int .u64 1) (Zi (o:=2) (u:=.int .u64 1) (Zi (o:=1) (u:=.int .u64 1) (Zi (o:=0) (u:=.int .u64 i) hu4b hqz) hqz) hqz) hqz) hqz
      have hx9:Zc _ q 118 [.int .u64 i,.int .u64 1,.int .u64 1,.int .u64 1,.slice sa 0 sc]:=hx9
      clear e0 e1 e2 e3 e4 fz hx
      refine hK.out _ _ (HS.out _ hb9) (λhHeld=>?_)
      clear hK K
      try simp only [lay]
      refine dn ?_
      go_wp2_with fail
      go_meet
      exact ⟨_,_,_,rfl,hid hb9,hid hx9⟩
    ·go_simp
     obtain ⟨wa,hwa⟩:∃z,u1a.alloc (.cells #[.int .u64 0,.int .u64 0,.int .u64 0,.int .u64 0,.slice none 0 0] 118)=z:=⟨_,rfl⟩
     have hx:Zc wa u1a.heap.size 118 [.int .u64 0,.int .u64 0,.int .u64 0,.int .u64 0,.slice none 0 0]:=by rw [←hwa];exact Zc.made _ _ _
     have hwb:Below w.heap.size w wa:=by rw [←hwa];exact Zd hu1a _
     try rw [hwa]
     clear hwa
     obtain ⟨q,hq⟩:∃q,u1a.heap.size=q:=⟨_,rfl⟩
     have hqz:w.heap.size≤q:=by rw [←hq];exact Below.size hu1a
     rw [hq] at hx
     try rw [hq]
     clear hq
     refine hK.out _ _ (HS.out _ hwb) (λhHeld=>?_)
     clear hK K
     try simp only [lay]
     refine rd1 26 rfl λK hK=>?_
     go_simp
     refine (CSL.out _ hwb).mono ?_
     rintro e u2b ⟨rfl,gu2b⟩
     have hu2b:=Below.trans hwb (gu2b.mono (Below.size hwb))
     have hx:=hx.ext gu2b
     clear gu2b
     refine hK.out _ _ (HS.out _ hu2b) (λhHeld=>?_)
     clear hK K
     try simp only [lay]
     refine rd1 35 rfl λK hK=>?_
     go_simp
     refine (CA1.out _ hu2b).mono ?_
     rintro e u3b ⟨rfl,gu3b⟩
     have hu3b:=Below.trans hu2b (gu3b.mono (Below.size hu2b))
     have hx:=hx.ext gu3b
     clear gu3b
     refine hK.out _ _ (HS.out _ hu3b) (λhHeld=>?_)
     clear hK K
     try simp only [lay]
     refine tkP 36 (.int .u64 1) rfl ?_ ?_
     ·intro W hSw
      try dsimp only at hSw
      (go_simp;try rfl)
     try simp only [lay]
     refine rd1 38 rfl λK hK=>?_
     go_simp
     refine (CSU.out _ hu3b).mono ?_
     rintro e u4b ⟨sa,sc,rfl,gu4b⟩
     have hu4b:=Below.trans hu3b (gu4b.mono (Below.size hu3b))
     have hx:=hx.ext gu4b
     clear gu4b
     refine hK.out _ _ (HS.out _ hu4b) (λhHeld=>?_)
     clear hK K
     try simp only [lay]
     refine tkv 39 (.agg #[.int .u64 i,.int .u64 1,.int .u64 1,.int .u64 1,.slice sa 0 sc]) rfl ?_
     refine rd1 41 rfl λK hK=>?_
     have fz:=hx.frozen
     have e0:=hx.cell (j:=0) rfl
     have e1:=hx.cell (j:=1) rfl
     have e2:=hx.cell (j:=2) rfl
     have e3:=hx.cell (j:=3) rfl
     have e4:=hx.cell (j:=4) rfl
     go_simp
     have hx9:=((((hx.set (j:=0) (v:=.int .u64 i)).set (j:=1) (v:=.int .u64 1)).set (j:=2) (v:=.int .u64 1)).set (j:=3) (v:=.int .u64 1)).set (j:=4) (v:=.slice sa 0 sc)
     have hb9:=Zi (o:=4) (u:=.slice sa 0 sc) (Zi (o:=3) (u:=.int .u64 1) (Zi (o:=2) (u:=.int .u64 1) (Zi (o:=1) (u:=.int .u64 1) (Zi (o:=0) (u:=.int .u64 i) hu4b hqz) hqz) hqz) hqz) hqz
     have hx9:Zc _ q 118 [.int .u64 i,.int .u64 1,.int .u64 1,.int .u64 1,.slice sa 0 sc]:=hx9
     clear e0 e1 e2 e3 e4 fz hx
     refine hK.out _ _ (HS.out _ hb9) (λhHeld=>?_)
     clear hK K
     try simp only [lay]
     refine dn ?_
     go_wp2_with fail
     go_meet
     exact ⟨_,_,_,rfl,hid hb9,hid hx9⟩
   ·go_simp
    obtain ⟨wa,hwa⟩:∃z,u0a.alloc (.cells #[.int .u64 0,.int .u64 0,.int .u64 0,.int .u64 0,.slice none 0 0] 118)=z:=⟨_,rfl⟩
    have hx:Zc wa u0a.heap.size 118 [.int .u64 0,.int .u64 0,.int .u64 0,.int .u64 0,.slice none 0 0]:=by rw [←hwa];exact Zc.made _ _ _
    have hwb:Below w.heap.size w wa:=by rw [←hwa];exact Zd hu0a _
    try rw [hwa]
    clear hwa
    obtain ⟨q,hq⟩:∃q,u0a.heap.size=q:=⟨_,rfl⟩
    have hqz:w.heap.size≤q:=by rw [←hq];exact Below.size hu0a
    rw [hq] at hx
    try rw [hq]
    clear hq
    refine hK.out _ _ (HS.out _ hwb) (λhHeld=>?_)
    clear hK K
    try simp only [lay]
    refine rd1 25 rfl λK hK=>?_
    go_simp
    refine (CLF.out _ hwb).mono ?_
    rintro e u1b ⟨rfl,gu1b⟩
    have hu1b:=Below.trans hwb (gu1b.mono (Below.size hwb))
    have hx:=hx.ext gu1b
    clear gu1b
    refine hK.out _ _ (HS.out _ hu1b) (λhHeld=>?_)
    clear hK K
    try simp only [lay]
    refine rd1 26 rfl λK hK=>?_
    go_simp
    refine (CSL.out _ hu1b).mono ?_
    rintro e u2b ⟨rfl,gu2b⟩
    have hu2b:=Below.trans hu1b (gu2b.mono (Below.size hu1b))
    have hx:=hx.ext gu2b
    clear gu2b
    refine hK.out _ _ (HS.out _ hu2b) (λhHeld=>?_)
    clear hK K
    try simp only [lay]
    refine rd1 35 rfl λK hK=>?_
    go_simp
    refine (CA1.out _ hu2b).mono ?_
    rintro e u3b ⟨rfl,gu3b⟩
    have hu3b:=Below.trans hu2b (gu3b.mono (Below.size hu2b))
    have hx:=hx.ext gu3b
    clear gu3b
    refine hK.out _ _ (HS.out _ hu3b) (λhHeld=>?_)
    clear hK K
    try simp only [lay]
    refine tkP 36 (.int .u64 1) rfl ?_ ?_
    ·intro W hSw
     try dsimp only at hSw
     (go_simp;try rfl)
    try simp only [lay]
    refine rd1 38 rfl λK hK=>?_
    go_simp
    refine (CSU.out _ hu3b).mono ?_
    rintro e u4b ⟨sa,sc,rfl,gu4b⟩
    have hu4b:=Below.trans hu3b (gu4b.mono (Below.size hu3b))
    have hx:=hx.ext gu4b
    clear gu4b
    refine hK.out _ _ (HS.out _ hu4b) (λhHeld=>?_)
    clear hK K
    try simp only [lay]
    refine tkv 39 (.agg #[.int .u64 i,.int .u64 1,.int .u64 1,.int .u64 1,.slice sa 0 sc]) rfl ?_
    refine rd1 41 rfl λK hK=>?_
    have fz:=hx.frozen
    have e0:=hx.cell (j:=0) rfl
    have e1:=hx.cell (j:=1) rfl
    have e2:=hx.cell (j:=2) rfl
    have e3:=hx.cell (j:=3) rfl
    have e4:=hx.cell (j:=4) rfl
    go_simp
    have hx9:=((((hx.set (j:=0) (v:=.int .u64 i)).set (j:=1) (v:=.int .u64 1)).set (j:=2) (v:=.int .u64 1)).set (j:=3) (v:=.int .u64 1)).set (j:=4) (v:=.slice sa 0 sc)
    have hb9:=Zi (o:=4) (u:=.slice sa 0 sc) (Zi (o:=3) (u:=.int .u64 1) (Zi (o:=2) (u:=.int .u64 1) (Zi (o:=1) (u:=.int .u64 1) (Zi (o:=0) (u:=.int .u64 i) hu4b hqz) hqz) hqz) hqz) hqz
    have hx9:Zc _ q 118 [.int .u64 i,.int .u64 1,.int .u64 1,.int .u64 1,.slice sa 0 sc]:=hx9
    clear e0 e1 e2 e3 e4 fz hx
    refine hK.out _ _ (HS.out _ hb9) (λhHeld=>?_)
    clear hK K
    try simp only [lay]
    refine dn ?_
    go_wp2_with fail
    go_meet
    exact ⟨_,_,_,rfl,hid hb9,hid hx9⟩
  ·go_simp
   obtain ⟨wa,hwa⟩:∃z,(w.alloc (.cells #[.int .u64 0,.int .u64 0,.int .u64 0,.int .u64 0,.slice none 0 0] 118)).drew=z:=⟨_,rfl⟩
   have hx:Zc wa w.heap.size 118 [.int .u64 0,.int .u64 0,.int .u64 0,.int .u64 0,.slice none 0 0]:=by rw [←hwa];exact (Zc.made w _ _).ext (Below.refl _ _).drew
   have hwb:Below w.heap.size w wa:=by rw [←hwa];exact (Zd (Below.refl _ _) _).drew
   try rw [hwa]
   clear hwa
   obtain ⟨q,hq⟩:∃q,w.heap.size=q:=⟨_,rfl⟩
   have hqz:w.heap.size≤q:=Nat.le_of_eq hq
   rw [hq] at hx
   try rw [hq]
   clear hq
   refine hK.out _ _ (HS.out _ hwb) (λhHeld=>?_)
   clear hK K
   try simp only [lay]
   refine rd1 10 rfl λK hK=>?_
   go_simp
   refine (CA1.out _ hwb).mono ?_
   rintro e u0b ⟨rfl,gu0b⟩
   have hu0b:=Below.trans hwb (gu0b.mono (Below.size hwb))
   have hx:=hx.ext gu0b
   clear gu0b
   refine hK.out _ _ (HS.out _ hu0b) (λhHeld=>?_)
   clear hK K
   try simp only [lay]
   refine rd1 25 rfl λK hK=>?_
   go_simp
   refine (CLF.out _ hu0b).mono ?_
   rintro e u1b ⟨rfl,gu1b⟩
   have hu1b:=Below.trans hu0b (gu1b.mono (Below.size hu0b))
   have hx:=hx.ext gu1b
   clear gu1b
   refine hK.out _ _ (HS.out _ hu1b) (λhHeld=>?_)
   clear hK K
   try simp only [lay]
   refine rd1 26 rfl λK hK=>?_
   go_simp
   refine (CSL.out _ hu1b).mono ?_
   rintro e u2b ⟨rfl,gu2b⟩
   have hu2b:=Below.trans hu1b (gu2b.mono (Below.size hu1b))
   have hx:=hx.ext gu2b
   clear gu2b
   refine hK.out _ _ (HS.out _ hu2b) (λhHeld=>?_)
   clear hK K
   try simp only [lay]
   refine rd1 35 rfl λK hK=>?_
   go_simp
   refine (CA1.out _ hu2b).mono ?_
   rintro e u3b ⟨rfl,gu3b⟩
   have hu3b:=Below.trans hu2b (gu3b.mono (Below.size hu2b))
   have hx:=hx.ext gu3b
   clear gu3b
   refine hK.out _ _ (HS.out _ hu3b) (λhHeld=>?_)
   clear hK K
   try simp only [lay]
   refine tkP 36 (.int .u64 1) rfl ?_ ?_
   ·intro W hSw
    try dsimp only at hSw
    (go_simp;try rfl)
   try simp only [lay]
   refine rd1 38 rfl λK hK=>?_
   go_simp
   refine (CSU.out _ hu3b).mono ?_
   rintro e u4b ⟨sa,sc,rfl,gu4b⟩
   have hu4b:=Below.trans hu3b (gu4b.mono (Below.size hu3b))
   have hx:=hx.ext gu4b
   clear gu4b
   refine hK.out _ _ (HS.out _ hu4b) (λhHeld=>?_)
   clear hK K
   try simp only [lay]
   refine tkv 39 (.agg #[.int .u64 i,.int .u64 1,.int .u64 1,.int .u64 1,.slice sa 0 sc]) rfl ?_
   refine rd1 41 rfl λK hK=>?_
   have fz:=hx.frozen
   have e0:=hx.cell (j:=0) rfl
   have e1:=hx.cell (j:=1) rfl
   have e2:=hx.cell (j:=2) rfl
   have e3:=hx.cell (j:=3) rfl
   have e4:=hx.cell (j:=4) rfl
   go_simp
   have hx9:=((((hx.set (j:=0) (v:=.int .u64 i)).set (j:=1) (v:=.int .u64 1)).set (j:=2) (v:=.int .u64 1)).set (j:=3) (v:=.int .u64 1)).set (j:=4) (v:=.slice sa 0 sc)
   have hb9:=Zi (o:=4) (u:=.slice sa 0 sc) (Zi (o:=3) (u:=.int .u64 1) (Zi (o:=2) (u:=.int .u64 1) (Zi (o:=1) (u:=.int .u64 1) (Zi (o:=0) (u:=.int .u64 i) hu4b hqz) hqz) hqz) hqz) hqz
   have hx9:Zc _ q 118 [.int .u64 i,.int .u64 1,.int .u64 1,.int .u64 1,.slice sa 0 sc]:=hx9
   clear e0 e1 e2 e3 e4 fz hx
   refine hK.out _ _ (HS.out _ hb9) (λhHeld=>?_)
   clear hK K
   try simp only [lay]
   refine dn ?_
   go_wp2_with fail
   go_meet
   exact ⟨_,_,_,rfl,hid hb9,hid hx9⟩
 case rest =>
  obtain ⟨g,sa,sc,rfl,HW2,HX2⟩:=hcut
  rename World=>w2
  clear CA1 CLF CSL CSU HS
  have CE:=hid (Gq (x:=⟨i,1,1,1,[]⟩) (a:=sa) (c:=sc) (w:=w2) (n:=0) (hid rfl) (Nat.zero_le _) (λ_ h=>by cases h) (.inl rfl))
  have c0:=HX2.out.cell (j:=0) rfl
  have c1:=HX2.out.cell (j:=1) rfl
  have c2:=HX2.out.cell (j:=2) rfl
  have c3:=HX2.out.cell (j:=3) rfl
  have c4:=HX2.out.cell (j:=4) rfl
  obtain ⟨bc,hbc⟩:∃q,YC ⟨i,1,1,1,[]⟩=q:=⟨_,rfl⟩
  rw [hbc] at CE
  clear hbc
  go_wp2_with fail
  refine CE.out.mono ?_
  rintro e w3 ⟨v,rfl,-,hb3⟩
  have HB3:=hid (HB.out.ext (HW2.out.trans (hb3.mono HW2.out.size)))
  have HW3:=hid (HW2.out.trans (hb3.mono HW2.out.size))
  clear CE c0 c1 c2 c3 c4 HX2 hb3
  cases bc with
  | false =>
   have hch:chkN false=1:=rfl
   rw [hch]
   go_wp2_with fail
   exact bodyPost_ret (results_none rfl _ _ _) rfl ⟨rfl,HW3.out⟩
  | true =>
   have hch:chkN true=0:=rfl
   rw [hch]
   have n47:=HB3.out.cell HN.out.c47
   go_upto_region 4 with fail
   clear n47 hch
   have HS4:Hid (∀W,Below w3.heap.size w3 W→W.cell? ⟨nb,0,none⟩=some (.int .u16 x)∧W.cell? ⟨nb,1,none⟩=some (.int .u32 y)∧W.cell? ⟨nb,9,none⟩=some (.int .u64 i)∧W.cell? ⟨nb,10,none⟩=some (.slice A.am 1 A.cm)∧W.cell? ⟨nb,11,none⟩=some (.slice A.al 1 A.cl)∧W.cell? ⟨nb,12,none⟩=some (.slice A.ad 1 A.cd)∧W.cell? ⟨nb,25,none⟩=some (.int .u32 0)∧W.cell? ⟨nb,26,none⟩=some (.int .u32 0)∧W.cell? ⟨nb,27,none⟩=some (.int .u32 0)∧W.cell? ⟨nb,28,none⟩=some (.int .u32 0)∧W.cell? ⟨nb,29,none⟩=some (.int .u32 0)∧W.cell? ⟨nb,30,none⟩=some (.int .u32 0)∧W.cell? ⟨nb,31,none⟩=some (.int .u32 0)∧W.cell? ⟨nb,32,none⟩=some (.int .u32 0)∧W.cell? ⟨nb,33,none⟩=some (.int .u32 0)∧W.cell? ⟨nb,34,none⟩=some (.int .u32 0)∧W.cell? ⟨nb,35,none⟩=some (.int .u32 0)∧W.cell? ⟨nb,36,none⟩=some (.int .u32 0)∧W.cell? ⟨nb,37,none⟩=some (.int .u32 0)∧W.cell? ⟨nb,38,none⟩=some (.int .u32 0)∧W.cell? ⟨nb,39,none⟩=some (.int .u32 0)∧W.cell? ⟨nb,40,none⟩=some (.int .u32 0)):=hid λW hb=>⟨(HB3.out.ext hb).cell HN.out.c0,(HB3.out.ext hb).cell HN.out.c1,(HB3.out.ext hb).cell HN.out.c9,(HB3.out.ext hb).cell HN.out.c10,(HB3.out.ext hb).cell HN.out.c11,(HB3.out.ext hb).cell HN.out.c12,(HB3.out.ext hb).cell (HN.out.ru 0 (by decide)),(HB3.out.ext hb).cell (HN.out.ru 1 (by decide)),(HB3.out.ext hb).cell (HN.out.ru 2 (by decide)),(HB3.out.ext hb).cell (HN.out.ru 3 (by decide)),(HB3.out.ext hb).cell (HN.out.ru 4 (by decide)),(HB3.out.ext hb).cell (HN.out.ru 5 (by decide)),(HB3.out.ext hb).cell (HN.out.ru 6 (by decide)),(HB3.out.ext hb).cell (HN.out.ru 7 (by decide)),(HB3.out.ext hb).cell (HN.out.ru 8 (by decide)),(HB3.out.ext hb).cell (HN.out.ru 9 (by decide)),(HB3.out.ext hb).cell (HN.out.ru 10 (by decide)),(HB3.out.ext hb).cell (HN.out.ru 11 (by decide)),(HB3.out.ext hb).cell (HN.out.ru 12 (by decide)),(HB3.out.ext hb).cell (HN.out.ru 13 (by decide)),(HB3.out.ext hb).cell (HN.out.ru 14 (by decide)),(HB3.out.ext hb).cell (HN.out.ru 15 (by decide))⟩
   have hbe:Kj V (Zv λ_=>0) (x,y)=[]:=by unfold Kj ZY;rw [H1.out.ms];simp
   have CBE:Hid (∀W,Below w3.heap.size w3 W→Calls Tryz.prog 109 #[.agg #[.int .u64 i,.slice A.am 1 A.cm,.slice A.al 1 A.cl,.slice A.ad 1 A.cd],.agg #[.int .u32 0,.int .u32 0,.int .u32 0,.int .u32 0,.int .u32 0,.int .u32 0,.int .u32 0,.int .u32 0,.int .u32 0,.int .u32 0,.int .u32 0,.int .u32 0,.int .u32 0,.int .u32 0,.int .u32 0,.int .u32 0],.agg #[.int .u16 x,.int .u32 y]] W λe w'=>∃da dc,e=.returned (.slice da 0 dc)∧Below w3.heap.size w3 w'):=hid λW hb=>by
    have h:=zdA (λ_=>0) V A.am A.al A.ad A.cm A.cl A.cd x y W ((HV.out.ext HW3.out).ext hb) HSM.out
    rw [hbe,HVV.out] at h
    refine Calls.mono h λe w' ⟨v,h1,h2,h3⟩=>?_
    obtain ⟨a,c,rfl,hr⟩:=Xm h2
    exact ⟨a,c,h1,hb.trans (h3.mono hb.size)⟩
   refine rhd HS4.out ((Below.refl _ _).drew) λhHeld=>?_
   refine tkv 0 (.pointer (some ⟨nb,0,none⟩)) rfl ?_
   refine tkv 1 (.pointer (some ⟨nb,0,none⟩)) rfl ?_
   refine tkv 2 (.pointer (some ⟨nb,9,none⟩)) rfl ?_
   refine tkv 3 (.pointer (some ⟨nb,9,none⟩)) rfl ?_
   refine tkv 4 (.agg #[.int .u64 i,.slice A.am 1 A.cm,.slice A.al 1 A.cl,.slice A.ad 1 A.cd]) rfl ?_
   refine tkv 5 (.pointer (some ⟨nb,0,none⟩)) rfl ?_
   refine tkv 6 (.pointer (some ⟨nb,0,none⟩)) rfl ?_
   refine tkv 7 (.pointer (some ⟨nb,25,none⟩)) rfl ?_
   refine tkv 8 (.agg #[.int .u32 0,.int .u32 0,.int .u32 0,.int .u32 0,.int .u32 0,.int .u32 0,.int .u32 0,.int .u32 0,.int .u32 0,.int .u32 0,.int .u32 0,.int .u32 0,.int .u32 0,.int .u32 0,.int .u32 0,.int .u32 0]) rfl ?_
   refine tkv 9 (.pointer (some ⟨nb,0,none⟩)) rfl ?_
   refine tkv 10 (.pointer (some ⟨nb,0,none⟩)) rfl ?_
   refine tkv 11 (.pointer (some ⟨nb,0,none⟩)) rfl ?_
   refine tkv 12 (.agg #[.int .u16 x,.int .u32 y]) rfl ?_
   refine tkv 15 (.int .i64 0) rfl ?_
   refine rd1 13 rfl λK hK=>?_
   go_simp
   refine (CBE.out _ (Below.refl _ _).drew).mono ?_
   rintro e w4 ⟨ba,bc,rfl,hb4⟩
   refine hK.out _ _ (HS4.out _ hb4) (λhHeld=>?_)
   clear hK K
   try simp only [lay]
   refine tkP 14 (.int .i64 0) rfl ?_ ?_
   ·intro W hSw
    try dsimp only at hSw
    (go_simp;try rfl)
   try simp only [lay]
   refine dn ?_
   go_wp2_with fail
   go_loopw [75] (λiv wr=>iv=.int .i64 0∧wr=w4) (λ_ _=>0)
   case atStart=>exact ⟨rfl,rfl⟩
   case round =>
    obtain ⟨rfl,rfl⟩:=hrel
    go_wp2_with fail
    exact bodyPost_end (results_none rfl _ _ _) rfl ⟨rfl,HW3.out.trans (hb4.mono HW3.out.size)⟩
end
end Go.Proofs.YtcdpaflmofljaaaGreat
