import Derived.Test.YtcdpaflmofljaaaGreatGNodeNil31
/- Parts of the proof of NodeNil: MP3. -/
namespace Go.Proofs.YtcdpaflmofljaaaGreat
open Go.RowKit
section
variable {w:World} {nb i:Nat} {cs:List Value} {x y:Int} {A:VAd} {V:Zs} {bd:Bnd} {b:PB}
theorem Jq {a:Option Addr} {c qb:Nat} {v l:Int} (hB:Zc w nb 98 cs) (c15:cs[15]?=some (.pointer (some ⟨qb,0,none⟩))) (c46:cs[46]?=some (.bool false)) (hQ:Zc w qb 159 [.int .u64 v,.int .u64 l,.slice a 0 c]):Calls Tryz.prog 48 #[.pointer (some ⟨nb,0,none⟩)] w λe w'=>e=.returned (.tuple #[])∧w'=w:=by
 have n15:=hB.cell c15
 have n46:=hB.cell c46
 have CQ:=hid (qList0 hQ)
 clear hB c15 c46 hQ
 go_enter Tryz.func48,Tryz.ntmps48
 go_wp2_with fail
 refine CQ.out.mono ?_
 rintro e w2 ⟨rfl,rfl⟩
 rename World=>w1
 clear CQ
 go_wp2_with fail
 go_loopw [11] (λiv wr=>iv=.int .i64 0∧wr=w1) (λ_ _=>0)
 case atStart=>exact ⟨rfl,rfl⟩
 case round =>
  obtain ⟨rfl,rfl⟩:=hrel
  go_wp2_with fail
  exact bodyPost_end (results_none rfl _ _ _) rfl ⟨rfl,rfl⟩
set_option maxRecDepth 100000 in
set_option maxHeartbeats 3200000 in
theorem zcZ (hB:Zc w nb 98 cs) (hN:N1 cs x y i A) (hV:Zt w A.am A.al A.ad V) (h1:V1 V x y i) :
  Calls Tryz.prog 14 #[.pointer (some ⟨nb,0,none⟩)] w λe w'=>∃sa sc,e=.returned (.slice sa 0 sc)∧Zb w' sa []∧Below w.heap.size w w':=by
 have hms:=hV.ms
 rw [h1.ms] at hms
 have CI:=hid (XR hB hN)
 have CWI:Hid (∀W,Below w.heap.size w W→Calls Tryz.prog 36 #[.agg #[.int .u32 0,.int .u32 0,.int .u32 0,.int .u32 0,.int .u32 0,.int .u32 0,.int .u32 0,.int .u32 0,.int .u32 0,.int .u32 0,.int .u32 0,.int .u32 0,.int .u32 0,.int .u32 0,.int .u32 0,.int .u32 0],.slice A.am 1 A.cm] W λe w'=>e=.returned (.slice none 0 0)∧Below w.heap.size w w'):=hid λW hb=>(Qv h1.ok (hms.ext hb) h1.sound).mono λe w' ⟨h1,h2⟩=>⟨h1,hb.trans (h2.mono hb.size)⟩
 have CSO:Hid (∀W,Below w.heap.size w W→Calls Tryz.prog 35 #[.slice none 0 0] W λe w'=>∃da dc,e=.returned (.slice da 0 dc)∧Zb w' da []∧Below w.heap.size w w'):=hid λW hb=>(Qc none 0 [] W (by decide) (.inl rfl) (λ_ h=>by cases h)).mono λe w' ⟨v,h1,h2,h3⟩=>by
  have h4:FR ([]:List Pid)=[]:=by simp [FR,zcz,YS,Zx,keys]
  rw [h4] at h2
  obtain ⟨a,c,rfl,hr⟩:=Xm h2
  exact ⟨a,c,h1,hr,hb.trans (h3.mono hb.size)⟩
 have HB:=hid hB
 have HN:=hid hN
 have HS:Hid (∀W,Below w.heap.size w W→W.cell? ⟨nb,10,none⟩=some (.slice A.am 1 A.cm)∧W.cell? ⟨nb,25,none⟩=some (.int .u32 0)∧W.cell? ⟨nb,26,none⟩=some (.int .u32 0)∧W.cell? ⟨nb,27,none⟩=some (.int .u32 0)∧W.cell? ⟨nb,28,none⟩=some (.int .u32 0)∧W.cell? ⟨nb,29,none⟩=some (.int .u32 0)∧W.cell? ⟨nb,30,none⟩=some (.int .u32 0)∧W.cell? ⟨nb,31,none⟩=some (.int .u32 0)∧W.cell? ⟨nb,32,none⟩=some (.int .u32 0)∧W.cell? ⟨nb,33,none⟩=some (.int .u32 0)∧W.cell? ⟨nb,34,none⟩=some (.int .u32 0)∧W.cell? ⟨nb,35,none⟩=some (.int .u32 0)∧W.cell? ⟨nb,36,none⟩=some (.int .u32 0)∧W.cell? ⟨nb,37,none⟩=some (.int .u32 0)∧W.cell? ⟨nb,38,none⟩=some (.int .u32 0)∧W.cell? ⟨nb,39,none⟩=some (.int .u32 0)∧W.cell? ⟨nb,40,none⟩=some (.int .u32 0)):=hid λW hb=>⟨(HB.out.ext hb).cell HN.out.c10,(HB.out.ext hb).cell (HN.out.ru 0 (by decide)),(HB.out.ext hb).cell (HN.out.ru 1 (by decide)),(HB.out.ext hb).cell (HN.out.ru 2 (by decide)),(HB.out.ext hb).cell (HN.out.ru 3 (by decide)),(HB.out.ext hb).cell (HN.out.ru 4 (by decide)),(HB.out.ext hb).cell (HN.out.ru 5 (by decide)),(HB.out.ext hb).cell (HN.out.ru 6 (by decide)),(HB.out.ext hb).cell (HN.out.ru 7 (by decide)),(HB.out.ext hb).cell (HN.out.ru 8 (by decide)),(HB.out.ext hb).cell (HN.out.ru 9 (by decide)),(HB.out.ext hb).cell (HN.out.ru 10 (by decide)),(HB.out.ext hb).cell (HN.out.ru 11 (by decide)),(HB.out.ext hb).cell (HN.out.ru 12 (by decide)),(HB.out.ext hb).cell (HN.out.ru 13 (by decide)),(HB.out.ext hb).cell (HN.out.ru 14 (by decide)),(HB.out.ext hb).cell (HN.out.ru 15 (by decide))⟩
 clear hB hN hV h1 hms
 go_enter Tryz.func14,Tryz.ntmps14
 go_wp2_with fail
 refine CI.out.mono ?_
 rintro e w0 ⟨rfl,rfl⟩
 rename World=>w
 clear CI
 go_upto_region 3 with fail
 refine rhd HS.out ((Below.refl _ _).drew) λhHeld=>?_
 refine tkv 0 (.pointer (some ⟨nb,0,none⟩)) rfl ?_
 refine tkv 1 (.pointer (some ⟨nb,0,none⟩)) rfl ?_
 refine tkv 2 (.pointer (some ⟨nb,25,none⟩)) rfl ?_
 refine tkv 3 (.agg #[.int .u32 0,.int .u32 0,.int .u32 0,.int .u32 0,.int .u32 0,.int .u32 0,.int .u32 0,.int .u32 0,.int .u32 0,.int .u32 0,.int .u32 0,.int .u32 0,.int .u32 0,.int .u32 0,.int .u32 0,.int .u32 0]) rfl ?_
 refine tkv 4 (.pointer (some ⟨nb,0,none⟩)) rfl ?_
 refine tkv 5 (.pointer (some ⟨nb,0,none⟩)) rfl ?_
 refine tkv 6 (.pointer (some ⟨nb,9,none⟩)) rfl ?_
 refine tkv 7 (.pointer (some ⟨nb,9,none⟩)) rfl ?_
 refine tkv 8 (.pointer (some ⟨nb,10,none⟩)) rfl ?_
 refine tkv 9 (.slice A.am 1 A.cm) rfl ?_
 refine rd1 10 rfl λK hK=>?_
 go_simp
 refine (CWI.out _ (Below.refl _ _).drew).mono ?_
 rintro e w1 ⟨rfl,hb1⟩
 refine hK.out _ _ (HS.out _ hb1) (λhHeld=>?_)
 clear hK K
 try simp only [lay]
 refine rd1 11 rfl λK hK=>?_
 go_simp
 refine (CSO.out _ hb1).mono ?_
 rintro e w2 ⟨sa,sc,rfl,hrs,hb2⟩
 refine hK.out _ _ (HS.out _ hb2) (λhHeld=>?_)
 clear hK K
 try simp only [lay]
 refine rd1 12 rfl λK hK=>?_
 go_simp
 refine hK.out _ _ (HS.out _ hb2) (λhHeld=>?_)
 clear hK K
 try simp only [lay]
 refine dn ?_
 go_wp2_with fail
 go_ret
 exact ⟨_,_,rfl,hrs,hb2⟩
end
end Go.Proofs.YtcdpaflmofljaaaGreat
