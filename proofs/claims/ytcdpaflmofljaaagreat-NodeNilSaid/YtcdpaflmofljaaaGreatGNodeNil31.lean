import Derived.Test.YtcdpaflmofljaaaGreatGNodeNil30
/- Parts of the proof of NodeNil: MP2. -/
namespace Go.Proofs.YtcdpaflmofljaaaGreat
open Go.RowKit
theorem with0L {w:World} {a:Option Addr} {c:Nat}:Calls Tryz.prog 91 #[.agg #[.int .u32 0,.int .u32 0,.int .u32 0,.int .u32 0,.int .u32 0,.int .u32 0,.int .u32 0,.int .u32 0,.int .u32 0,.int .u32 0,.int .u32 0,.int .u32 0,.int .u32 0,.int .u32 0,.int .u32 0,.int .u32 0],.slice a 0 c] w λe w'=>e=.returned (.agg #[.int .u32 0,.int .u32 0,.int .u32 0,.int .u32 0,.int .u32 0,.int .u32 0,.int .u32 0,.int .u32 0,.int .u32 0,.int .u32 0,.int .u32 0,.int .u32 0,.int .u32 0,.int .u32 0,.int .u32 0,.int .u32 0])∧Below w.heap.size w w':=zdM (λ_=>0)
theorem rumEq (W:World):(Op.equalIn 10000 92 (.agg #[.int .u32 0,.int .u32 0,.int .u32 0,.int .u32 0,.int .u32 0,.int .u32 0,.int .u32 0,.int .u32 0,.int .u32 0,.int .u32 0,.int .u32 0,.int .u32 0,.int .u32 0,.int .u32 0,.int .u32 0,.int .u32 0]) (.agg #[.int .u32 0,.int .u32 0,.int .u32 0,.int .u32 0,.int .u32 0,.int .u32 0,.int .u32 0,.int .u32 0,.int .u32 0,.int .u32 0,.int .u32 0,.int .u32 0,.int .u32 0,.int .u32 0,.int .u32 0,.int .u32 0])).run Tryz.prog W=.ok true W:=by kernel_rfl
section
variable {w:World} {nb i:Nat} {cs:List Value} {x y:Int} {A:VAd} {V:Zs} {bd:Bnd} {b:PB}
set_option maxRecDepth 100000 in
set_option maxHeartbeats 6400000 in
theorem Ko {a:Option Addr} {c:Nat} (hB:Zc w nb 98 cs) (hN:N1 cs x y i A):Calls Tryz.prog 45 #[.pointer (some ⟨nb,0,none⟩),.slice a 0 c] w λe w'=>e=.returned (.tuple #[])∧Below w.heap.size w w':=by
 have CW:=hid (with0L (w:=w) (a:=a) (c:=c))
 have n25:=hB.cell (hN.ru 0 (by decide))
 have n26:=hB.cell (hN.ru 1 (by decide))
 have n27:=hB.cell (hN.ru 2 (by decide))
 have n28:=hB.cell (hN.ru 3 (by decide))
 have n29:=hB.cell (hN.ru 4 (by decide))
 have n30:=hB.cell (hN.ru 5 (by decide))
 have n31:=hB.cell (hN.ru 6 (by decide))
 have n32:=hB.cell (hN.ru 7 (by decide))
 have n33:=hB.cell (hN.ru 8 (by decide))
 have n34:=hB.cell (hN.ru 9 (by decide))
 have n35:=hB.cell (hN.ru 10 (by decide))
 have n36:=hB.cell (hN.ru 11 (by decide))
 have n37:=hB.cell (hN.ru 12 (by decide))
 have n38:=hB.cell (hN.ru 13 (by decide))
 have n39:=hB.cell (hN.ru 14 (by decide))
 have n40:=hB.cell (hN.ru 15 (by decide))
 have HB:=hid hB
 have HN:=hid hN
 clear hB hN
 go_enter Tryz.func45,Tryz.ntmps45
 go_wp2_with fail
 refine CW.out.mono ?_
 rintro e w2 ⟨rfl,hb2⟩
 clear CW n25 n26 n27 n28 n29 n30 n31 n32 n33 n34 n35 n36 n37 n38 n39 n40
 go_upto_region 1 with fail
 obtain ⟨w3,hw3⟩:∃z,w2.alloc (.cells #[.int .u32 0,.int .u32 0,.int .u32 0,.int .u32 0,.int .u32 0,.int .u32 0,.int .u32 0,.int .u32 0,.int .u32 0,.int .u32 0,.int .u32 0,.int .u32 0,.int .u32 0,.int .u32 0,.int .u32 0,.int .u32 0] 92)=z:=⟨_,rfl⟩
 have hb3:Below w2.heap.size w2 w3:=by rw [←hw3];exact bra
 have hx3:Zc w3 w2.heap.size 92 [.int .u32 0,.int .u32 0,.int .u32 0,.int .u32 0,.int .u32 0,.int .u32 0,.int .u32 0,.int .u32 0,.int .u32 0,.int .u32 0,.int .u32 0,.int .u32 0,.int .u32 0,.int .u32 0,.int .u32 0,.int .u32 0]:=by rw [←hw3];exact Zc.made _ _ _
 try rw [hw3]
 clear hw3
 have hb13:=hb2.trans (hb3.mono hb2.size)
 have HB3:=hid (HB.out.ext hb13)
 have HX3:=hid hx3
 have HW3:=hid hb13
 have HS:Hid (∀W,Below w3.heap.size w3 W→W.cell? ⟨nb,25,none⟩=some (.int .u32 0)∧W.cell? ⟨nb,26,none⟩=some (.int .u32 0)∧W.cell? ⟨nb,27,none⟩=some (.int .u32 0)∧W.cell? ⟨nb,28,none⟩=some (.int .u32 0)∧W.cell? ⟨nb,29,none⟩=some (.int .u32 0)∧W.cell? ⟨nb,30,none⟩=some (.int .u32 0)∧W.cell? ⟨nb,31,none⟩=some (.int .u32 0)∧W.cell? ⟨nb,32,none⟩=some (.int .u32 0)∧W.cell? ⟨nb,33,none⟩=some (.int .u32 0)∧W.cell? ⟨nb,34,none⟩=some (.int .u32 0)∧W.cell? ⟨nb,35,none⟩=some (.int .u32 0)∧W.cell? ⟨nb,36,none⟩=some (.int .u32 0)∧W.cell? ⟨nb,37,none⟩=some (.int .u32 0)∧W.cell? ⟨nb,38,none⟩=some (.int .u32 0)∧W.cell? ⟨nb,39,none⟩=some (.int .u32 0)∧W.cell? ⟨nb,40,none⟩=some (.int .u32 0)∧W.cell? ⟨w2.heap.size,0,none⟩=some (.int .u32 0)∧W.cell? ⟨w2.heap.size,1,none⟩=some (.int .u32 0)∧W.cell? ⟨w2.heap.size,2,none⟩=some (.int .u32 0)∧W.cell? ⟨w2.heap.size,3,none⟩=some (.int .u32 0)∧W.cell? ⟨w2.heap.size,4,none⟩=some (.int .u32 0)∧W.cell? ⟨w2.heap.size,5,none⟩=some (.int .u32 0)∧W.cell? ⟨w2.heap.size,6,none⟩=some (.int .u32 0)∧W.cell? ⟨w2.heap.size,7,none⟩=some (.int .u32 0)∧W.cell? ⟨w2.heap.size,8,none⟩=some (.int .u32 0)∧W.cell? ⟨w2.heap.size,9,none⟩=some (.int .u32 0)∧W.cell? ⟨w2.heap.size,10,none⟩=some (.int .u32 0)∧W.cell? ⟨w2.heap.size,11,none⟩=some (.int .u32 0)∧W.cell? ⟨w2.heap.size,12,none⟩=some (.int .u32 0)∧W.cell? ⟨w2.heap.size,13,none⟩=some (.int .u32 0)∧W.cell? ⟨w2.heap.size,14,none⟩=some (.int .u32 0)∧W.cell? ⟨w2.heap.size,15,none⟩=some (.int .u32 0)):=hid λW hb=>⟨(HB3.out.ext hb).cell (HN.out.ru 0 (by decide)),(HB3.out.ext hb).cell (HN.out.ru 1 (by decide)),(HB3.out.ext hb).cell (HN.out.ru 2 (by decide)),(HB3.out.ext hb).cell (HN.out.ru 3 (by decide)),(HB3.out.ext hb).cell (HN.out.ru 4 (by decide)),(HB3.out.ext hb).cell (HN.out.ru 5 (by decide)),(HB3.out.ext hb).cell (HN.out.ru 6 (by decide)),(HB3.out.ext hb).cell (HN.out.ru 7 (by decide)),(HB3.out.ext hb).cell (HN.out.ru 8 (by decide)),(HB3.out.ext hb).cell (HN.out.ru 9 (by decide)),(HB3.out.ext hb).cell (HN.out.ru 10 (by decide)),(HB3.out.ext hb).cell (HN.out.ru 11 (by decide)),(HB3.out.ext hb).cell (HN.out.ru 12 (by decide)),(HB3.out.ext hb).cell (HN.out.ru 13 (by decide)),(HB3.out.ext hb).cell (HN.out.ru 14 (by decide)),(HB3.out.ext hb).cell (HN.out.ru 15 (by decide)),(HX3.out.ext hb).cell (j:=0) rfl,(HX3.out.ext hb).cell (j:=1) rfl,(HX3.out.ext hb).cell (j:=2) rfl,(HX3.out.ext hb).cell (j:=3) rfl,(HX3.out.ext hb).cell (j:=4) rfl,(HX3.out.ext hb).cell (j:=5) rfl,(HX3.out.ext hb).cell (j:=6) rfl,(HX3.out.ext hb).cell (j:=7) rfl,(HX3.out.ext hb).cell (j:=8) rfl,(HX3.out.ext hb).cell (j:=9) rfl,(HX3.out.ext hb).cell (j:=10) rfl,(HX3.out.ext hb).cell (j:=11) rfl,(HX3.out.ext hb).cell (j:=12) rfl,(HX3.out.ext hb).cell (j:=13) rfl,(HX3.out.ext hb).cell (j:=14) rfl,(HX3.out.ext hb).cell (j:=15) rfl⟩
 clear hb2 hb3 hb13 hx3
 refine rhd HS.out ((Below.refl _ _).drew) λhHeld=>?_
 refine tkv 0 (.agg #[.int .u32 0,.int .u32 0,.int .u32 0,.int .u32 0,.int .u32 0,.int .u32 0,.int .u32 0,.int .u32 0,.int .u32 0,.int .u32 0,.int .u32 0,.int .u32 0,.int .u32 0,.int .u32 0,.int .u32 0,.int .u32 0]) rfl ?_
 refine tkv 1 (.pointer (some ⟨nb,0,none⟩)) rfl ?_
 refine tkv 2 (.pointer (some ⟨nb,0,none⟩)) rfl ?_
 refine tkv 3 (.pointer (some ⟨nb,25,none⟩)) rfl ?_
 refine tkv 4 (.agg #[.int .u32 0,.int .u32 0,.int .u32 0,.int .u32 0,.int .u32 0,.int .u32 0,.int .u32 0,.int .u32 0,.int .u32 0,.int .u32 0,.int .u32 0,.int .u32 0,.int .u32 0,.int .u32 0,.int .u32 0,.int .u32 0]) rfl ?_
 refine tkP 5 (.bool false) rfl ?_ ?_
 ·intro W hSw
  try dsimp only at hSw
  (go_simp;rw [rumEq];rfl)
 try simp only [lay]
 refine dn ?_
 go_wp2_with fail
 exact bodyPost_end (results_none rfl _ _ _) rfl ⟨rfl,HW3.out.trans ((Below.refl _ _).drew.mono HW3.out.size)⟩
end
end Go.Proofs.YtcdpaflmofljaaaGreat
