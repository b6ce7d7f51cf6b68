import Derived.Test.YteodaakdjnjhmaaX35
import Derived.Test.YteodaakdjnjhmaaRA
import Derived.Test.YteodaakdjnjhmaaXO
import Derived.Test.YteodaakdjnjhmaaXL
namespace Go.Proofs.Yteodaakdjnjhmaa
open Go.RowKit

/-! ### ViewBack -/
theorem OwnP.head {w : World} {base : Nat} {v : Value} {xs : List Pid} (h : OwnP w base v xs) (hx : 0 < xs.length) : ∃ g c, v = .slice (some ⟨g, 0, none⟩) xs.length c ∧ base ≤ g ∧ g < w.heap.size ∧ (∃ z : Int, w.cell? ⟨g, 1, none⟩ = some (.int .u32 z)) ∧ w.frozen? ⟨g, 1, none⟩ = false := by
  obtain ⟨a', c', e', hr, -⟩ := h.row
  have hfr : ∀ (g cap : Nat), v = .slice (some ⟨g, 0, none⟩) xs.length cap → w.frozen? ⟨g, 1, none⟩ = false := fun g cap hv => by
    subst hv
    exact World.ownsRow.frozenAt (e := 26) (size := 2) (base := base) (xs := pidCells xs) h 1
  rcases h.2 with ⟨rfl, hn⟩ | ⟨g, cap, cur, rfl, hb, hg, -⟩
  · omega
  · cases e'
    obtain ⟨b, off, x, y, e, -, -, d2⟩ := hr.at (Below.refl _ _) rfl hx
    cases e
    exact ⟨g, _, rfl, hb, (Array.getElem?_eq_some_iff.1 hg).1, ⟨y, by simpa using d2⟩, hfr g _ rfl⟩
theorem OwnLL.head {w : World} {base : Nat} {v : Value} {Ls : List (List Pid)} (h : OwnLL w base v Ls) (hx : 0 < Ls.length) : ∃ g c vi l, v = .slice (some ⟨g, 0, none⟩) Ls.length c ∧ base ≤ g ∧ g < w.heap.size ∧ w.cell? ⟨g, 0, none⟩ = some vi ∧ l ∈ Ls ∧ OwnP w base vi l := by
  obtain ⟨cells, ho, he⟩ := h
  have hcells := fun g => World.ownsRow.cells (g := g) ho
  obtain ⟨vi, h1, h2, -⟩ := he 0 hx
  rcases ho.2 with ⟨rfl, hn⟩ | ⟨g, cap, cur, rfl, hb, hg, -⟩
  · omega
  · have := hcells g rfl 0 _ h1
    rw [addr_add] at this
    exact ⟨g, cap, vi, Ls[0], rfl, hb, (Array.getElem?_eq_some_iff.1 hg).1, by simpa using this, List.getElem_mem _, h2⟩
theorem check_parts {V : View} (h : checkB V = true) : 0 < V.ms.length ∧ 0 < V.ls.length ∧ 0 < V.ds.length ∧ ∀ l ∈ V.ls, 0 < l.length := by
  unfold checkB at h
  simp only [Bool.and_eq_true, decide_eq_true_eq, chkFrom_iff, chkEnd, ris_same, List.nil_append, Nat.zero_add] at h
  obtain ⟨a, b, c, d, e, f, g, h, i⟩ := h
  unfold membersB at c
  rw [memFrom_iff] at c
  have hc := c.1.1
  refine ⟨hc, ?_, List.length_pos_iff.2 h, fun l hl => List.length_pos_iff.2 (d l hl).1⟩
  rcases Nat.eq_zero_or_pos V.ls.length with h0 | h0
  · rw [List.length_eq_zero_iff] at h0
    rw [h0] at e; simp [lens] at e; omega
  · exact h0
theorem ViewR.own {w : World} {b1 b2 b3 : Nat} {V : View} {am al ad : Option Addr} {cm cl cd : Nat} (hm : OwnP w b1 (.slice am V.ms.length cm) V.ms) (hl : OwnLL w b2 (.slice al V.ls.length cl) V.ls) (hd : OwnP w b3 (.slice ad V.ds.length cd) V.ds) {w0 : World} {x y z : Option Addr} (hV : ViewR w0 x y z V) : ViewR w am al ad V := by
  obtain ⟨a1, c1, e1, r1, -⟩ := hm.row
  obtain ⟨a2, c2, e2, r2⟩ := hl.row
  obtain ⟨a3, c3, e3, r3, -⟩ := hd.row
  cases e1; cases e2; cases e3
  exact ⟨r1, r2, r3, hV.lm, hV.ll, hV.ld, hV.le⟩
theorem same_i {V : View} {i : Nat} {am al ad bm bl bd : Option Addr} {cm cl cd em el ed : Nat} {w : World} (hi : V.id = (i : Int)) (hA : ViewR w am al ad V) (hB : ViewR w bm bl bd V) :
   Calls Try.prog 30 #[.agg #[.int .u64 i, .slice am V.ms.length cm, .slice al V.ls.length cl, .slice ad V.ds.length cd], .agg #[.int .u64 i, .slice bm V.ms.length em, .slice bl V.ls.length el, .slice bd V.ds.length ed]] w fun e w' => e = .returned (.bool true) ∧ Below w.heap.size w w' := by
  have := viewSame_is (r := true) (cm := cm) (cl := cl) (cd := cd) (em := em) (el := el) (ed := ed) (hid (sameB_refl V)) hA hB
  rw [hi] at this; exact this
theorem rsame_i {V : View} {i : Nat} {am al ad bm bl bd : Option Addr} {cm cl cd em el ed : Nat} {w : World} (hi : V.id = (i : Int)) (hA : ViewR w am al ad V) (hB : ViewR w bm bl bd V) :
   Calls Try.prog 17 #[.agg #[.int .u64 i, .slice am V.ms.length cm, .slice al V.ls.length cl, .slice ad V.ds.length cd], .agg #[.int .u64 i, .slice bm V.ms.length em, .slice bl V.ls.length el, .slice bd V.ds.length ed]] w fun e w' => e = .returned (.bool true) ∧ Below w.heap.size w w' := by
  have := refSame_is (r := true) (cm := cm) (cl := cl) (cd := cd) (em := em) (el := el) (ed := ed) (hid (sameB_refl V)) hA hB
  rw [hi] at this; exact this
theorem great_i {V : View} {i : Nat} {am al ad : Option Addr} {cm cl cd : Nat} {w : World} {r : Bool} (hi : V.id = (i : Int)) (h : Hid (greatB V = r)) (hV : ViewR w am al ad V) :
   Calls Try.prog 15 #[.agg #[.int .u64 i, .slice am V.ms.length cm, .slice al V.ls.length cl, .slice ad V.ds.length cd]] w fun e w' => e = .returned (.bool r) ∧ Below w.heap.size w w' := by
  have := great_is (cm := cm) (cl := cl) (cd := cd) h hV
  rw [hi] at this; exact this
theorem check_i {V : View} {i : Nat} {am al ad : Option Addr} {cm cl cd : Nat} {w : World} {bm : Bool} {k : Int} (hi : V.id = (i : Int)) (h : Hid (checkB V = bm)) (hk : errB bm = k) (hV : ViewR w am al ad V) (hsum : lens V.ls ≤ 549755813888) :
   Calls Try.prog 19 #[.agg #[.int .u64 i, .slice am V.ms.length cm, .slice al V.ls.length cl, .slice ad V.ds.length cd]] w fun e w' => e = .returned (.int .i64 k) ∧ Below w.heap.size w w' := by
  have := check_is (cm := cm) (cl := cl) (cd := cd) h hk hV hsum
  rw [hi] at this; exact this
set_option maxRecDepth 100000 in
set_option maxHeartbeats 12800000 in
theorem viewBack_law {V : View} {am al ad : Option Addr} {cm cl cd : Nat} {a : Option Addr} {c : Nat} {bs : List Nat} {w : World} (hV : ViewR w am al ad V) (hwf : WfView V) (hrow : ByteRow w a bs) (hby : ∀ b ∈ bs, b < 256) :
    Calls Try.prog 5 #[.agg #[.int .u64 V.id, .slice am V.ms.length cm, .slice al V.ls.length cl, .slice ad V.ds.length cd], .slice a bs.length c] w fun e w' => e = .returned (.bool true) ∧ Below w.heap.size w w' := by
  obtain ⟨i, hi⟩ : ∃ i : Nat, V.id = (i : Int) := ⟨V.id.toNat, by have := hwf.id.1; omega⟩
  have hi64 : i < 18446744073709551616 := by have := hwf.id.2; omega
  rw [hi]
  obtain ⟨n, hn⟩ : ∃ n, bs.length = n := ⟨_, rfl⟩
  have HN := hid hn
  rw [hn]
  have HI := hid hi
  have HROW := hid hrow
  have HBY := hid hby
  have HV := hid hV
  have HWF := hid hwf
  have hB1 : Below w.heap.size w (w.alloc (.cells #[.int .u64 i, .slice am V.ms.length cm, .slice al V.ls.length cl, .slice ad V.ds.length cd] 33)) := (Below.refl _ _).alloc (Nat.le_refl _) _
  have x1 : BoxV (w.alloc (.cells #[.int .u64 i, .slice am V.ms.length cm, .slice al V.ls.length cl, .slice ad V.ds.length cd] 33)) w.heap.size (.int .u64 i) (.slice am V.ms.length cm) (.slice al V.ls.length cl) (.slice ad V.ds.length cd) := BoxV.made _ _ _ _ _ _
  have X1 := hid x1
  have HB1 := hid hB1
  obtain ⟨g, hg⟩ : ∃ r, greatB V = r := ⟨_, rfl⟩
  have G1 := hid (great_i (cm := cm) (cl := cl) (cd := cd) hi (hid hg) (hV.ext hB1))
  have HG := hid hg
  have AW : Hid (∀ W, Below w.heap.size w W → Calls Try.prog 14 #[] W fun e w' => e = .returned (.bool true) ∧ Below w.heap.size w w') := hid fun W h => relB h (awake_any W)
  obtain ⟨y0, y1, y2, y3, -, -, -, -⟩ := id x1
  clear hi hrow hby hV hwf x1 hB1 hg hn
  go_enter Try.func5, Try.ntmps5
  go_wp2_with fail
  refine G1.out.mono ?_
  rintro e w2 ⟨rfl, hb2⟩
  have HB2 := hid (HB1.out.trans (hb2.mono HB1.out.size))
  have X2 := hid (X1.out.ext hb2)
  clear G1 y0 y1 y2 y3 hb2
  cases g
  case true =>
    go_wp2_with fail
    refine (AW.out _ HB2.out).mono ?_
    rintro e w3 ⟨rfl, hb3⟩
    go_wp2
    go_ret
    exact ⟨rfl, hb3⟩
  case false =>
  by_cases hbig : 2000 < n
  · have t1 : decide ((n : Int) > 2000) = true := by simp <;> omega
    have t2 : decide ((2000 : Int) < n) = true := by simp <;> omega
    have t3 : decide (2000 < n) = true := by simpa using hbig
    clear hbig
    go_wp2_with fail
    refine (AW.out _ HB2.out).mono ?_
    rintro e w3 ⟨rfl, hb3⟩
    go_wp2
    go_ret
    exact ⟨rfl, hb3⟩
  have t1 : decide ((n : Int) > 2000) = false := by simp <;> omega
  have t2 : decide ((2000 : Int) < n) = false := by simp <;> omega
  have t3 : decide (2000 < n) = false := by simpa using hbig
  have HNB := hid (show n ≤ 2000 by omega)
  obtain ⟨gm, gl, gd, gle, gsum⟩ := great_no HG.out
  have HSUM := hid gsum
  have HVR : Hid (∀ W, Below w.heap.size w W → ViewR W am al ad V) := hid fun W h => HV.out.ext h
  have CC := hid (viewCopy_any (cm := cm) (cl := cl) (cd := cd) HI.out (HVR.out _ HB2.out) (by omega) (by omega) (by omega) (fun l hl => by have := gle l hl; omega))
  obtain ⟨y0, y1, y2, y3, -, -, -, -⟩ := X2.out
  clear hbig gm gl gd gle gsum
  go_wp2_with fail
  refine CC.out.mono ?_
  rintro e w3 ⟨vm, vl, vd, Bc, rfl, hom, hol, hod, hbm, hbd, hnn, hbc, hb3⟩
  obtain ⟨a4, k4, e4, -, -⟩ := hom.row
  obtain ⟨a5, k5, e5, -⟩ := hol.row
  obtain ⟨a6, k6, e6, -, -⟩ := hod.row
  subst e4; subst e5; subst e6
  have HB3 := hid (HB2.out.trans (hb3.mono HB2.out.size))
  have x3 := X2.out.ext hb3
  have hq := (Below.refl w3.heap.size w3).alloc (Nat.le_refl _) (.cells #[.int .u64 i, .slice a4 V.ms.length k4, .slice a5 V.ls.length k5, .slice a6 V.ds.length k6] 33)
  have hB5 : Below w.heap.size w (w3.alloc (.cells #[.int .u64 i, .slice a4 V.ms.length k4, .slice a5 V.ls.length k5, .slice a6 V.ds.length k6] 33)) := HB3.out.trans (hq.mono HB3.out.size)
  have x5 : BoxV (w3.alloc (.cells #[.int .u64 i, .slice a4 V.ms.length k4, .slice a5 V.ls.length k5, .slice a6 V.ds.length k6] 33)) w3.heap.size (.int .u64 i) (.slice a4 V.ms.length k4) (.slice a5 V.ls.length k5) (.slice a6 V.ds.length k6) := BoxV.made _ _ _ _ _ _
  have hx15 := x3.ext hq
  have hom5 := hom.ext hq
  have hol5 := hol.ext hq
  have hod5 := hod.ext hq
  have S1 := hid (same_i (cm := k4) (cl := k5) (cd := k6) (em := cm) (el := cl) (ed := cd) HI.out (ViewR.own hom5 hol5 hod5 HV.out) (HVR.out _ hB5))
  obtain ⟨w5, hw5⟩ : ∃ w5, w3.alloc (.cells #[.int .u64 i, .slice a4 V.ms.length k4, .slice a5 V.ls.length k5, .slice a6 V.ds.length k6] 33) = w5 := ⟨_, rfl⟩
  obtain ⟨z0, z1, z2, z3, -, -, -, -⟩ := id x5
  obtain ⟨u0, u1, u2, u3, -, -, -, -⟩ := id hx15
  have HO3 := hid (And.intro hom (And.intro hol hod))
  have HBN3 := hid (And.intro hbm (And.intro hbd hnn))
  have HZ : Hid (w.heap.size < w2.heap.size ∧ w2.heap.size ≤ w3.heap.size ∧ w5.heap.size = w3.heap.size + 1) := hid ⟨X2.out.lt, hb3.size, by rw [← hw5]; simp⟩
  have HW5 := hid hw5
  rw [hw5] at hq x5 hx15 hom5 hol5 hod5 hB5
  have X5 := hid x5
  have X15 := hid hx15
  have OM5 := hid hom5
  have OL5 := hid hol5
  have OD5 := hid hod5
  have HB5 := hid hB5
  have HB35 := hid hq
  have HBC := hid hbc
  clear CC y0 y1 y2 y3 hom hol hod hbm hbd hnn hbc hb3 x3 hq hB5 x5 hx15 hom5 hol5 hod5 hw5 HB2 X2
  go_wp2_with fail
  refine S1.out.mono ?_
  rintro e w6 ⟨rfl, hb6⟩
  rw [HW5.out] at hb6
  have HB6 := hid hb6
  have x56 := X5.out.ext hb6
  have x16 := X15.out.ext hb6
  have S2 := hid (rsame_i (cm := k4) (cl := k5) (cd := k6) (em := cm) (el := cl) (ed := cd) HI.out (ViewR.own (OM5.out.ext hb6) (OL5.out.ext hb6) (OD5.out.ext hb6) HV.out) (HVR.out _ (HB5.out.trans (hb6.mono HB5.out.size))))
  clear S1 z0 z1 z2 z3 u0 u1 u2 u3 hb6 HW5
  obtain ⟨z0, z1, z2, z3, -, -, -, -⟩ := x56
  obtain ⟨u0, u1, u2, u3, -, -, -, -⟩ := x16
  go_wp2_with fail
  refine S2.out.mono ?_
  rintro e w7 ⟨rfl, hb7⟩
  have hb57 := HB6.out.trans (hb7.mono HB6.out.size)
  have hbw7 := HB5.out.trans (hb57.mono HB5.out.size)
  have x17 := X15.out.ext hb57
  obtain ⟨ck, hck⟩ : ∃ r, checkB V = r := ⟨_, rfl⟩
  have C1 := hid (check_i (k := errB ck) (cm := cm) (cl := cl) (cd := cd) HI.out (hid hck) rfl (HVR.out _ hbw7) (by have := HSUM.out; omega))
  have HB57 := hid hb57
  have HCK := hid hck
  clear S2 z0 z1 z2 z3 u0 u1 u2 u3 hb7 hb57 hbw7 hck
  obtain ⟨u0, u1, u2, u3, -, -, -, -⟩ := x17
  go_wp2_with fail
  refine C1.out.mono ?_
  rintro e w8 ⟨rfl, hb8⟩
  have hb58 := HB57.out.trans (hb8.mono HB57.out.size)
  have hbw8 := HB5.out.trans (hb58.mono HB5.out.size)
  clear C1 u0 u1 u2 u3 HB57 HB6
  cases ck
  case false =>
    have te : errB false = 1 := rfl
    rw [te]
    have AW8 := hid (AW.out _ hbw8)
    go_wp2_with fail
    refine AW8.out.mono ?_
    rintro e w9 ⟨rfl, hb9⟩
    go_wp2
    go_ret
    exact ⟨rfl, hb9⟩
  case true =>
  have te : errB true = 0 := rfl
  rw [te]
  have hL := laid_of_check HWF.out.ms HCK.out
  obtain ⟨pm, pl, pd, ple⟩ := check_parts HCK.out
  have x18 := X15.out.ext hb58
  have hq8 := (Below.refl w8.heap.size w8).alloc (Nat.le_refl _) (.cells #[.slice none 0 0] 48)
  have P := viewPut_any (cm := cm) (cl := cl) (cd := cd) HI.out hi64 (WrIs.made w8 48) (by simp) (HVR.out _ hbw8) hq8 (Nat.le_refl _) HWF.out.ms (by have := hL.lm; omega) (by have := hL.ll; omega) (by have := hL.ld.2; omega) (fun l hl => by have := (hL.le l hl).2; omega) (by have := HSUM.out; omega) HCK.out
  rw [List.nil_append] at P
  have HP := hid P
  have HL := hid hL
  have HPP := hid (And.intro pm (And.intro pl (And.intro pd ple)))
  obtain ⟨u0, u1, u2, u3, -, -, -, -⟩ := x18.ext hq8
  have HB58 := hid hb58
  have HBW8 := hid hbw8
  clear P hL pm pl pd ple x18 hq8 hb58 hbw8 hb8 te
  go_wp2_with fail
  refine HP.out.mono ?_
  rintro e w9 ⟨rfl, v9, hw9⟩
  have hb89 : Below w8.heap.size w8 w9 := ((Below.refl w8.heap.size w8).alloc (Nat.le_refl _) (.cells #[.slice none 0 0] 48)).trans (hw9.mt.below (by simp) (fun k e => by rw [e]; exact Nat.le_refl _))
  have hvl := viewF_small HL.out
  have D := hid (wDone_any hw9.wr (by omega))
  have HB59 := hid (HB58.out.trans (hb89.mono HB58.out.size))
  clear HP u0 u1 u2 u3 hw9 hb89
  go_wp2_with fail
  refine D.out.mono ?_
  rintro e w10 ⟨v10, rfl, hown10, hb10⟩
  have hb510 := HB59.out.trans (hb10.mono HB59.out.size)
  have HR10 := hid (HROW.out.ext (HB5.out.trans (hb510.mono HB5.out.size)))
  have HOWN10 := hid hown10
  have HB10 := hid hb10
  clear D hown10 hb10 hb510
  obtain ⟨F, hF⟩ : ∃ F, viewF V = F := ⟨_, rfl⟩
  obtain ⟨E, hE⟩ : ∃ E, F ++ bs = E := ⟨_, rfl⟩
  obtain ⟨NE, hNE⟩ : ∃ NE, E.length = NE := ⟨_, rfl⟩
  rw [hF] at HOWN10 hvl
  have hNEl : NE ≤ 300000 := by rw [← hNE, ← hE, List.length_append, HN.out]; have := HNB.out; omega
  have HNE := hid hNE
  have HE := hid hE
  have HF := hid hF
  have hEb : ∀ b ∈ E, b < 256 := by
    rw [← hE, ← hF]
    intro b hb
    rcases List.mem_append.1 hb with h | h
    · exact viewF_byte b h
    · exact HBY.out b h
  have HEB := hid hEb
  have hRV : Hid (rView ⟨E, 0⟩ = (V, ⟨bs, 0⟩)) := hid (by rw [← hE, ← hF]; exact rView_back HL.out ((check_eq V HWF.out.ms).symm.trans HCK.out) bs)
  clear hF hE hNE hEb
  go_wp2_with (at_builtin; refine wpList_appendB HOWN10.out HR10.out HN (by have := HNB.out; omega) HB10.out.size rfl rfl rfl rfl ?_; intro v11 w11 hown11 hg11 hat11; rw [HE.out] at hown11; obtain ⟨a11, k11, he11, hr11, -⟩ := hown11.row; subst he11; rw [HNE.out]; have hb911 := below_of_grown HB10.out hg11 HOWN10.out HB10.out.size (Nat.le_refl _); clear hat11)
  have RD := hid (read_any (c := k11) HNE (by omega) HEB.out hr11)
  have HB511 := hid (HB59.out.trans (hb911.mono HB59.out.size))
  clear hown11 hg11 hb911 hr11
  go_wp2_with fail
  refine RD.out.mono ?_
  rintro e w12 ⟨s12, rfl, hs12, ⟨a12, c12, hR12⟩, hb12⟩
  have GT := viewGet_any hR12
  rw [hRV.out] at GT
  simp only at GT
  rw [HI.out] at GT
  have HGT := hid GT
  have HS12 : Hid (w5.heap.size ≤ s12 ∧ s12 < w12.heap.size) := hid ⟨by have := HB511.out.size; omega, hR12.lt⟩
  have HB512 := hid (HB511.out.trans (hb12.mono HB511.out.size))
  clear RD GT hR12 hb12 hs12 HB511 HB59
  go_wp2_with fail
  refine HGT.out.mono ?_
  rintro e w13 ⟨xm, xl, xd, rfl, hxm, hxl, hxd, ⟨a13, c13, hR13⟩, hM13⟩
  obtain ⟨a14, k14, e14, -, -⟩ := hxm.row
  obtain ⟨a15, k15, e15, -⟩ := hxl.row
  obtain ⟨a16, k16, e16, -, -⟩ := hxd.row
  subst e14; subst e15; subst e16
  have hb513 : Below w5.heap.size w5 w13 := HB512.out.trans (hM13.below HB512.out.size (fun k e => by rw [e]; exact HS12.out.1))
  have hq := (Below.refl w13.heap.size w13).alloc (Nat.le_refl _) (.cells #[.int .u64 i, .slice a14 V.ms.length k14, .slice a15 V.ls.length k15, .slice a16 V.ds.length k16] 33)
  have hb514 := hb513.trans (hq.mono hb513.size)
  have x8 : BoxV (w13.alloc (.cells #[.int .u64 i, .slice a14 V.ms.length k14, .slice a15 V.ls.length k15, .slice a16 V.ds.length k16] 33)) w13.heap.size (.int .u64 i) (.slice a14 V.ms.length k14) (.slice a15 V.ls.length k15) (.slice a16 V.ds.length k16) := BoxV.made _ _ _ _ _ _
  have S3 := hid (rsame_i (cm := k14) (cl := k15) (cd := k16) (em := cm) (el := cl) (ed := cd) HI.out (ViewR.own (hxm.ext hq) (hxl.ext hq) (hxd.ext hq) HV.out) (HVR.out _ (HB5.out.trans (hb514.mono HB5.out.size))))
  obtain ⟨z0, z1, z2, z3, -, -, -, -⟩ := id x8
  obtain ⟨u0, u1, u2, u3, -, -, -, -⟩ := X15.out.ext hb514
  have X8 := hid x8
  have HX := hid (And.intro (hxm.ext hq) (And.intro (hxl.ext hq) (hxd.ext hq)))
  have HR14 := hid (hR13.ext hq)
  have HB514 := hid hb514
  have HSZ : Hid (w12.heap.size ≤ w13.heap.size) := hid hM13.size
  clear HGT hxm hxl hxd hR13 hM13 hb513 hq hb514 x8
  go_wp2_with fail
  refine S3.out.mono ?_
  rintro e w15 ⟨rfl, hb15⟩
  have hR15 := HR14.out.ext hb15
  have LF := rLeft_any hR15
  simp only at LF
  rw [HN.out] at LF
  have HLF := hid LF
  have ER := hid (rErr_0 hR15 rfl)
  have X8 := hid (X8.out.ext hb15)
  have HB515 := hid (HB514.out.trans (hb15.mono HB514.out.size))
  have HX := hid (And.intro (HX.out.1.ext hb15) (And.intro (HX.out.2.1.ext hb15) (HX.out.2.2.ext hb15)))
  have tn : ((n : Int) != (n : Int)) = false := by simp
  clear S3 z0 z1 z2 z3 u0 u1 u2 u3 LF hR15 hb15
  go_wp2_with fail
  refine HLF.out.mono ?_
  rintro e w16 ⟨rfl, rfl⟩
  go_wp2_with fail
  refine ER.out.mono ?_
  rintro e w17 ⟨rfl, rfl⟩
  clear HLF ER tn
  obtain ⟨hom, hol, hod⟩ := HO3.out
  obtain ⟨gm, km, em, gm1, gm2, ⟨zm, cm1⟩, fm⟩ := hom.head HPP.out.1
  obtain ⟨gd, kd, ed, gd1, gd2, ⟨zd, cd1⟩, fd⟩ := hod.head HPP.out.2.2.1
  obtain ⟨gl, kl, vi, l0, el, gl1, gl2, cl0, hl0, hoe⟩ := hol.head HPP.out.2.1
  have hl0p := HPP.out.2.2.2 l0 hl0
  obtain ⟨ge, ke, ee, ge1, ge2, ⟨ze, ce1⟩, fe⟩ := hoe.head hl0p
  cases em; cases ed; cases el; subst ee
  have hbn := HBN3.out
  have n1 := hbn.1 gm rfl
  have n2 := hbn.2.1 gd rfl
  have n3 : gd ≠ gm := fun e => hbn.2.2 gm rfl (by rw [← e]; rfl)
  have hb315 := HB35.out.trans (HB515.out.mono HB35.out.size)
  have hz := HZ.out
  have hz2 := HS12.out
  have hz3 := HSZ.out
  have k1 := cell_toB cm1 hb315
  have k2 := cell_toB cd1 hb315
  have k3 := cell_toB cl0 hb315
  have k4' := cell_toB ce1 hb315
  have q1 : w15.frozen? ⟨gm, 1, none⟩ = false := (hb315.frozen (by exact gm2)).trans fm
  have q2 : w15.frozen? ⟨gd, 1, none⟩ = false := (hb315.frozen (by exact gd2)).trans fd
  have q3 : w15.frozen? ⟨ge, 1, none⟩ = false := (hb315.frozen (by exact ge2)).trans fe
  obtain ⟨z0, z1, z2, z3, -, -, -, -⟩ := X5.out.ext HB515.out
  have m1 : gm ≠ w3.heap.size := by omega
  have m1' : w3.heap.size ≠ gm := by omega
  have m2 : gd ≠ w3.heap.size := by omega
  have m2' : w3.heap.size ≠ gd := by omega
  have m3 : gm ≠ gd := by omega
  have m4 : gm ≠ gl := by omega
  have m5 : gd ≠ gl := by omega
  have m6 : gm ≠ ge := by omega
  have m7 : gd ≠ ge := by omega
  have m4' : gl ≠ gm := by omega
  have m5' : gl ≠ gd := by omega
  have m6' : ge ≠ gm := by omega
  have m7' : ge ≠ gd := by omega
  have p1 := HPP.out.1
  have p2 := HPP.out.2.1
  have p3 := HPP.out.2.2.1
  have hm : Mut (fun k => k = gm ∨ k = gd ∨ k = ge) w15 (((w15.setCell ⟨gm, 1, none⟩ (.int .u32 ((zm + 1) % 4294967296))).setCell ⟨gd, 1, none⟩ (.int .u32 ((zd + 1) % 4294967296))).setCell ⟨ge, 1, none⟩ (.int .u32 ((ze + 1) % 4294967296))) := by
    exact ((mut1.mono (fun k _ e => .inl e)).trans (mut1.mono (fun k _ e => .inr (.inl e)))).trans (mut1.mono (fun k _ e => .inr (.inr e)))
  have hlt3 : ∀ k, (k = gm ∨ k = gd ∨ k = ge) → w2.heap.size ≤ k ∧ k < w3.heap.size := fun k e => by
    have := HBC.out
    rcases e with e | e | e <;> omega
  have hsz5 := HB515.out.size
  have hw13 : w5.heap.size ≤ w13.heap.size := by omega
  have x8s := X8.out.mutT hm (fun e => by have := hlt3 _ e; omega)
  have x1s := (X15.out.ext HB515.out).mutT hm (fun e => by have := hlt3 _ e; omega)
  have hbs := HB5.out.trans (HB515.out.mono HB5.out.size)
  have hbws : Below w.heap.size w (((w15.setCell ⟨gm, 1, none⟩ (.int .u32 ((zm + 1) % 4294967296))).setCell ⟨gd, 1, none⟩ (.int .u32 ((zd + 1) % 4294967296))).setCell ⟨ge, 1, none⟩ (.int .u32 ((ze + 1) % 4294967296))) := below_set (below_set (below_set hbs (by have := hlt3 gm (.inl rfl); omega)) (by have := hlt3 gd (.inr (.inl rfl)); omega)) (by have := hlt3 ge (.inr (.inr rfl)); omega)
  have S4 := hid (rsame_i (cm := k14) (cl := k15) (cd := k16) (em := cm) (el := cl) (ed := cd) HI.out (ViewR.own (HX.out.1.mutT hm (fun k e => by have := hlt3 _ e; omega)) (HX.out.2.1.mutT hm (fun k e => by have := hlt3 _ e; omega)) (HX.out.2.2.mutT hm (fun k e => by have := hlt3 _ e; omega)) HV.out) (HVR.out _ hbws))
  obtain ⟨r0, r1, r2, r3, -, -, -, -⟩ := x8s
  obtain ⟨u0, u1, u2, u3, -, -, -, -⟩ := x1s
  have HBWS := hid hbws
  clear hm hlt3 hbs hbws hsz5 hw13 hbn hom hol hod hoe hb315
  go_wp2_with fail
  refine S4.out.mono ?_
  rintro e w18 ⟨rfl, hb18⟩
  have AW18 := hid (AW.out _ (HBWS.out.trans (hb18.mono HBWS.out.size)))
  clear S4 r0 r1 r2 r3 u0 u1 u2 u3 z0 z1 z2 z3 k1 k2 k3 k4' q1 q2 q3
  go_wp2_with fail
  refine AW18.out.mono ?_
  rintro e w19 ⟨rfl, hb19⟩
  go_wp2
  go_ret
  exact ⟨rfl, hb19⟩
end Go.Proofs.Yteodaakdjnjhmaa
