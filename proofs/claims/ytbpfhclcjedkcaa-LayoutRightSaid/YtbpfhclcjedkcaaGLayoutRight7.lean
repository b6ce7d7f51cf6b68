/- Parts of the proof: X108 X109 X110 X111 X113 XK. -/
import Derived.Test.YtbpfhclcjedkcaaGLayoutRight6
namespace Go.Proofs.Ytbpfhclcjedkcaa
open Go.RowKit
/-! ### layout: Next -/
structure TriBox (W3 w : World) (b : Bnd) (V : View) (am al ad : Option Addr) (cm cl cd : Nat) : Prop where
  bl : Below w.heap.size w W3
  sz : W3.heap.size = w.heap.size + 1 + 1 + 1
  vw : ViewBox W3 w.heap.size V am al ad cm cl cd
  bx : BndBox W3 (w.heap.size + 1) b
  vx : BoxV W3 (w.heap.size + 1 + 1) (.int .u64 0) (.slice none 0 0) (.slice none 0 0) (.slice none 0 0)
theorem TriBox.made (w : World) (b : Bnd) (V : View) (am al ad : Option Addr) (cm cl cd : Nat) : TriBox (((w.alloc (.cells #[.int .u64 V.id, .slice am V.ms.length cm, .slice al V.ls.length cl, .slice ad V.ds.length cd] 33)).alloc (.cells #[.int .i64 b.least, .int .i64 b.most, .int .i64 b.tmo] 117)).alloc (.cells #[.int .u64 0, .slice none 0 0, .slice none 0 0, .slice none 0 0] 33)) w b V am al ad cm cl cd := by
  have e : ∀ (W : World) (o : Obj), Below W.heap.size W (W.alloc o) := fun W o => (Below.refl _ _).alloc (Nat.le_refl _) _
  obtain ⟨X1, h1⟩ : ∃ X, w.alloc (.cells #[.int .u64 V.id, .slice am V.ms.length cm, .slice al V.ls.length cl, .slice ad V.ds.length cd] 33) = X := ⟨_, rfl⟩
  have s1 : X1.heap.size = w.heap.size + 1 := by rw [← h1]; simp
  have b1 : Below w.heap.size w X1 := by rw [← h1]; exact e _ _
  have v1 : ViewBox X1 w.heap.size V am al ad cm cl cd := by rw [← h1]; exact ViewBox.made (V := V) w
  rw [h1]
  obtain ⟨X2, h2⟩ : ∃ X, X1.alloc (.cells #[.int .i64 b.least, .int .i64 b.most, .int .i64 b.tmo] 117) = X := ⟨_, rfl⟩
  have s2 : X2.heap.size = w.heap.size + 1 + 1 := by rw [← h2]; simp [s1]
  have b2 : Below X1.heap.size X1 X2 := by rw [← h2]; exact e _ _
  have v2 : BndBox X2 (w.heap.size + 1) b := by rw [← h2, ← s1]; exact BndBox.made X1
  rw [h2]
  refine ⟨(b1.trans (b2.mono b1.size)).trans ((e _ _).mono (by omega)), by simp [s2], (v1.ext b2 v1.lt).ext (e _ _) (by omega), v2.ext (e _ _) v2.lt, ?_⟩
  rw [← s2]
  exact BoxV.made X2 _ _ _ _ _
theorem TriBox.ext {W3 w W : World} {b : Bnd} {V : View} {am al ad : Option Addr} {cm cl cd : Nat} (h : TriBox W3 w b V am al ad cm cl cd) (hb : Below W3.heap.size W3 W) : ViewBox W w.heap.size V am al ad cm cl cd ∧ BndBox W (w.heap.size + 1) b ∧ BoxV W (w.heap.size + 1 + 1) (.int .u64 0) (.slice none 0 0) (.slice none 0 0) (.slice none 0 0) ∧ Below w.heap.size w W :=
  ⟨h.vw.ext hb h.vw.lt, h.bx.ext hb h.bx.lt, h.vx.ext hb, h.bl.trans (hb.mono h.bl.size)⟩
theorem leaves_succ {ls : LL} {gone : List Pid} {k : Nat} (h : k < ls.length) {l : List Pid} (hl : l = ls[k]) : leavesV (ls.take (k + 1)) gone = leavesV (ls.take k) gone ++ (if (minusP l gone).isEmpty = true then [] else [minusP l gone]) := by
  unfold leavesV
  rw [List.take_succ_eq_append_getElem h, List.map_append, List.filter_append, ← hl]
  congr 1
  simp only [List.map_cons, List.map_nil, List.filter_cons, List.filter_nil]
  cases (minusP l gone).isEmpty <;> rfl
theorem minus_n {a b : Option Addr} {c d n m : Nat} {xs ys r : List Pid} {w : World} (hr : Hid (minusP xs ys = r)) (hn : Hid (xs.length = n)) (hm : Hid (ys.length = m)) (hn6 : n ≤ 1000) (hm6 : m ≤ 1000) (hx : PidRow w a xs) (hy : PidRow w b ys) :
    Calls Try.prog 142 #[.slice a n c, .slice b m d] w fun e w' => ∃ v, e = .returned v ∧ OwnP w' w.heap.size v r ∧ Below w.heap.size w w' := by
  have h1 := hn.out
  have h2 := hm.out
  subst h1; subst h2
  rw [← hr.out]
  exact minus_any a c xs b d ys w (by omega) (by omega) hx hy
theorem minus_le (xs ys : List Pid) : (minusP xs ys).length ≤ xs.length := List.length_filter_le _ _
set_option maxRecDepth 100000 in
set_option maxHeartbeats 12800000 in
theorem next_any {V V2 : View} {gone come : List Pid} {b : Bnd} {am al ad ag ac : Option Addr} {cm cl cd kg kc G C : Nat} {er : Int} {w : World} (hN : Hid (nextV V gone come b = (V2, er))) (hV : ViewR w am al ad V) (hwf : WfView V) (hgr : greatB V = false) (hGn : Hid (gone.length = G)) (hCn : Hid (come.length = C)) (hG : G ≤ 1000) (hC : C ≤ 1000) (hrg : PidRow w ag gone) (hrc : PidRow w ac come) (hokc : ∀ p ∈ come, ok p) (hbo : BndOk b) :
    Calls Try.prog 72 #[.agg #[.int .u64 V.id, .slice am V.ms.length cm, .slice al V.ls.length cl, .slice ad V.ds.length cd], .slice ag G kg, .slice ac C kc, .agg #[.int .i64 b.least, .int .i64 b.most, .int .i64 b.tmo]] w fun e w' => BuildRes V2 er w.heap.size (fun _ => False) w e w' := by
  obtain ⟨W3, hW3⟩ : ∃ W3, (((w.alloc (.cells #[.int .u64 V.id, .slice am V.ms.length cm, .slice al V.ls.length cl, .slice ad V.ds.length cd] 33)).alloc (.cells #[.int .i64 b.least, .int .i64 b.most, .int .i64 b.tmo] 117)).alloc (.cells #[.int .u64 0, .slice none 0 0, .slice none 0 0, .slice none 0 0] 33)) = W3 := ⟨_, rfl⟩
  have hT : TriBox W3 w b V am al ad cm cl cd := by rw [← hW3]; exact TriBox.made w b V am al ad cm cl cd
  obtain ⟨gm, gl, gd, gle, gsum⟩ := great_noC hgr
  obtain ⟨rv, hrv⟩ : ∃ r, checkB V = r := ⟨_, rfl⟩
  obtain ⟨rb, hrb⟩ : ∃ r, bchk b = r := ⟨_, rfl⟩
  obtain ⟨rm, hrm⟩ : ∃ r, mayAll come = r := ⟨_, rfl⟩
  obtain ⟨kv, hkv⟩ : ∃ k, errB rv = k := ⟨_, rfl⟩
  obtain ⟨kb, hkb⟩ : ∃ k, chkL rb = k := ⟨_, rfl⟩
  have C1 := hid (check_is (cm := cm) (cl := cl) (cd := cd) (hid hrv) hkv (hV.ext hT.bl) (by omega))
  have CB1 : Hid (∀ X, Below W3.heap.size W3 X → Calls Try.prog 163 #[.agg #[.int .i64 b.least, .int .i64 b.most, .int .i64 b.tmo]] X fun e w' => e = .returned (.int .i64 kb) ∧ Below X.heap.size X w') := hid fun X _ => lcheck_is (hid hrb) hkb hbo
  have CM1 : Hid (∀ X, Below W3.heap.size W3 X → Calls Try.prog 164 #[.slice ac C kc] X fun e w' => e = .returned (.bool rm) ∧ Below X.heap.size X w') := hid fun X h => lmay_any (hid hrm) hCn (by omega) ((hrc.ext hT.bl).ext h)
  have HT := hid hT
  have HV := hid hV
  have HWF := hid hwf
  have HRG := hid hrg
  have HRC := hid hrc
  have HOKC := hid hokc
  have HGM := hid gm
  have HGL := hid gl
  have HGLE := hid gle
  have HRV := hid hrv
  have HRB := hid hrb
  have HRM := hid hrm
  have HW3 := hid hW3
  obtain ⟨v0, v1, v2, v3⟩ := id hT.vw
  have t00 : ((0 : Int) != 0) = false := by decide
  have t11 : ((1 : Int) != 0) = true := by decide
  have hzero : ∀ (e : Int) (W : World), Below W3.heap.size W3 W → BuildRes zeroV e w.heap.size (fun _ => False) w (.returned (.tuple #[.agg #[.int .u64 0, .slice none 0 0, .slice none 0 0, .slice none 0 0], .int .i64 e])) ((((W.setCell ⟨w.heap.size + 1 + 1, 0, none⟩ (.int .u64 0)).setCell ⟨w.heap.size + 1 + 1, 1, none⟩ (.slice none 0 0)).setCell ⟨w.heap.size + 1 + 1, 2, none⟩ (.slice none 0 0)).setCell ⟨w.heap.size + 1 + 1, 3, none⟩ (.slice none 0 0)) := fun e W h => BuildRes.zero (Mut.of_below (below_put4 (hT.ext h).2.2.2 (by omega)))
  have HZ := hid hzero
  clear hT hV hwf hgr hrg hrc hokc gm gl gd gle gsum hrv hrb hrm hzero
  cases rv
  case false =>
    have hk : kv = 1 := hkv.symm
    subst hk
    have hv : (zeroV, (1 : Int)) = (V2, er) := by rw [← hN.out]; unfold nextV; rw [if_pos (.inl HRV.out)]
    obtain ⟨rfl, rfl⟩ : zeroV = V2 ∧ 1 = er := by simpa using hv
    clear hN hv CB1 CM1
    go_enter Try.func72, Try.ntmps72
    go_wp2_with fail
    (with_reducible refine C1.out.mono ?_)
    rintro e w4 ⟨rfl, hb4⟩
    obtain ⟨d0, d1, d2, d3, g0, g1, g2, g3⟩ := (HT.out.ext hb4).2.2.1
    have DD := hid ((HT.out.ext hb4).2.2.1.put (.int .u64 0) (.slice none 0 0) (.slice none 0 0) (.slice none 0 0))
    have HR := hid (HZ.out 1 _ hb4)
    clear hb4 C1 v0 v1 v2 v3 hW3
    go_wp2_with fail
    obtain ⟨q0, q1, q2, q3, -, -, -, -⟩ := DD.out
    exact bodyPost_ret (v := .tuple #[.agg #[.int .u64 0, .slice none 0 0, .slice none 0 0, .slice none 0 0], .int .i64 1]) (by simp [results, Try.results72, go_sem, q0, q1, q2, q3]) rfl HR.out
  case true =>
  have hk : kv = 0 := hkv.symm
  subst hk
  cases rb
  case false =>
    have hk : kb = 1 := hkb.symm
    subst hk
    have hv : (zeroV, (1 : Int)) = (V2, er) := by rw [← hN.out]; unfold nextV; rw [if_pos (.inr (.inl HRB.out))]
    obtain ⟨rfl, rfl⟩ : zeroV = V2 ∧ 1 = er := by simpa using hv
    clear hN hv CM1
    go_enter Try.func72, Try.ntmps72
    go_wp2_with fail
    (with_reducible refine C1.out.mono ?_)
    rintro e w4 ⟨rfl, hb4⟩
    have CBw := CB1.out _ hb4
    obtain ⟨b0, b1, b2⟩ := (HT.out.ext hb4).2.1
    clear C1 v0 v1 v2 v3 hW3 CB1
    go_wp2_with fail
    (with_reducible refine CBw.mono ?_)
    rintro e w5 ⟨rfl, hb5⟩
    have hb45 := hb4.trans (hb5.mono hb4.size)
    obtain ⟨d0, d1, d2, d3, g0, g1, g2, g3⟩ := (HT.out.ext hb45).2.2.1
    have DD := hid ((HT.out.ext hb45).2.2.1.put (.int .u64 0) (.slice none 0 0) (.slice none 0 0) (.slice none 0 0))
    have HR := hid (HZ.out 1 _ hb45)
    clear hb4 hb5 hb45 CBw b0 b1 b2
    go_wp2_with fail
    obtain ⟨q0, q1, q2, q3, -, -, -, -⟩ := DD.out
    exact bodyPost_ret (v := .tuple #[.agg #[.int .u64 0, .slice none 0 0, .slice none 0 0, .slice none 0 0], .int .i64 1]) (by simp [results, Try.results72, go_sem, q0, q1, q2, q3]) rfl HR.out
  case true =>
  have hk : kb = 0 := hkb.symm
  subst hk
  cases rm
  case false =>
    have hv : (zeroV, (1 : Int)) = (V2, er) := by rw [← hN.out]; unfold nextV; rw [if_pos (.inr (.inr HRM.out))]
    obtain ⟨rfl, rfl⟩ : zeroV = V2 ∧ 1 = er := by simpa using hv
    clear hN hv
    go_enter Try.func72, Try.ntmps72
    go_wp2_with fail
    (with_reducible refine C1.out.mono ?_)
    rintro e w4 ⟨rfl, hb4⟩
    have CBw := CB1.out _ hb4
    obtain ⟨b0, b1, b2⟩ := (HT.out.ext hb4).2.1
    clear C1 v0 v1 v2 v3 hW3 CB1
    go_wp2_with fail
    (with_reducible refine CBw.mono ?_)
    rintro e w5 ⟨rfl, hb5⟩
    have hb45 := hb4.trans (hb5.mono hb4.size)
    have CMw := CM1.out _ hb45
    clear CBw b0 b1 b2 CM1
    go_wp2_with fail
    (with_reducible refine CMw.mono ?_)
    rintro e w6 ⟨rfl, hb6⟩
    have hb46 := hb45.trans (hb6.mono hb45.size)
    obtain ⟨d0, d1, d2, d3, g0, g1, g2, g3⟩ := (HT.out.ext hb46).2.2.1
    have DD := hid ((HT.out.ext hb46).2.2.1.put (.int .u64 0) (.slice none 0 0) (.slice none 0 0) (.slice none 0 0))
    have HR := hid (HZ.out 1 _ hb46)
    clear hb4 hb5 hb45 hb6 hb46 CMw
    go_wp2_with fail
    obtain ⟨q0, q1, q2, q3, -, -, -, -⟩ := DD.out
    exact bodyPost_ret (v := .tuple #[.agg #[.int .u64 0, .slice none 0 0, .slice none 0 0, .slice none 0 0], .int .i64 1]) (by simp [results, Try.results72, go_sem, q0, q1, q2, q3]) rfl HR.out
  case true =>
  go_enter Try.func72, Try.ntmps72
  go_wp2_with fail
  (with_reducible refine C1.out.mono ?_)
  rintro e w4 ⟨rfl, hb4⟩
  have CBw := CB1.out _ hb4
  obtain ⟨b0, b1, b2⟩ := (HT.out.ext hb4).2.1
  clear C1 v0 v1 v2 v3 hW3 CB1
  go_wp2_with fail
  (with_reducible refine CBw.mono ?_)
  rintro e w4b ⟨rfl, hb4b⟩
  have hb45 := hb4.trans (hb4b.mono hb4.size)
  have CMw := CM1.out _ hb45
  clear CBw b0 b1 b2 CM1
  go_wp2_with fail
  (with_reducible refine CMw.mono ?_)
  rintro e w5 ⟨rfl, hb5⟩
  have hb35 := hb45.trans (hb5.mono hb45.size)
  have HB35 := hid hb35
  obtain ⟨v0, v1, v2, v3⟩ := (HT.out.ext hb35).1
  clear hb4 hb4b hb45 hb5 hb35 CMw
  by_cases hid0 : V.id = 4611686018427387904
  · have hv : (zeroV, (16 : Int)) = (V2, er) := by rw [← hN.out]; unfold nextV; rw [if_neg (by rw [HRV.out, HRB.out, HRM.out]; simp), if_pos hid0]
    obtain ⟨rfl, rfl⟩ : zeroV = V2 ∧ 16 = er := by simpa using hv
    have u1 : (V.id == 4611686018427387904) = true := by simp [hid0]
    have u2 : decide (V.id = 4611686018427387904) = true := decide_eq_true hid0
    obtain ⟨d0, d1, d2, d3, g0, g1, g2, g3⟩ := (HT.out.ext HB35.out).2.2.1
    have DD := hid ((HT.out.ext HB35.out).2.2.1.put (.int .u64 0) (.slice none 0 0) (.slice none 0 0) (.slice none 0 0))
    have HR := hid (HZ.out 16 _ HB35.out)
    have HID0 := hid hid0
    clear hN hv hid0
    go_wp2_with fail
    obtain ⟨q0, q1, q2, q3, -, -, -, -⟩ := DD.out
    exact bodyPost_ret (v := .tuple #[.agg #[.int .u64 0, .slice none 0 0, .slice none 0 0, .slice none 0 0], .int .i64 16]) (by simp [results, Try.results72, go_sem, q0, q1, q2, q3]) rfl HR.out
  · have u1 : (V.id == 4611686018427387904) = false := by simp [hid0]
    have u2 : decide (V.id = 4611686018427387904) = false := decide_eq_false hid0
    have hbv : buildV (V.id + 1) (minusP V.ms gone) (leavesV V.ls gone) come b = (V2, er) := by rw [← hN.out]; unfold nextV; rw [if_neg (by rw [HRV.out, HRB.out, HRM.out]; simp), if_neg hid0]
    have hchk := chk_parts HRV.out
    obtain ⟨ST, hST⟩ : ∃ l, minusP V.ms gone = l := ⟨_, rfl⟩
    obtain ⟨LV, hLV⟩ : ∃ l, leavesV V.ls gone = l := ⟨_, rfl⟩
    obtain ⟨nS, hnS⟩ : ∃ n, ST.length = n := ⟨_, rfl⟩
    have hnSl : nS ≤ 1000 := by rw [← hnS, ← hST]; have := minus_le V.ms gone; have := HGM.out; omega
    have hpm := hchk.parts.minus gone
    have hids : (minusP V.ms gone).Pairwise fun p q => p.1 ≠ q.1 := hchk.ids.sublist List.filter_sublist
    have hoka : ∀ p ∈ minusP V.ms gone ++ come, ok p := fun p hp => by
      rcases List.mem_append.1 hp with hp | hp
      · have := HWF.out.ms p (List.mem_filter.1 hp).1
        unfold ok; exact this
      · exact HOKC.out p hp
    rw [hST] at hbv hpm hids hoka
    rw [hLV] at hbv hpm
    have hidb : 0 ≤ V.id ∧ V.id < 4611686018427387904 := by have := hchk.i1; have := hchk.i2; omega
    have hwrap : IntKind.u64.wrap (V.id + 1) = V.id + 1 := by rw [IntKind.wrap_u64]; omega
    have HBV := hid hbv
    have HST := hid hST
    have HLVE := hid hLV
    have HNS := hid hnS
    have HNSL := hid hnSl
    have HPM := hid hpm
    have HIDS := hid hids
    have HOKA := hid hoka
    have HBC := HRB
    have HV5 := hid ((HV.out.ext HT.out.bl).ext HB35.out)
    have HVW5 := hid (HT.out.ext HB35.out).1
    have HBX5 := hid (HT.out.ext HB35.out).2.1
    have HVX5 := hid (HT.out.ext HB35.out).2.2.1
    have HB5 := hid (HT.out.ext HB35.out).2.2.2
    have HSZ5 : Hid (w.heap.size + 1 + 1 < w5.heap.size) := hid (by have := HB35.out.size; have := HT.out.sz; omega)
    have HRG5 : Hid (PidRow w5 ag gone) := hid ((HRG.out.ext HT.out.bl).ext HB35.out)
    have HRC5 : Hid (∀ X, Below w5.heap.size w5 X → PidRow X ac come) := hid fun X h => ((HRC.out.ext HT.out.bl).ext HB35.out).ext h
    have HACB : Hid (∀ g off, ac = some ⟨g, off, none⟩ → come ≠ [] → g < w5.heap.size) := hid fun g off e hne => by
      obtain ⟨b', off', e2, hlt, -⟩ := HRC.out.get (List.length_pos_iff.2 hne)
      rw [e] at e2
      cases e2
      have := HSZ5.out
      omega
    have HS5 : Hid (∀ X, Below w5.heap.size w5 X → X.cell? ⟨w.heap.size, 0, none⟩ = some (.int .u64 V.id) ∧ X.cell? ⟨w.heap.size, 1, none⟩ = some (.slice am V.ms.length cm) ∧ X.cell? ⟨w.heap.size + 1, 0, none⟩ = some (.int .i64 b.least) ∧ X.cell? ⟨w.heap.size + 1, 1, none⟩ = some (.int .i64 b.most) ∧ X.cell? ⟨w.heap.size + 1, 2, none⟩ = some (.int .i64 b.tmo)) := hid fun X h => ⟨cell_toB HVW5.out.c0 h, cell_toB HVW5.out.c1 h, cell_toB HBX5.out.c0 h, cell_toB HBX5.out.c1 h, cell_toB HBX5.out.c2 h⟩
    have HB59 : Hid (∀ X, Below w5.heap.size w5 X → ∀ (qm ql qd : Option Addr) (km kl kd : Nat), (((((X.setCell ⟨w.heap.size + 1 + 1, 0, none⟩ (.int .u64 V2.id)).setCell ⟨w.heap.size + 1 + 1, 1, none⟩ (.slice qm V2.ms.length km)).setCell ⟨w.heap.size + 1 + 1, 2, none⟩ (.slice ql V2.ls.length kl)).setCell ⟨w.heap.size + 1 + 1, 3, none⟩ (.slice qd V2.ds.length kd)).cell? ⟨w.heap.size, 0, none⟩ = some (.int .u64 V.id) ∧ ((((X.setCell ⟨w.heap.size + 1 + 1, 0, none⟩ (.int .u64 V2.id)).setCell ⟨w.heap.size + 1 + 1, 1, none⟩ (.slice qm V2.ms.length km)).setCell ⟨w.heap.size + 1 + 1, 2, none⟩ (.slice ql V2.ls.length kl)).setCell ⟨w.heap.size + 1 + 1, 3, none⟩ (.slice qd V2.ds.length kd)).cell? ⟨w.heap.size, 1, none⟩ = some (.slice am V.ms.length cm) ∧ ((((X.setCell ⟨w.heap.size + 1 + 1, 0, none⟩ (.int .u64 V2.id)).setCell ⟨w.heap.size + 1 + 1, 1, none⟩ (.slice qm V2.ms.length km)).setCell ⟨w.heap.size + 1 + 1, 2, none⟩ (.slice ql V2.ls.length kl)).setCell ⟨w.heap.size + 1 + 1, 3, none⟩ (.slice qd V2.ds.length kd)).cell? ⟨w.heap.size + 1, 0, none⟩ = some (.int .i64 b.least) ∧ ((((X.setCell ⟨w.heap.size + 1 + 1, 0, none⟩ (.int .u64 V2.id)).setCell ⟨w.heap.size + 1 + 1, 1, none⟩ (.slice qm V2.ms.length km)).setCell ⟨w.heap.size + 1 + 1, 2, none⟩ (.slice ql V2.ls.length kl)).setCell ⟨w.heap.size + 1 + 1, 3, none⟩ (.slice qd V2.ds.length kd)).cell? ⟨w.heap.size + 1, 1, none⟩ = some (.int .i64 b.most) ∧ ((((X.setCell ⟨w.heap.size + 1 + 1, 0, none⟩ (.int .u64 V2.id)).setCell ⟨w.heap.size + 1 + 1, 1, none⟩ (.slice qm V2.ms.length km)).setCell ⟨w.heap.size + 1 + 1, 2, none⟩ (.slice ql V2.ls.length kl)).setCell ⟨w.heap.size + 1 + 1, 3, none⟩ (.slice qd V2.ds.length kd)).cell? ⟨w.heap.size + 1, 2, none⟩ = some (.int .i64 b.tmo)) ∧ Mut (fun k => k = w.heap.size + 1 + 1) X ((((X.setCell ⟨w.heap.size + 1 + 1, 0, none⟩ (.int .u64 V2.id)).setCell ⟨w.heap.size + 1 + 1, 1, none⟩ (.slice qm V2.ms.length km)).setCell ⟨w.heap.size + 1 + 1, 2, none⟩ (.slice ql V2.ls.length kl)).setCell ⟨w.heap.size + 1 + 1, 3, none⟩ (.slice qd V2.ds.length kd))) := hid fun X h qm ql qd km kl kd => by
      have hm : Mut (fun k => k = w.heap.size + 1 + 1) X ((((X.setCell ⟨w.heap.size + 1 + 1, 0, none⟩ (.int .u64 V2.id)).setCell ⟨w.heap.size + 1 + 1, 1, none⟩ (.slice qm V2.ms.length km)).setCell ⟨w.heap.size + 1 + 1, 2, none⟩ (.slice ql V2.ls.length kl)).setCell ⟨w.heap.size + 1 + 1, 3, none⟩ (.slice qd V2.ds.length kd)) := mut4
      obtain ⟨h0, h1, h2, h3, h4⟩ := HS5.out X h
      have hs := h.size
      have h5 := HSZ5.out
      refine ⟨⟨?_, ?_, ?_, ?_, ?_⟩, hm⟩
      · exact (hm.cell (p := ⟨w.heap.size, 0, none⟩) (by show w.heap.size < _; omega) (by show ¬ w.heap.size = _; omega)).trans h0
      · exact (hm.cell (p := ⟨w.heap.size, 1, none⟩) (by show w.heap.size < _; omega) (by show ¬ w.heap.size = _; omega)).trans h1
      · exact (hm.cell (p := ⟨w.heap.size + 1, 0, none⟩) (by show w.heap.size + 1 < _; omega) (by show ¬ w.heap.size + 1 = _; omega)).trans h2
      · exact (hm.cell (p := ⟨w.heap.size + 1, 1, none⟩) (by show w.heap.size + 1 < _; omega) (by show ¬ w.heap.size + 1 = _; omega)).trans h3
      · exact (hm.cell (p := ⟨w.heap.size + 1, 2, none⟩) (by show w.heap.size + 1 < _; omega) (by show ¬ w.heap.size + 1 = _; omega)).trans h4
    clear hid0 hbv hchk hST hLV hnS hnSl hpm hids hoka hidb hN HW3
    go_wp2
    go_loopw [10, 37] (fun v i wr => ∃ (k : Nat) (cs' : List Sl), i = .int .i64 k ∧ k ≤ V.ls.length ∧ LLs wr w5.heap.size v cs' (leavesV (V.ls.take k) gone) ∧ Below w5.heap.size w5 wr) (fun _ i _ => V.ls.length - (intOf i).toNat)
    case atStart => exact ⟨0, [], rfl, Nat.zero_le _, LLs.nil _ _, Below.refl _ _⟩
    case round =>
      obtain ⟨k, cs', rfl, hk, hown, hb⟩ := hrel
      have hgl := HGL.out
      by_cases hlt : k < V.ls.length
      · obtain ⟨bb, off, ai, ci, l, he, hx, d1, d2⟩ := HV5.out.ls.at hb rfl hlt
        subst he
        have hsucc := leaves_succ (gone := gone) hlt hx
        have hll : l.length ≤ 40 := by rw [hx]; exact HGLE.out _ (List.getElem_mem hlt)
        obtain ⟨nl, hnl⟩ : ∃ n, l.length = n := ⟨_, rfl⟩
        obtain ⟨R, hR⟩ : ∃ R, minusP l gone = R := ⟨_, rfl⟩
        rw [hnl] at d1 hll
        rw [hR] at hsucc
        have CM := hid (minus_n (c := ci) (d := kg) (hid hR) (hid hnl) hGn (by omega) hG d2 (HRG5.out.ext hb))
        have hllen : (leavesV (V.ls.take k) gone).length ≤ 40 := by
          unfold leavesV
          have h1 := List.length_filter_le (fun l : List Pid => !l.isEmpty) ((V.ls.take k).map fun l => minusP l gone)
          rw [List.length_map, List.length_take] at h1
          omega
        have HOWN := hid hown
        have HB := hid hb
        have HSU := hid hsucc
        have HLLEN := hid hllen
        clear hown hb hsucc hllen hx hnl hR d2 hll
        go_wp2_with fail
        (with_reducible refine CM.out.mono ?_)
        rintro e w6 ⟨v6, rfl, hown6, hb6⟩
        obtain ⟨a6, c6, e6, e6s, hr6, hc6, hblk6⟩ := hown6.sl
        obtain ⟨n6, hn6⟩ : ∃ n, R.length = n := ⟨_, rfl⟩
        rw [hn6] at e6 e6s hblk6
        subst e6
        have hb56 := HB.out.trans (hb6.mono HB.out.size)
        cases hem : R.isEmpty
        · have hp : 0 < n6 := by rw [← hn6]; cases R with | nil => simp at hem | cons a r => simp
          have p1 : decide ((n6 : Int) > 0) = true := decide_eq_true (by omega)
          have p2 : decide ((0 : Int) < (n6 : Int)) = true := decide_eq_true (by omega)
          have p3 : decide (0 < n6) = true := decide_eq_true hp
          have hq7 : Below w6.heap.size w6 (w6.alloc (.cells #[.slice a6 n6 c6] 30)) := (Below.refl _ _).alloc (Nat.le_refl _) _
          have HO7 := hid ((HOWN.out.ext hb6).ext hq7)
          have HP7 : Hid (OwnP (w6.alloc (.cells #[.slice a6 n6 c6] 30)) w5.heap.size (encS (a6, n6, c6)) R) := hid ((hown6.ext hq7).mono2 HB.out.size)
          have HC7 : Hid ((w6.alloc (.cells #[.slice a6 n6 c6] 30)).cell? ⟨w6.heap.size, 0, none⟩ = some (encS (a6, n6, c6))) := hid (by simp [encS])
          have HV7 : Hid (∀ g, blkS (a6, n6, c6) = some g → u10.ownBlock ≠ some g) := hid fun g hg e => by have := (hblk6 g hg).1; have := (HOWN.out.blk e).2; omega
          have HU7 : Hid (∀ u ∈ cs', ∀ g, blkS u = some g → blkS (a6, n6, c6) ≠ some g) := hid fun u hu g hg e => by have := (hblk6 g e).1; have := (HOWN.out.elB hu hg).2; omega
          have hb57 := hb56.trans (hq7.mono hb56.size)
          have HB57 := hid hb57
          have HZ7 := hid hb57.size
          have HEM := hid hem
          clear hq7 hb57 hown6 hb6 e6s hr6 hc6 hblk6 hn6 CM hb56 hem
          go_wp2_with (at_builtin; go_loud (refine wpList_appendLs HO7.out HC7.out HP7.out HV7.out HU7.out (by have := HLLEN.out; omega) HZ7.out rfl rfl (by simp [Act.eval, Act.put]; try rfl) rfl ?_; intro v8 w8 hls8 hg8 hat8; have HB8 := hid (HB57.out.grown hg8 HZ7.out (fun g hg => (HO7.out.blk hg).1)); have HL8 := hid hls8; clear hls8 hg8 hat8))
          go_roundw
          case rel => exact ⟨k + 1, _, by go_num, by omega, by rw [HSU.out, HEM.out]; exact HL8.out, HB8.out⟩
          case measure => simp [intOf]; omega
        · have hp : n6 = 0 := by rw [← hn6]; cases R with | nil => rfl | cons a r => simp at hem
          have p1 : decide ((n6 : Int) > 0) = false := decide_eq_false (by omega)
          have p2 : decide ((0 : Int) < (n6 : Int)) = false := decide_eq_false (by omega)
          have p3 : decide (0 < n6) = false := decide_eq_false (by omega)
          have HP0 := hid hp
          have HO6 := hid (HOWN.out.ext hb6)
          have HB56 := hid hb56
          have HEM := hid hem
          clear hown6 hb6 e6s hr6 hc6 hblk6 hn6 CM hb56 hem hp
          go_wp2
          go_roundw
          case rel => exact ⟨k + 1, cs', by go_num, by omega, by rw [HSU.out, HEM.out]; simpa using HO6.out, HB56.out⟩
          case measure => simp [intOf]; omega
      · have htake : V.ls.take k = V.ls := List.take_of_length_le (by omega)
        rw [htake, HLVE.out] at hown
        obtain ⟨al7, c7, he7, hr7⟩ := hown.row
        obtain ⟨n7, hn7⟩ : ∃ n, LV.length = n := ⟨_, rfl⟩
        rw [hn7] at he7
        subst he7
        have HLL := hid hown
        have HN7 := hid hn7
        have HB7 := hid hb
        have HSR : Hid (wr.drew.cell? ⟨w.heap.size, 0, none⟩ = some (.int .u64 V.id) ∧ wr.drew.cell? ⟨w.heap.size, 1, none⟩ = some (.slice am V.ms.length cm) ∧ wr.drew.cell? ⟨w.heap.size + 1, 0, none⟩ = some (.int .i64 b.least) ∧ wr.drew.cell? ⟨w.heap.size + 1, 1, none⟩ = some (.int .i64 b.most) ∧ wr.drew.cell? ⟨w.heap.size + 1, 2, none⟩ = some (.int .i64 b.tmo)) := hid (HS5.out wr.drew hb.drew)
        have HSS : Hid (∀ X, Below wr.heap.size wr X → X.cell? ⟨w.heap.size, 0, none⟩ = some (.int .u64 V.id) ∧ X.cell? ⟨w.heap.size, 1, none⟩ = some (.slice am V.ms.length cm) ∧ X.cell? ⟨w.heap.size + 1, 0, none⟩ = some (.int .i64 b.least) ∧ X.cell? ⟨w.heap.size + 1, 1, none⟩ = some (.int .i64 b.most) ∧ X.cell? ⟨w.heap.size + 1, 2, none⟩ = some (.int .i64 b.tmo)) := hid fun X h => HS5.out X (HB7.out.trans (h.mono HB7.out.size))
        have CM : Hid (Calls Try.prog 142 #[.slice am V.ms.length cm, .slice ag G kg] wr.drew fun e w' => ∃ v, e = .returned v ∧ OwnP w' wr.drew.heap.size v ST ∧ Below wr.drew.heap.size wr.drew w') := hid (minus_n HST (hid rfl) hGn (by have := HGM.out; omega) hG ((HV5.out.ms.ext hb).drew) ((HRG5.out.ext hb).drew))
        clear hown hr7 hn7 hb htake hk
        go_wp2
        refine wp_region_held_drew (S := fun X => X.cell? ⟨w.heap.size, 0, none⟩ = some (.int .u64 V.id) ∧ X.cell? ⟨w.heap.size, 1, none⟩ = some (.slice am V.ms.length cm) ∧ X.cell? ⟨w.heap.size + 1, 0, none⟩ = some (.int .i64 b.least) ∧ X.cell? ⟨w.heap.size + 1, 1, none⟩ = some (.int .i64 b.most) ∧ X.cell? ⟨w.heap.size + 1, 2, none⟩ = some (.int .i64 b.tmo)) (by kernel_rfl) (by exact HSR.out) (fun hHeld => ?_)
        refine wpAnyH_take (i := 0) (oi := _) (v := .pointer (some ⟨w.heap.size, 0, none⟩)) rfl (by kernel_rfl) (by kernel_rfl) (by kernel_rfl) (fun _ _ _ h => h) (Or.inl ⟨by rfl, ?_⟩) (by assumption) ?_
        · intro W hSw
          try dsimp only at hSw
          go_simp
        try simp only [Act.put, List.getElem_toArray, List.getElem_cons_succ, List.getElem_cons_zero, List.setIfInBounds_toArray, List.set_cons_zero, List.set_cons_succ]
        refine wpAnyH_take (i := 1) (oi := _) (v := .int .u64 V.id) rfl (by kernel_rfl) (by kernel_rfl) (by kernel_rfl) (fun _ _ _ h => h) (Or.inl ⟨by rfl, ?_⟩) (by assumption) ?_
        · intro W hSw
          try dsimp only at hSw
          obtain ⟨hSw1, hSw2, hSw3, hSw4, hSw5⟩ := hSw
          go_simp
        try simp only [Act.put, List.getElem_toArray, List.getElem_cons_succ, List.getElem_cons_zero, List.setIfInBounds_toArray, List.set_cons_zero, List.set_cons_succ]
        refine wpAnyH_take (i := 2) (oi := _) (v := .int .u64 (V.id + 1)) rfl (by kernel_rfl) (by kernel_rfl) (by kernel_rfl) (fun _ _ _ h => h) (Or.inl ⟨by rfl, ?_⟩) (by assumption) ?_
        · intro W hSw
          try dsimp only at hSw
          go_simp
        try simp only [Act.put, List.getElem_toArray, List.getElem_cons_succ, List.getElem_cons_zero, List.setIfInBounds_toArray, List.set_cons_zero, List.set_cons_succ]
        refine wpAnyH_take (i := 3) (oi := _) (v := .pointer (some ⟨w.heap.size, 1, none⟩)) rfl (by kernel_rfl) (by kernel_rfl) (by kernel_rfl) (fun _ _ _ h => h) (Or.inl ⟨by rfl, ?_⟩) (by assumption) ?_
        · intro W hSw
          try dsimp only at hSw
          go_simp
        try simp only [Act.put, List.getElem_toArray, List.getElem_cons_succ, List.getElem_cons_zero, List.setIfInBounds_toArray, List.set_cons_zero, List.set_cons_succ]
        refine wpAnyH_take (i := 4) (oi := _) (v := .slice am V.ms.length cm) rfl (by kernel_rfl) (by kernel_rfl) (by kernel_rfl) (fun _ _ _ h => h) (Or.inl ⟨by rfl, ?_⟩) (by assumption) ?_
        · intro W hSw
          try dsimp only at hSw
          obtain ⟨hSw1, hSw2, hSw3, hSw4, hSw5⟩ := hSw
          go_simp
        try simp only [Act.put, List.getElem_toArray, List.getElem_cons_succ, List.getElem_cons_zero, List.setIfInBounds_toArray, List.set_cons_zero, List.set_cons_succ]
        refine wpAnyH_take (i := 5) (oi := _) (v := .slice ag G kg) rfl (by kernel_rfl) (by kernel_rfl) (by kernel_rfl) (fun _ _ _ h => h) (Or.inl ⟨by rfl, ?_⟩) (by assumption) ?_
        · intro W hSw
          try dsimp only at hSw
          go_simp
        try simp only [Act.put, List.getElem_toArray, List.getElem_cons_succ, List.getElem_cons_zero, List.setIfInBounds_toArray, List.set_cons_zero, List.set_cons_succ]
        refine wpAnyH_take (i := 7) (oi := _) (v := .slice al7 n7 c7) rfl (by kernel_rfl) (by kernel_rfl) (by kernel_rfl) (fun _ _ _ h => h) (Or.inl ⟨by rfl, ?_⟩) (by assumption) ?_
        · intro W hSw
          try dsimp only at hSw
          go_simp
        try simp only [Act.put, List.getElem_toArray, List.getElem_cons_succ, List.getElem_cons_zero, List.setIfInBounds_toArray, List.set_cons_zero, List.set_cons_succ]
        refine wpAnyH_take (i := 8) (oi := _) (v := .slice ac C kc) rfl (by kernel_rfl) (by kernel_rfl) (by kernel_rfl) (fun _ _ _ h => h) (Or.inl ⟨by rfl, ?_⟩) (by assumption) ?_
        · intro W hSw
          try dsimp only at hSw
          go_simp
        try simp only [Act.put, List.getElem_toArray, List.getElem_cons_succ, List.getElem_cons_zero, List.setIfInBounds_toArray, List.set_cons_zero, List.set_cons_succ]
        refine wpAnyH_take (i := 9) (oi := _) (v := .agg #[.int .i64 b.least, .int .i64 b.most, .int .i64 b.tmo]) rfl (by kernel_rfl) (by kernel_rfl) (by kernel_rfl) (fun _ _ _ h => h) (Or.inl ⟨by rfl, ?_⟩) (by assumption) ?_
        · intro W hSw
          try dsimp only at hSw
          obtain ⟨hSw1, hSw2, hSw3, hSw4, hSw5⟩ := hSw
          go_simp
        try simp only [Act.put, List.getElem_toArray, List.getElem_cons_succ, List.getElem_cons_zero, List.setIfInBounds_toArray, List.set_cons_zero, List.set_cons_succ]
        refine wpAnyH_ready (rs := [6]) (by kernel_rfl) (by simp) ?_
        refine AllReadyH.cons (o := _) rfl (fun K hK => ?_) AllReadyH.nil
        go_simp
        (with_reducible refine CM.out.mono ?_)
        rintro e w8 ⟨v8, rfl, hown8, hb8⟩
        obtain ⟨a8, c8, e8, hr8, -⟩ := hown8.row
        rw [HNS.out] at e8
        subst e8
        have HB8 : Hid (Below wr.heap.size wr w8) := hid ((Below.refl _ _).drew.trans hb8)
        have HR8 := hid hr8
        clear hown8 hb8 hr8 CM
        refine hK.out _ _ (HSS.out _ HB8.out) (fun hHeld => ?_)
        clear hK K
        try simp only [Act.put, List.getElem_toArray, List.getElem_cons_succ, List.getElem_cons_zero, List.setIfInBounds_toArray, List.set_cons_zero, List.set_cons_succ]
        have CB := hid (build_any (w := w8) (base := w5.heap.size) (ks := c8) (kc := kc) HBV HNS hCn HN7 HNSL.out hC HR8.out (HRC5.out w8 (HB7.out.trans (HB8.out.mono HB7.out.size))) (HLL.out.ext HB8.out) (by have := HB7.out.size; have := HB8.out.size; omega) HPM.out HIDS.out HOKA.out HBC.out (fun g off e hne hin => by have h1 := HACB.out g off e hne; have h2 := (HLL.out.inB hin).1; omega))
        refine wpAnyH_ready (rs := [10]) (by kernel_rfl) (by simp) ?_
        refine AllReadyH.cons (o := _) rfl (fun K hK => ?_) AllReadyH.nil
        go_simp
        (with_reducible refine CB.out.mono ?_)
        rintro e w9 hres
        unfold BuildRes at hres
        obtain ⟨qm, ql, qd, km, kl, kd, rfl, hst, hm⟩ := hres
        have hlow : Mut (fun k => w5.heap.size ≤ k) w8 w9 := hm.mono fun _ _ e => (HLL.out.inB e).1
        have HB9 : Hid (Below w5.heap.size w5 w9) := hid ((HB7.out.trans (HB8.out.mono HB7.out.size)).trans (hlow.below (by have := HB7.out.size; have := HB8.out.size; omega) (fun _ e => e)))
        have HST2 := hid hst
        clear hst hm hlow CB
        refine hK.out _ _ (HS5.out _ HB9.out) (fun hHeld => ?_)
        clear hK K
        try simp only [Act.put, List.getElem_toArray, List.getElem_cons_succ, List.getElem_cons_zero, List.setIfInBounds_toArray, List.set_cons_zero, List.set_cons_succ]
        refine wpAnyH_take (i := 11) (oi := _) (v := .agg #[.int .u64 V2.id, .slice qm V2.ms.length km, .slice ql V2.ls.length kl, .slice qd V2.ds.length kd]) rfl (by kernel_rfl) (by kernel_rfl) (by kernel_rfl) (fun _ _ _ h => h) (Or.inl ⟨by rfl, ?_⟩) (by assumption) ?_
        · intro W hSw
          try dsimp only at hSw
          go_simp
        try simp only [Act.put, List.getElem_toArray, List.getElem_cons_succ, List.getElem_cons_zero, List.setIfInBounds_toArray, List.set_cons_zero, List.set_cons_succ]
        refine wpAnyH_take (i := 12) (oi := _) (v := .int .i64 er) rfl (by kernel_rfl) (by kernel_rfl) (by kernel_rfl) (fun _ _ _ h => h) (Or.inl ⟨by rfl, ?_⟩) (by assumption) ?_
        · intro W hSw
          try dsimp only at hSw
          go_simp
        try simp only [Act.put, List.getElem_toArray, List.getElem_cons_succ, List.getElem_cons_zero, List.setIfInBounds_toArray, List.set_cons_zero, List.set_cons_succ]
        obtain ⟨d0, d1, d2, d3, g0, g1, g2, g3⟩ := HVX5.out.ext HB9.out
        have DD := hid ((HVX5.out.ext HB9.out).put (.int .u64 V2.id) (.slice qm V2.ms.length km) (.slice ql V2.ls.length kl) (.slice qd V2.ds.length kd))
        have HB10 := hid (HB59.out _ HB9.out qm ql qd km kl kd)
        refine wpAnyH_ready (rs := [13]) (by kernel_rfl) (by simp) ?_
        refine AllReadyH.cons (o := _) rfl (fun K hK => ?_) AllReadyH.nil
        go_simp
        clear d0 d1 d2 d3 g0 g1 g2 g3
        refine hK.out _ _ (HB10.out.1) (fun hHeld => ?_)
        clear hK K
        try simp only [Act.put, List.getElem_toArray, List.getElem_cons_succ, List.getElem_cons_zero, List.setIfInBounds_toArray, List.set_cons_zero, List.set_cons_succ]
        refine wpAnyH_ready (rs := [14]) (by kernel_rfl) (by simp) ?_
        refine AllReadyH.cons (o := _) rfl (fun K hK => ?_) AllReadyH.nil
        go_simp
        refine hK.out _ _ (HB10.out.1) (fun hHeld => ?_)
        clear hK K
        try simp only [Act.put, List.getElem_toArray, List.getElem_cons_succ, List.getElem_cons_zero, List.setIfInBounds_toArray, List.set_cons_zero, List.set_cons_succ]
        refine wpAnyH_done (by kernel_rfl) ?_ _
        obtain ⟨q0, q1, q2, q3, -, -, -, -⟩ := DD.out
        go_wp2_with fail
        refine bodyPost_ret (v := .tuple #[.agg #[.int .u64 V2.id, .slice qm V2.ms.length km, .slice ql V2.ls.length kl, .slice qd V2.ds.length kd], .int .i64 er]) (by simp [results, Try.results72, go_sem, q0, q1, q2, q3]) rfl ?_
        unfold BuildRes
        have hsz := HSZ5.out
        have hb9 := HB5.out.trans (HB9.out.mono HB5.out.size)
        exact ⟨qm, ql, qd, km, kl, kd, rfl, (HST2.out.mut HB10.out.2 (fun k e => by omega)).mono (by omega), Mut.of_below (below_put4 hb9 (by omega))⟩
end Go.Proofs.Ytbpfhclcjedkcaa

namespace Go.Proofs.Ytbpfhclcjedkcaa
open Go.RowKit
/-! ### layout.Fits; LayoutStill -/
theorem great_n {b : Bnd} {a : Option Addr} {c n : Nat} {ls : LL} {G : Int} {w : World} (hG : Hid (greatL b ls = G)) (hN : Hid (ls.length = n)) (hn : n ≤ 1000000) (hrow : LeafRow w a ls) :
    Calls Try.prog 171 #[.slice a n c, .agg #[.int .i64 b.least, .int .i64 b.most, .int .i64 b.tmo]] w fun e w' => e = .returned (.int .i64 G) ∧ Below w.heap.size w w' := by
  have hN := hN.out; subst hN
  rw [← hG.out]
  exact lgreat_any (b := b) (c := c) (by omega) hrow
theorem small_n {b : Bnd} {a : Option Addr} {c n : Nat} {ls : LL} {G : Int} {w : World} (hG : Hid (smallL b ls = G)) (hN : Hid (ls.length = n)) (hn : n ≤ 1000000) (hrow : LeafRow w a ls) :
    Calls Try.prog 172 #[.slice a n c, .agg #[.int .i64 b.least, .int .i64 b.most, .int .i64 b.tmo]] w fun e w' => e = .returned (.int .i64 G) ∧ Below w.heap.size w w' := by
  have hN := hN.out; subst hN
  rw [← hG.out]
  exact lsmall_any (b := b) (c := c) (by omega) hrow
set_option maxRecDepth 100000 in
set_option maxHeartbeats 1600000 in
theorem fits_any {V : View} {b : Bnd} {am al ad : Option Addr} {cm cl cd : Nat} {r : Bool} {w : World} (hr : Hid (fitsL b V.ls = r)) (hV : ViewR w am al ad V) (hll : V.ls.length ≤ 1000000) :
    Calls Try.prog 75 #[.agg #[.int .u64 V.id, .slice am V.ms.length cm, .slice al V.ls.length cl, .slice ad V.ds.length cd], .agg #[.int .i64 b.least, .int .i64 b.most, .int .i64 b.tmo]] w fun e w' => e = .returned (.bool r) ∧ Below w.heap.size w w' := by
  obtain ⟨W1, hW1⟩ : ∃ W1, w.alloc (.cells #[.int .u64 V.id, .slice am V.ms.length cm, .slice al V.ls.length cl, .slice ad V.ds.length cd] 33) = W1 := ⟨_, rfl⟩
  have s1 : W1.heap.size = w.heap.size + 1 := by rw [← hW1]; simp
  have b1 : Below w.heap.size w W1 := by rw [← hW1]; exact (Below.refl _ _).alloc (Nat.le_refl _) _
  have x1 : ViewBox W1 w.heap.size V am al ad cm cl cd := by rw [← hW1]; exact ViewBox.made (V := V) w
  obtain ⟨W2, hW2⟩ : ∃ W2, W1.alloc (.cells #[.int .i64 b.least, .int .i64 b.most, .int .i64 b.tmo] 117) = W2 := ⟨_, rfl⟩
  have b2 : Below W1.heap.size W1 W2 := by rw [← hW2]; exact (Below.refl _ _).alloc (Nat.le_refl _) _
  have y2 : BndBox W2 (w.heap.size + 1) b := by rw [← hW2, ← s1]; exact BndBox.made W1
  have x2 := x1.ext b2 x1.lt
  have hb2 := b1.trans (b2.mono b1.size)
  have hV2 := hV.ext hb2
  obtain ⟨G, hG⟩ : ∃ G, greatL b V.ls = G := ⟨_, rfl⟩
  obtain ⟨M, hM⟩ : ∃ M, smallL b V.ls = M := ⟨_, rfl⟩
  have hfit := hr.out
  unfold fitsL at hfit
  rw [hG, hM] at hfit
  have C1 := hid (great_n (c := cl) (hid hG) (hid rfl) hll hV2.ls)
  have C2 : Hid (∀ X, Below W2.heap.size W2 X → Calls Try.prog 172 #[.slice al V.ls.length cl, .agg #[.int .i64 b.least, .int .i64 b.most, .int .i64 b.tmo]] X fun e w' => e = .returned (.int .i64 M) ∧ Below X.heap.size X w') := hid fun X h => small_n (c := cl) (hid hM) (hid rfl) hll (hV2.ls.ext h)
  obtain ⟨v0, v1, v2, v3⟩ := id x2
  obtain ⟨z0, z1, z2⟩ := id y2
  have HX := hid x2
  have HY := hid y2
  have HB2 := hid hb2
  clear hr hV hll b1 x1 b2 y2 x2 hb2 hV2 hG hM
  cases hg : decide (G < 0)
  · rw [hg] at hfit
    have hfr : r = false := hfit.symm
    subst hfr
    clear hfit
    go_enter Try.func75, Try.ntmps75
    go_wp2_with fail
    (with_reducible refine C1.out.mono ?_)
    rintro e w3 ⟨rfl, hb3⟩
    have HB3 := hid (HB2.out.trans (hb3.mono HB2.out.size))
    clear hb3 C1 v0 v1 v2 v3 z0 z1 z2 hW1 hW2 C2
    go_wp2
    go_ret
    exact ⟨rfl, HB3.out⟩
  · rw [hg, Bool.true_and] at hfit
    go_enter Try.func75, Try.ntmps75
    go_wp2_with fail
    (with_reducible refine C1.out.mono ?_)
    rintro e w3 ⟨rfl, hb3⟩
    have C2w := C2.out _ hb3
    have HB3 := hid (HB2.out.trans (hb3.mono HB2.out.size))
    clear C1 v0 v1 v2 v3 z0 z1 z2 hW1 hW2 C2
    obtain ⟨v0, v1, v2, v3⟩ := HX.out.ext hb3 HX.out.lt
    obtain ⟨z0, z1, z2⟩ := HY.out.ext hb3 HY.out.lt
    clear hb3
    go_wp2_with fail
    (with_reducible refine C2w.mono ?_)
    rintro e w4 ⟨rfl, hb4⟩
    have HB4 := hid (HB3.out.trans (hb4.mono HB3.out.size))
    have HF := hid hfit
    clear hb4 C2w v0 v1 v2 v3 z0 z1 z2
    go_wp2
    go_ret
    exact ⟨by first | rfl | rw [HF.out] | (show _ = _; simp [hfit]), HB4.out⟩
end Go.Proofs.Ytbpfhclcjedkcaa

namespace Go.Proofs.Ytbpfhclcjedkcaa
open Go.RowKit
/-! ### the law LayoutStill -/
structure DuoBox (W2 w : World) (b : Bnd) (V : View) (am al ad : Option Addr) (cm cl cd : Nat) : Prop where
  bl : Below w.heap.size w W2
  vw : ViewBox W2 w.heap.size V am al ad cm cl cd
  bx : BndBox W2 (w.heap.size + 1) b
theorem DuoBox.made (w : World) (b : Bnd) (V : View) (am al ad : Option Addr) (cm cl cd : Nat) : DuoBox ((w.alloc (.cells #[.int .u64 V.id, .slice am V.ms.length cm, .slice al V.ls.length cl, .slice ad V.ds.length cd] 33)).alloc (.cells #[.int .i64 b.least, .int .i64 b.most, .int .i64 b.tmo] 117)) w b V am al ad cm cl cd := by
  have e : ∀ (W : World) (o : Obj), Below W.heap.size W (W.alloc o) := fun W o => (Below.refl _ _).alloc (Nat.le_refl _) _
  obtain ⟨X1, h1⟩ : ∃ X, w.alloc (.cells #[.int .u64 V.id, .slice am V.ms.length cm, .slice al V.ls.length cl, .slice ad V.ds.length cd] 33) = X := ⟨_, rfl⟩
  have s1 : X1.heap.size = w.heap.size + 1 := by rw [← h1]; simp
  have b1 : Below w.heap.size w X1 := by rw [← h1]; exact e _ _
  have v1 : ViewBox X1 w.heap.size V am al ad cm cl cd := by rw [← h1]; exact ViewBox.made (V := V) w
  rw [h1]
  refine ⟨b1.trans ((e _ _).mono b1.size), v1.ext (e _ _) v1.lt, ?_⟩
  rw [← s1]
  exact BndBox.made X1
theorem DuoBox.ext {W2 w W : World} {b : Bnd} {V : View} {am al ad : Option Addr} {cm cl cd : Nat} (h : DuoBox W2 w b V am al ad cm cl cd) (hb : Below W2.heap.size W2 W) : DuoBox W w b V am al ad cm cl cd :=
  ⟨h.bl.trans (hb.mono h.bl.size), h.vw.ext hb h.vw.lt, h.bx.ext hb h.bx.lt⟩
theorem ViewBox.mutN {G : Nat → Prop} {w w' : World} {b : Nat} {V : View} {am al ad : Option Addr} {cm cl cd : Nat} (h : ViewBox w b V am al ad cm cl cd) (hm : Mut G w w') (hG : ¬ G b) : ViewBox w' b V am al ad cm cl cd :=
  ⟨cell_mut h.c0 hm hG, cell_mut h.c1 hm hG, cell_mut h.c2 hm hG, cell_mut h.c3 hm hG⟩
end Go.Proofs.Ytbpfhclcjedkcaa

namespace Go.Proofs.Ytbpfhclcjedkcaa
open Go.RowKit
/-! ### LayoutRight, LayoutGrows in plain words -/
section
variable {i : Int} {ms : List Pid} {b : Bnd} {V : View}
theorem ord_leaf {ls : LL} (h : Parts ms ls) {c : List Pid} (hc : c ∈ ordR ms ls) : c.length ≤ ms.length ∧ ∀ p ∈ c, p ∈ ms := by
  obtain ⟨l, hl, rfl⟩ := h.ord_mem hc
  exact ⟨List.length_filter_le _ _, fun p hp => (List.mem_filter.1 hp).1⟩
theorem BuiltOk.less (h : BuiltOk i ms b V) : ms.length ≤ 24 := (members_parts.1 h.mem).1.2
theorem BuiltOk.small (h : BuiltOk i ms b V) : greatB V = false := by
  have hl := h.less
  obtain ⟨ls, hp, -, rfl⟩ := h.ex
  have h1 := full_len hp.ord_full
  rw [← total_flat, hp.ord_flat.length_eq] at h1
  have h2 : (leadersL ms (heads (ordR ms ls))).length ≤ ms.length := List.length_filter_le _ _
  unfold greatB
  simp only [Bool.or_eq_false_iff, decide_eq_false_iff_not, List.any_eq_false, decide_eq_true_eq]
  exact ⟨by omega, by omega, by omega, fun c hc => by have := (ord_leaf hp hc).1; omega⟩
theorem BuiltOk.wf (h : BuiltOk i ms b V) (hi : 0 ≤ i ∧ i < 18446744073709551616) (hm : WfPids ms) : WfView V := by
  obtain ⟨ls, hp, -, rfl⟩ := h.ex
  exact ⟨hi, hm, fun c hc p hpc => hm p ((ord_leaf hp hc).2 p hpc), fun p hpl => hm p (List.mem_filter.1 hpl).1⟩
end
theorem wf_app {xs ys : List Pid} (h1 : WfPids xs) (h2 : WfPids ys) : WfPids (xs ++ ys) := fun p hp => (List.mem_append.1 hp).elim (h1 p) (h2 p)
theorem wf_minus {xs ys : List Pid} (h1 : WfPids xs) : WfPids (minusP xs ys) := fun p hp => h1 p (List.mem_filter.1 hp).1
structure RightV (V V2 : View) (gone come : List Pid) (b : Bnd) : Prop where
  chk : refCheckB V2 = true
  fit : fitsL b V2.ls = true
  id : V2.id = V.id + 1
  i1 : 0 ≤ V.id
  i2 : V.id < 4611686018427387904
  ms : V2.ms = minusP V.ms gone ++ come
  ld : min 3 V2.ms.length ≤ V2.ds.length
  sm : greatB V2 = false
  wf : WfView V2
theorem next_right {V V2 : View} {gone come : List Pid} {b : Bnd} (h : nextV V gone come b = (V2, 0)) (hwf : WfView V) (hc : WfPids come) : RightV V V2 gone come b := by
  have h0 : (nextV V gone come b).2 = 0 := by rw [h]
  obtain ⟨g1, g2, g3, g4, g5, g6, g7, g8, g9⟩ := next_ok h0
  rw [h] at g6
  have hV := chk_parts g1
  have h1 := hV.i1
  have hw : WfView V2 := g6.wf (by omega) (wf_app (wf_minus hwf.ms) hc)
  refine ⟨?_, g6.fits, g6.id, by omega, g4, g6.ms, ?_, g6.small, hw⟩
  · rw [← check_eq V2 hw.ms]
    exact g6.check (by omega) (by omega)
  · rw [g6.ms]; exact g6.leads
end Go.Proofs.Ytbpfhclcjedkcaa

namespace Go.Proofs.Ytbpfhclcjedkcaa
open Go.RowKit
/-! ### the law LayoutRight -/
theorem refMinus_n {a b : Option Addr} {c d n m : Nat} {xs ys r : List Pid} {w : World} (hr : Hid (minusP xs ys = r)) (hn : Hid (xs.length = n)) (hm : Hid (ys.length = m)) (hn6 : n ≤ 1000) (hm6 : m ≤ 1000) (hx : PidRow w a xs) (hy : PidRow w b ys) :
    Calls Try.prog 73 #[.slice a n c, .slice b m d] w fun e w' => ∃ v, e = .returned v ∧ OwnP w' w.heap.size v r ∧ Below w.heap.size w w' := by
  have h1 := hn.out
  have h2 := hm.out
  subst h1; subst h2
  rw [← hr.out]
  exact refMinus_any a c xs b d ys w (by omega) (by omega) hx hy
def great17B (V : View) (G C : Nat) : Bool := greatB V || (decide (40 < G) || decide (40 < C))
set_option maxRecDepth 100000 in
set_option maxHeartbeats 1600000 in
theorem great17_any {V : View} {am al ad ag ac : Option Addr} {cm cl cd kg kc G C : Nat} {w : World} {r : Bool} (hr : Hid (great17B V G C = r)) (hV : ViewR w am al ad V) :
    Calls Try.prog 71 #[.agg #[.int .u64 V.id, .slice am V.ms.length cm, .slice al V.ls.length cl, .slice ad V.ds.length cd], .slice ag G kg, .slice ac C kc] w fun e w' => e = .returned (.bool r) ∧ Below w.heap.size w w' := by
  obtain ⟨W1, hW1⟩ : ∃ W1, w.alloc (.cells #[.int .u64 V.id, .slice am V.ms.length cm, .slice al V.ls.length cl, .slice ad V.ds.length cd] 33) = W1 := ⟨_, rfl⟩
  have b1 : Below w.heap.size w W1 := by rw [← hW1]; exact (Below.refl _ _).alloc (Nat.le_refl _) _
  have x1 : ViewBox W1 w.heap.size V am al ad cm cl cd := by rw [← hW1]; exact ViewBox.made (V := V) w
  obtain ⟨gv, hgv⟩ : ∃ r, greatB V = r := ⟨_, rfl⟩
  have C1 := hid (great_is (cm := cm) (cl := cl) (cd := cd) (hid hgv) (hV.ext b1))
  have hrr := hr.out
  unfold great17B at hrr
  rw [hgv] at hrr
  obtain ⟨v0, v1, v2, v3⟩ := id x1
  have HB1 := hid b1
  have go : ∀ (gg cc : Bool), decide (40 < G) = gg → decide (40 < C) = cc → (gv || (gg || cc)) = r → Calls Try.prog 71 #[.agg #[.int .u64 V.id, .slice am V.ms.length cm, .slice al V.ls.length cl, .slice ad V.ds.length cd], .slice ag G kg, .slice ac C kc] w fun e w' => e = .returned (.bool r) ∧ Below w.heap.size w w' := by
    intro gg cc h1 h2 h3
    have p1 : decide ((G : Int) > 40) = gg := by rw [← h1]; exact decide_eq_decide.2 (by omega)
    have p2 : decide ((40 : Int) < (G : Int)) = gg := by rw [← h1]; exact decide_eq_decide.2 (by omega)
    have q1 : decide ((C : Int) > 40) = cc := by rw [← h2]; exact decide_eq_decide.2 (by omega)
    have q2 : decide ((40 : Int) < (C : Int)) = cc := by rw [← h2]; exact decide_eq_decide.2 (by omega)
    clear hr hrr hgv b1 x1 hV
    cases gv <;> cases gg <;> cases cc <;> (
      have h3 : _ = r := h3
      simp only [Bool.or_true, Bool.or_false, Bool.true_or, Bool.false_or] at h3
      subst h3
      go_enter Try.func71, Try.ntmps71
      go_wp2_with fail
      (with_reducible refine C1.out.mono ?_)
      rintro e w3 ⟨rfl, hb3⟩
      have HB3 := hid (HB1.out.trans (hb3.mono HB1.out.size))
      clear hb3 C1 v0 v1 v2 v3 hW1
      go_wp2
      go_ret
      exact ⟨rfl, HB3.out⟩)
  exact go _ _ rfl rfl hrr
set_option maxRecDepth 100000 in
set_option maxHeartbeats 6400000 in
theorem layoutRight_law {V : View} {b : Bnd} {gone come : List Pid} {am al ad ag ac : Option Addr} {cm cl cd kg kc : Nat} {w : World} (hV : ViewR w am al ad V) (hwf : WfView V) (hrg : PidRow w ag gone) (_hwg : WfPids gone) (_hlg : gone.length ≤ 17592186044416 ∧ gone.length ≤ kg) (hrc : PidRow w ac come) (hwc : WfPids come) (_hlc : come.length ≤ 17592186044416 ∧ come.length ≤ kc) (hbo : BndOk b) :
    Calls Try.prog 14 #[.agg #[.int .u64 V.id, .slice am V.ms.length cm, .slice al V.ls.length cl, .slice ad V.ds.length cd], .slice ag gone.length kg, .slice ac come.length kc, .agg #[.int .i64 b.least, .int .i64 b.most, .int .i64 b.tmo]] w fun e w' => e = .returned (.bool true) ∧ Below w.heap.size w w' := by
  obtain ⟨W2, hW2⟩ : ∃ W2, ((w.alloc (.cells #[.int .u64 V.id, .slice am V.ms.length cm, .slice al V.ls.length cl, .slice ad V.ds.length cd] 33)).alloc (.cells #[.int .i64 b.least, .int .i64 b.most, .int .i64 b.tmo] 117)) = W2 := ⟨_, rfl⟩
  have hT : DuoBox W2 w b V am al ad cm cl cd := by rw [← hW2]; exact DuoBox.made w b V am al ad cm cl cd
  obtain ⟨G, hG⟩ : ∃ n, gone.length = n := ⟨_, rfl⟩
  obtain ⟨C, hC⟩ : ∃ n, come.length = n := ⟨_, rfl⟩
  rw [hG, hC]
  obtain ⟨gv, hgv⟩ : ∃ r, great17B V G C = r := ⟨_, rfl⟩
  have hV2 := hV.ext hT.bl
  have C1 := hid (great17_any (ag := ag) (ac := ac) (kg := kg) (kc := kc) (cm := cm) (cl := cl) (cd := cd) (hid hgv) hV2)
  have HT := hid hT
  have HV2 := hid hV2
  have HG := hid hG
  have HC := hid hC
  obtain ⟨v0, v1, v2, v3⟩ := id hT.vw
  cases gv
  case true =>
    clear hT hV hV2 hgv hbo hwf hG hC hrg hrc hwc _hwg _hlg _hlc
    go_enter Try.func14, Try.ntmps14
    go_wp2_with fail
    (with_reducible refine C1.out.mono ?_)
    rintro e w3 ⟨rfl, hb3⟩
    have HB3 := hid (HT.out.ext hb3).bl
    have CA := hid (awakeL_any w3)
    clear hb3 C1 v0 v1 v2 v3 hW2
    go_wp2_with fail
    (with_reducible refine CA.out.mono ?_)
    rintro e w4 ⟨rfl, hb4⟩
    have HB4 := hid (HB3.out.trans (hb4.mono HB3.out.size))
    clear hb4 CA
    go_wp2
    go_ret
    exact ⟨rfl, HB4.out⟩
  case false =>
  obtain ⟨hg0, hG4, hC4⟩ : greatB V = false ∧ G ≤ 40 ∧ C ≤ 40 := by
    unfold great17B at hgv
    simp only [Bool.or_eq_false_iff, decide_eq_false_iff_not] at hgv
    exact ⟨hgv.1, by omega, by omega⟩
  obtain ⟨V2, er, hN⟩ : ∃ V2 er, nextV V gone come b = (V2, er) := ⟨_, _, rfl⟩
  have hrg2 := hrg.ext hT.bl
  have hrc2 := hrc.ext hT.bl
  have CN : Hid (∀ X, Below W2.heap.size W2 X → Calls Try.prog 72 #[.agg #[.int .u64 V.id, .slice am V.ms.length cm, .slice al V.ls.length cl, .slice ad V.ds.length cd], .slice ag G kg, .slice ac C kc, .agg #[.int .i64 b.least, .int .i64 b.most, .int .i64 b.tmo]] X fun e w' => BuildRes V2 er X.heap.size (fun _ => False) X e w') := hid fun X h => next_any (hid hN) (hV2.ext h) hwf hg0 HG HC (by omega) (by omega) (hrg2.ext h) (hrc2.ext h) (fun p hp => by have := hwc p hp; unfold ok; exact this) hbo
  have HRG2 := hid hrg2
  have HRC2 := hid hrc2
  have HN := hid hN
  have HWF := hid hwf
  have HWC := hid hwc
  have HG0 := hid hg0
  have HG4 := hid hG4
  have HC4 := hid hC4
  have HBO := hid hbo
  clear hT hV hV2 hgv hbo hwf hN hG hC hrg hrc hwc _hwg _hlg _hlc hrg2 hrc2 hg0 hG4 hC4
  go_enter Try.func14, Try.ntmps14
  go_wp2_with fail
  (with_reducible refine C1.out.mono ?_)
  rintro e w3 ⟨rfl, hb3⟩
  have CNw := CN.out _ hb3
  have HT3 := hid (HT.out.ext hb3)
  have HB23 := hid hb3
  clear hb3 C1 v0 v1 v2 v3 hW2 CN
  obtain ⟨v0, v1, v2, v3⟩ := HT3.out.vw
  obtain ⟨z0, z1, z2⟩ := HT3.out.bx
  go_wp2_with fail
  (with_reducible refine CNw.mono ?_)
  rintro e w4 hres
  unfold BuildRes at hres
  obtain ⟨qm, ql, qd, km, kl, kd, rfl, hst, hm⟩ := hres
  have hb34 : Below w3.heap.size w3 w4 := hm.below (Nat.le_refl _) (fun _ e => e.elim)
  have hvr := hst.r
  obtain ⟨W5, hW5⟩ : ∃ W5, w4.alloc (.cells #[.int .u64 V2.id, .slice qm V2.ms.length km, .slice ql V2.ls.length kl, .slice qd V2.ds.length kd] 33) = W5 := ⟨_, rfl⟩
  have hb45 : Below w4.heap.size w4 W5 := by rw [← hW5]; exact (Below.refl _ _).alloc (Nat.le_refl _) _
  have y5 : ViewBox W5 w4.heap.size V2 qm ql qd km kl kd := by rw [← hW5]; exact ViewBox.made (V := V2) w4
  have hb35 := hb34.trans (hb45.mono hb34.size)
  have HB25 := hid (HB23.out.trans (hb35.mono HB23.out.size))
  have HT5 := hid (HT3.out.ext hb35)
  have HY5 := hid y5
  have HVR5 := hid (hvr.ext hb45)
  clear hst hm hb34 hvr hb45 hb35 y5 CNw v0 v1 v2 v3 z0 z1 z2
  by_cases her : er = 0
  case neg =>
    have t1 : (er != 0) = true := by simpa using her
    have CA := hid (awakeL_any W5)
    have HE := hid her
    clear her
    go_wp2_with fail
    (with_reducible refine CA.out.mono ?_)
    rintro e w6 ⟨rfl, hb6⟩
    have HB6 := hid (HT5.out.bl.trans (hb6.mono HT5.out.bl.size))
    clear hb6 CA hW5
    go_wp2
    go_ret
    exact ⟨rfl, HB6.out⟩
  subst her
  have t1 : ((0 : Int) != 0) = false := by decide
  have hrt := next_right HN.out HWF.out HWC.out
  have hmsg := great_noC HG0.out
  obtain ⟨R, hR⟩ : ∃ R, minusP V.ms gone = R := ⟨_, rfl⟩
  have hRl : R.length ≤ 40 := by rw [← hR]; exact Nat.le_trans (List.length_filter_le _ _) hmsg.1
  have CM := hid (refMinus_n (c := cm) (d := kg) (hid hR) (hid rfl) HG (by omega) (by have := HG4.out; omega) (HV2.out.ext HB25.out).ms (HRG2.out.ext HB25.out))
  have HRT := hid hrt
  have HRL := hid hRl
  have HR := hid hR
  obtain ⟨v0, v1, v2, v3⟩ := HT5.out.vw
  clear hrt hmsg hRl hR
  go_wp2_with fail
  (with_reducible refine CM.out.mono ?_)
  rintro e w6 ⟨v6, rfl, hown6, hb6⟩
  have HO6 := hid hown6
  have HB56 := hid hb6
  have HZ6 := hid hb6.size
  have HRC6 := hid ((HRC2.out.ext HB25.out).ext hb6)
  have HLN : R.length + C ≤ 1099511627776 := by have := HRL.out; have := HC4.out; omega
  clear hown6 hb6 CM v0 v1 v2 v3 hW5
  go_wp2_with (at_builtin; refine wpList_appendPat HO6.out HRC6.out HC HLN HZ6.out rfl rfl rfl rfl ?_; intro v7 w7 hown7 hg7 hat7; have HB57 := hid (HB56.out.grown hg7 HZ6.out (fun g hg => (World.ownsRow.lt HO6.out g hg).1)); have HO7 := hid hown7; have hy7 := HY5.out.ext HB57.out HY5.out.lt; obtain ⟨y0, y1, y2, y3⟩ := hy7; clear hown7 hg7 hat7)
  have hms := HRT.out.ms
  rw [HR.out] at hms
  have hown7 := HO7.out
  rw [← hms] at hown7
  obtain ⟨a7, c7, e7, hr7, -⟩ := hown7.row
  subst e7
  have HR7 := hid hr7
  have hsm := great_noC HRT.out.sm
  have HVR7 := hid (HVR5.out.ext HB57.out)
  have CK := hid (refCheck_is (cm := km) (cl := kl) (cd := kd) (hid HRT.out.chk) HVR7.out (by omega))
  have HSM := hid hsm
  clear hms hown7 hr7 HLN hsm
  (with_reducible refine CK.out.mono ?_)
  rintro e w8 ⟨rfl, hb8⟩
  have HB58 := hid (HB57.out.trans (hb8.mono HB57.out.size))
  have HR8 := hid (HR7.out.ext hb8)
  have CF := hid (fits_any (b := b) (cm := km) (cl := kl) (cd := kd) (hid HRT.out.fit) (HVR5.out.ext HB58.out) (by have := HSM.out.2.1; omega))
  clear hb8 CK y0 y1 y2 y3
  obtain ⟨y0, y1, y2, y3⟩ := HY5.out.ext HB58.out HY5.out.lt
  obtain ⟨z0, z1, z2⟩ := (HT5.out.ext HB58.out).bx
  go_wp2_with fail
  (with_reducible refine CF.out.mono ?_)
  rintro e w9 ⟨rfl, hb9⟩
  have HB59 := hid (HB58.out.trans (hb9.mono HB58.out.size))
  have HR9 := hid (HR8.out.ext hb9)
  have CS := hid (sameR_is (xs := V2.ms) (ys := V2.ms) (ca := km) (cb := c7) (bm := true) (hid (by simp)) (by have := HSM.out.1; omega) (by have := HSM.out.1; omega) (HVR5.out.ext HB59.out).ms HR9.out)
  clear hb9 CF y0 y1 y2 y3 z0 z1 z2
  obtain ⟨y0, y1, y2, y3⟩ := HY5.out.ext HB59.out HY5.out.lt
  obtain ⟨v0, v1, v2, v3⟩ := (HT5.out.ext HB59.out).vw
  have hw1 : IntKind.u64.wrap (V.id + 1) = V.id + 1 := by rw [IntKind.wrap_u64]; have := HRT.out.i1; have := HRT.out.i2; omega
  have e1 : (V2.id == V.id + 1) = true := by rw [HRT.out.id]; simp
  go_wp2_with fail
  (with_reducible refine CS.out.mono ?_)
  rintro e w10 ⟨rfl, hb10⟩
  have HB50 := hid (HB59.out.trans (hb10.mono HB59.out.size))
  clear hb10 CS y0 y1 y2 y3 v0 v1 v2 v3 hw1 e1
  obtain ⟨y0, y1, y2, y3⟩ := HY5.out.ext HB50.out HY5.out.lt
  have hld := HRT.out.ld
  have e2 : decide ((V2.ds.length : Int) ≥ min 3 (V2.ms.length : Int)) = true := decide_eq_true (by omega)
  have e3 : decide (min 3 (V2.ms.length : Int) ≤ (V2.ds.length : Int)) = true := decide_eq_true (by omega)
  have CA := hid (awakeL_any w10)
  clear hld
  go_wp2_with fail
  (with_reducible refine CA.out.mono ?_)
  rintro e w11 ⟨rfl, hb11⟩
  have HB11 := hid ((HT5.out.ext HB50.out).bl.trans (hb11.mono (HT5.out.ext HB50.out).bl.size))
  clear hb11 CA y0 y1 y2 y3
  go_wp2
  go_ret
  exact ⟨rfl, HB11.out⟩
end Go.Proofs.Ytbpfhclcjedkcaa

namespace Go.Proofs.Ytbpfhclcjedkcaa
open Go.RowKit Go.Deep Go.Joins Go.ChangeShapes
/-! ### from the row's reading to bounds, and to processes -/
theorem cellsBounds : Try.prog.cellsOf 117 = 3 := by kernel_rfl
theorem list3 {α : Type} {cs : List α} (h : cs.length = 3) : ∃ c0 c1 c2, cs = [c0, c1, c2] := by
  match cs, h with
  | [c0, c1, c2], _ => exact ⟨c0, c1, c2, rfl⟩
theorem trod_struct3 {H : Type} {enc : TypeId × Value → H} {P : Program} {w : World} {base : Nat} {spare : Nat → Bool} {held : Bool} {t : TypeId} {f0 f1 f2 : Field} {fuel : Nat} {cs : List Value} {x : DataW H × List MemPlace} (ht : P.underlying t = some (.struct #[f0, f1, f2])) (h : DataW.trod enc P w base spare held fuel t cs = some x) :
    ∃ y0 y1 y2 n, x.1 = .agg [y0.1, y1.1, y2.1] ∧ cs.length = P.cellsOf t ∧ DataW.trod enc P w base spare held n f0.type ((cs.drop f0.offset).take (P.cellsOf f0.type)) = some y0 ∧ DataW.trod enc P w base spare held n f1.type ((cs.drop f1.offset).take (P.cellsOf f1.type)) = some y1 ∧ DataW.trod enc P w base spare held n f2.type ((cs.drop f2.offset).take (P.cellsOf f2.type)) = some y2 := by
  obtain ⟨xs, n, _, rfl, hl, hlen, hf⟩ := DataW.trod_struct ht h
  match xs, hlen with
  | [y0, y1, y2], _ => exact ⟨y0, y1, y2, n, by simp, hl, by simpa using hf 0 f0 rfl, by simpa using hf 1 f1 rfl, by simpa using hf 2 f2 rfl⟩
section
variable {H : Type} {enc : TypeId × Value → H} {w : World}
set_option maxRecDepth 100000 in
theorem open_bounds {base : Nat} {v : Value} {d : DataW H} {p : List MemPlace} (hv : Value.okWide Try.prog w .any base 117 v) (h : DataW.Trod enc Try.prog w 0 (fun _ => true) true 117 v d p) :
    ∃ b : Bnd, v = .agg #[.int .i64 b.least, .int .i64 b.most, .int .i64 b.tmo] ∧ BndOk b := by
  obtain ⟨cs, rfl, hsz⟩ := Go.WideShapes.okWide_struct Try.underlying117 hv
  obtain ⟨fuel, hf⟩ := h
  obtain ⟨y0, y1, y2, m, hx, hl, h0, h1, h2⟩ := trod_struct3 (x := (d, p)) Try.underlying117 hf
  simp only [Value.cells] at h0 h1 h2 hl
  rw [cellsBounds] at hl
  obtain ⟨v0, v1, v2, hcs⟩ := list3 hl
  rw [hcs] at h0 h1 h2
  have e0 : (([v0, v1, v2] : List Value).drop 0).take (Try.prog.cellsOf 3) = [v0] := by rw [cellsInt]; rfl
  have e1 : (([v0, v1, v2] : List Value).drop 1).take (Try.prog.cellsOf 3) = [v1] := by rw [cellsInt]; rfl
  have e2 : (([v0, v1, v2] : List Value).drop 2).take (Try.prog.cellsOf 3) = [v2] := by rw [cellsInt]; rfl
  have h0 := e0 ▸ h0
  have h1 := e1 ▸ h1
  have h2 := e2 ▸ h2
  obtain ⟨i0, hi0, _, wi0⟩ := DataW.trod_int Try.underlying3 h0
  obtain ⟨i1, hi1, _, wi1⟩ := DataW.trod_int Try.underlying3 h1
  obtain ⟨i2, hi2, _, wi2⟩ := DataW.trod_int Try.underlying3 h2
  cases hi0; cases hi1; cases hi2
  exact ⟨⟨i0, i1, i2⟩, by rw [← Array.toArray_toList (xs := cs), hcs], ⟨bounds_i64 wi0, bounds_i64 wi1⟩⟩
theorem slice_capK {t e : TypeId} (ht : Try.prog.underlying t = some (.slice e)) {a : Option Addr} {n c : Nat} {d : DataW H} {p : List MemPlace} (h : DataW.Trod enc Try.prog w 0 (fun _ => true) true t (.slice a n c) d p) : n ≤ c := by
  obtain ⟨fuel, hf⟩ := h
  rcases Go.Deep.open_slice (x := (d, p)) ht (by simpa [Value.cells] using hf) with ⟨hv, _⟩ | ⟨a, len, cap, m, k, D, Pl, hv, _, hl, _⟩
  · cases hv; exact Nat.le_refl _
  · cases hv; exact hl
set_option maxRecDepth 100000 in
theorem open_pidsK {base : Nat} {v : Value} {d : DataW H} {p : List MemPlace} (hv : Value.okWide Try.prog w .any base 30 v) (h : DataW.Trod enc Try.prog w 0 (fun _ => true) true 30 v d p) (hs : Sz 30 d) :
    ∃ (a : Option Addr) (c : Nat) (xs : List Pid), v = .slice a xs.length c ∧ PidRow w a xs ∧ WfPids xs ∧ xs.length ≤ 17592186044416 ∧ xs.length ≤ c := by
  obtain ⟨a0, len0, cap0, rfl⟩ := Go.WideShapes.okWide_slice Try.underlying30 hv
  have h0 := h
  obtain ⟨fuel, hf⟩ := h
  obtain ⟨a, c, xs, hcs, hr, hw, hl⟩ := open_pids (x := (d, p)) hf hs
  have hv1 := (List.cons.inj hcs).1
  rw [hv1] at h0
  exact ⟨a, c, xs, hv1, hr, hw, hl, slice_capK Try.underlying30 h0⟩
end
end Go.Proofs.Ytbpfhclcjedkcaa

