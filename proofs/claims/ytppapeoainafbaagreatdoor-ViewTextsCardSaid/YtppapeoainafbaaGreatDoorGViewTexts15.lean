/- Parts of the proof: Z12 G9. -/
import Derived.Lib.SlBytesRow
import Derived.Lib.BufferRead
import Derived.Test.YtppapeoainafbaaGreatDoorRA
namespace Go.Proofs.YtppapeoainafbaaGreatDoor
open Go.RowKit
/-! ### cmd.Text -/
theorem words_len {V : View} : ∀ {l : List Pid}, WfPids l → (∀ p ∈ l, ∃ k : Nat, k < 100 ∧ leafIx V.ls p = (k : Int)) → (wordsP V l).length ≤ 100 * l.length
  | [], _, _ => by simp [wordsP]
  | p :: l, hl, hk => by
    obtain ⟨g1, g2, g3, g4⟩ := hl p (List.mem_cons_self ..)
    obtain ⟨k, h1, h2⟩ := hk p (List.mem_cons_self ..)
    obtain ⟨x, y⟩ := p
    simp only at g1 g2 g3 g4
    obtain ⟨x, rfl⟩ := Int.eq_ofNat_of_zero_le g1
    obtain ⟨y, rfl⟩ := Int.eq_ofNat_of_zero_le g3
    have := wordP_len (V := V) (x := x) (y := y) (by omega) (by omega) h1 h2
    have ih := words_len (V := V) (l := l) (fun q hq => hl q (List.mem_cons_of_mem _ hq)) (fun q hq => hk q (List.mem_cons_of_mem _ hq))
    unfold wordsP
    rw [List.length_append, List.length_cons]
    omega
theorem viewP_len {V : View} (h : checkB V = true) (hw : WfPids V.ms) : (viewP V).length ≤ 3000 := by
  obtain ⟨h1, h2, h3⟩ := check_leaf h
  have l1 := words_len hw h3
  have l2 := dec_len V.id.toNat 19 (by omega)
  unfold viewP
  rw [List.length_append]
  omega
end Go.Proofs.YtppapeoainafbaaGreatDoor

namespace Go.Proofs.YtppapeoainafbaaGreatDoor
open Go.RowKit
/-! ### the law ViewTexts -/
set_option maxRecDepth 100000 in
set_option maxHeartbeats 12800000 in
theorem viewTexts_law {V : View} {am al ad : Option Addr} {cm cl cd : Nat} {s : Str} {w : World} (hV : ViewR w am al ad V) (hwf : WfView V) (he : EnvOk w) :
    Calls Tryz.prog 4 #[.agg #[.int .u64 V.id, .slice am V.ms.length cm, .slice al V.ls.length cl, .slice ad V.ds.length cd], .string ⟨s.toArray⟩] w fun e w' => e = .returned (.bool true) ∧ Below w.heap.size w w' := by
  obtain ⟨i, hi⟩ : ∃ i : Nat, V.id = (i : Int) := ⟨V.id.toNat, by have := hwf.id; omega⟩
  obtain ⟨W1, hW1⟩ : ∃ W1, w.alloc (.cells #[.int .u64 V.id, .slice am V.ms.length cm, .slice al V.ls.length cl, .slice ad V.ds.length cd] 33) = W1 := ⟨_, rfl⟩
  have hb1 : Below w.heap.size w W1 := by rw [← hW1]; exact (Below.refl _ _).alloc (Nat.le_refl _) _
  have hx1 : BoxV W1 w.heap.size (.int .u64 V.id) (.slice am V.ms.length cm) (.slice al V.ls.length cl) (.slice ad V.ds.length cd) := by rw [← hW1]; exact BoxV.made w _ _ _ _ _
  have HX : Hid (∀ W, Below W1.heap.size W1 W → BoxV W w.heap.size (.int .u64 V.id) (.slice am V.ms.length cm) (.slice al V.ls.length cl) (.slice ad V.ds.length cd)) := hid fun W h => hx1.ext h
  have HV : Hid (∀ W, Below W1.heap.size W1 W → ViewR W am al ad V) := hid fun W h => (hV.ext hb1).ext h
  have HE : Hid (∀ W, Below W1.heap.size W1 W → EnvOk W) := hid fun W h => (he.ext hb1).ext h
  have HB1 := hid hb1
  have HWF := hid hwf
  have HI := hid hi
  have H1 := Below.refl W1.heap.size W1
  obtain ⟨v0, v1, v2, v3, -, -, -, -⟩ := id hx1
  have AW : Hid (∀ W, Below W1.heap.size W1 W → Calls Tryz.prog 13 #[] W fun e w' => e = .returned (.bool true) ∧ Below W1.heap.size W1 w') := hid fun W h => relB h (awake_any W)
  obtain ⟨g, hg⟩ : ∃ g, greatB V = g := ⟨_, rfl⟩
  have GA : Hid (Calls Tryz.prog 12 #[.agg #[.int .u64 V.id, .slice am V.ms.length cm, .slice al V.ls.length cl, .slice ad V.ds.length cd]] W1 fun e w' => e = .returned (.bool g) ∧ Below W1.heap.size W1 w') := hid (great_is (cm := cm) (cl := cl) (cd := cd) (hid hg) (HV.out _ H1))
  clear hV he hb1 hx1 hwf hi
  cases g
  case true =>
    clear hg
    go_enter Tryz.func4, Tryz.ntmps4
    go_wp2_with (first
      | (go_at_call 12; (with_reducible refine GA.out.mono ?_); rintro e w3 ⟨rfl, hb3⟩)
      | (go_at_call 13; (with_reducible refine (AW.out _ hb3).mono ?_); rintro e w9 ⟨rfl, hb9⟩))
    go_ret
    exact ⟨rfl, HB1.out.trans (hb9.mono HB1.out.size)⟩
  obtain ⟨g1, g2, g3, g4, g5⟩ := great_no hg
  by_cases h400 : 400 < s.length
  case pos =>
    have d1 : decide ((s.length : Int) > 400) = true := decide_eq_true (by omega)
    have d2 : decide (400 < (s.length : Int)) = true := decide_eq_true (by omega)
    have d3 : decide (400 < s.length) = true := decide_eq_true h400
    clear hg g1 g2 g3 g4 g5
    go_enter Tryz.func4, Tryz.ntmps4
    go_wp2_with (first
      | (go_at_call 12; (with_reducible refine GA.out.mono ?_); rintro e w3 ⟨rfl, hb3⟩)
      | (go_at_call 13; (with_reducible refine (AW.out _ hb3).mono ?_); rintro e w9 ⟨rfl, hb9⟩))
    go_ret
    exact ⟨rfl, HB1.out.trans (hb9.mono HB1.out.size)⟩
  have d1 : decide ((s.length : Int) > 400) = false := decide_eq_false (by omega)
  have d2 : decide (400 < (s.length : Int)) = false := decide_eq_false (by omega)
  have d3 : decide (400 < s.length) = false := decide_eq_false h400
  have HS4 : Hid (s.length ≤ 400) := hid (by omega)
  have HSUM : Hid (lens V.ls ≤ 549755813888) := hid (by omega)
  obtain ⟨r, hr⟩ : ∃ r, viewOf s = r := ⟨_, rfl⟩
  have hr2 : viewOfR s = r := by rw [← viewOf_eq]; exact hr
  obtain ⟨X, hX⟩ : ∃ X, resV r = X := ⟨_, rfl⟩
  obtain ⟨k, hk⟩ : ∃ k, resC r = k := ⟨_, rfl⟩
  have P1 : Hid (∀ W, Below W1.heap.size W1 W → Calls Tryz.prog 14 #[.string ⟨s.toArray⟩] W fun e w' => ∃ (am al ad : Option Addr) (cm cl cd : Nat), e = .returned (.tuple #[.agg #[.int .u64 X.id, .slice am X.ms.length cm, .slice al X.ls.length cl, .slice ad X.ds.length cd], .int .i64 k]) ∧ ViewR w' am al ad X ∧ Below W.heap.size W w') := hid fun W h => by
    have := viewParse_any s (by have := HS4.out; omega) W (HE.out W h) (hid hr)
    unfold ParseRes at this
    rw [hX, hk] at this
    exact this
  have P2 : Hid (∀ W, Calls Tryz.prog 15 #[.string ⟨s.toArray⟩] W fun e w' => ∃ (am al ad : Option Addr) (cm cl cd : Nat), e = .returned (.tuple #[.agg #[.int .u64 X.id, .slice am X.ms.length cm, .slice al X.ls.length cl, .slice ad X.ds.length cd], .int .i64 k]) ∧ ViewR w' am al ad X ∧ Below W.heap.size W w') := hid fun W => by
    have := viewParseR_any s (by have := HS4.out; omega) W (hid hr2)
    unfold ParseRes at this
    rw [hX, hk] at this
    exact this
  clear hg g1 g2 g3 g4 g5 h400 hr hr2 hX hk
  go_enter Tryz.func4, Tryz.ntmps4
  go_wp2_with (go_at_call 12; (with_reducible refine GA.out.mono ?_); rintro e w2 ⟨rfl, hb2⟩; have HB2 := hid hb2; clear hb2)
  (refine (P1.out _ HB2.out).mono ?_)
  rintro e w3 ⟨a1, a2, a3, e1, e2, e3, rfl, hv3, hb3⟩
  obtain ⟨W4, hW4⟩ : ∃ W4, w3.alloc (.cells #[.int .u64 X.id, .slice a1 X.ms.length e1, .slice a2 X.ls.length e2, .slice a3 X.ds.length e3] 33) = W4 := ⟨_, rfl⟩
  have hb4 : Below w3.heap.size w3 W4 := by rw [← hW4]; exact (Below.refl _ _).alloc (Nat.le_refl _) _
  have hx4 : BoxV W4 w3.heap.size (.int .u64 X.id) (.slice a1 X.ms.length e1) (.slice a2 X.ls.length e2) (.slice a3 X.ds.length e3) := by rw [← hW4]; exact BoxV.made w3 _ _ _ _ _
  obtain ⟨q1, hq1⟩ : ∃ q, w3.heap.size = q := ⟨_, rfl⟩
  rw [hq1] at hx4
  have HB3 := hid (HB2.out.trans (hb3.mono HB2.out.size))
  have HB4 := hid (HB3.out.trans (hb4.mono HB3.out.size))
  have HV4 := hid (hv3.ext hb4)
  have HX4 := hid hx4
  clear hb3 hb4 hx4 hv3 GA v0 v1 v2 v3 hW1 d1 d2 d3 HB2 HB3 P1
  go_wp2_with fail
  clear hW4 hq1
  (refine (P2.out _).mono ?_)
  rintro e w5 ⟨f1, f2, f3, j1, j2, j3, rfl, hv5, hb5⟩
  obtain ⟨W6, hW6⟩ : ∃ W6, w5.alloc (.cells #[.int .u64 X.id, .slice f1 X.ms.length j1, .slice f2 X.ls.length j2, .slice f3 X.ds.length j3] 33) = W6 := ⟨_, rfl⟩
  have hb6 : Below w5.heap.size w5 W6 := by rw [← hW6]; exact (Below.refl _ _).alloc (Nat.le_refl _) _
  have hx6 : BoxV W6 w5.heap.size (.int .u64 X.id) (.slice f1 X.ms.length j1) (.slice f2 X.ls.length j2) (.slice f3 X.ds.length j3) := by rw [← hW6]; exact BoxV.made w5 _ _ _ _ _
  have hb46 : Below W4.heap.size W4 W6 := hb5.trans (hb6.mono hb5.size)
  obtain ⟨x0, x1, x2, x3, -, -, -, -⟩ := HX4.out.ext hb46
  obtain ⟨y0, y1, y2, y3, -, -, -, -⟩ := id hx6
  have HB6 := hid (HB4.out.trans (hb46.mono HB4.out.size))
  have SM : Hid (Calls Tryz.prog 16 #[.agg #[.int .u64 X.id, .slice a1 X.ms.length e1, .slice a2 X.ls.length e2, .slice a3 X.ds.length e3], .agg #[.int .u64 X.id, .slice f1 X.ms.length j1, .slice f2 X.ls.length j2, .slice f3 X.ds.length j3]] W6 fun e w' => e = .returned (.bool true) ∧ Below W6.heap.size W6 w') := hid (refSame_is (hid (sameB_refl X)) (HV4.out.ext hb46) (hv5.ext hb6))
  have hkk : (k != k) = false := by simp
  clear hb5 hb6 hx6 hb46 hv5 HX4 HV4 HB4 P2
  go_wp2_with (go_at_call 16; (with_reducible refine SM.out.mono ?_); rintro e w7 ⟨rfl, hb7⟩; have HB7 := hid (HB6.out.trans (hb7.mono HB6.out.size)); obtain ⟨v0, v1, v2, v3, -, -, -, -⟩ := HX.out _ HB7.out; clear hb7)
  clear hW6 x0 x1 x2 x3 y0 y1 y2 y3 SM hkk HB6
  have CK : Hid (∀ W, Below W1.heap.size W1 W → Calls Tryz.prog 18 #[.agg #[.int .u64 V.id, .slice am V.ms.length cm, .slice al V.ls.length cl, .slice ad V.ds.length cd]] W fun e w' => e = .returned (.bool (refCheckB V)) ∧ Below W1.heap.size W1 w') := hid fun W h => relB h (refCheck_any V am al ad cm cl cd W (HV.out _ h) HSUM.out)
  cases hc : refCheckB V
  case false =>
    rw [hc] at CK
    have PN := hid (viewPrintNo_any (cm := cm) (cl := cl) (cd := cd) (HV.out _ HB7.out) HSUM.out (hid ((check_eq _ HWF.out.ms).trans hc)))
    clear hc
    (refine PN.out.mono ?_)
    rintro e w8 ⟨rfl, hb8⟩
    have HB8 := hid (HB7.out.trans (hb8.mono HB7.out.size))
    clear hb8 PN v0 v1 v2 v3
    obtain ⟨v0, v1, v2, v3, -, -, -, -⟩ := HX.out _ HB8.out
    go_wp2_with (first
      | (go_at_call 18; (with_reducible refine (CK.out _ HB8.out).mono ?_); rintro e w9 ⟨rfl, hb9⟩)
      | (go_at_call 13; (with_reducible refine (AW.out _ hb9).mono ?_); rintro e w10 ⟨rfl, hb10⟩))
    go_ret
    exact ⟨rfl, HB1.out.trans (hb10.mono HB1.out.size)⟩
  case true =>
    rw [hc] at CK
    have hcb : checkB V = true := (check_eq _ HWF.out.ms).trans hc
    have hvl : (viewP V).length ≤ 100000 := by have := viewP_len hcb HWF.out.ms; omega
    have hback := viewOf_back hcb HWF.out.ms
    have PY : Hid (∀ W, Below W1.heap.size W1 W → Calls Tryz.prog 17 #[.agg #[.int .u64 V.id, .slice am V.ms.length cm, .slice al V.ls.length cl, .slice ad V.ds.length cd]] W fun e w' => e = .returned (.tuple #[.string ⟨(viewP V).toArray⟩, .int .i64 0]) ∧ Below W1.heap.size W1 w') := hid fun W h => relB h (by
      have := viewPrint_any (cm := cm) (cl := cl) (cd := cd) HI.out (HV.out _ h) HWF.out.ms HSUM.out (hid hcb) (HE.out _ h).tab
      rw [← HI.out] at this
      exact this)
    have RY : Hid (∀ W, Below W1.heap.size W1 W → Calls Tryz.prog 19 #[.agg #[.int .u64 V.id, .slice am V.ms.length cm, .slice al V.ls.length cl, .slice ad V.ds.length cd]] W fun e w' => e = .returned (.string ⟨(viewP V).toArray⟩) ∧ Below W.heap.size W w') := hid fun W h => by
      have := refViewPrint_any (cm := cm) (cl := cl) (cd := cd) HI.out (HV.out _ h) HWF.out.ms (hid hcb)
      rw [← HI.out] at this
      exact this
    have P3 : Hid (∀ W, Below W1.heap.size W1 W → Calls Tryz.prog 14 #[.string ⟨(viewP V).toArray⟩] W fun e w' => ∃ (am al ad : Option Addr) (cm cl cd : Nat), e = .returned (.tuple #[.agg #[.int .u64 V.id, .slice am V.ms.length cm, .slice al V.ls.length cl, .slice ad V.ds.length cd], .int .i64 0]) ∧ ViewR w' am al ad V ∧ Below W.heap.size W w') := hid fun W h => viewParse_any (viewP V) hvl W (HE.out W h) (hid hback)
    obtain ⟨T, hT⟩ : ∃ T, viewP V = T := ⟨_, rfl⟩
    rw [hT] at PY RY P3
    have hTT : (T == T) = true := by simp
    have hTN : (T != T) = false := by simp
    clear hc hcb hvl hback hT
    (refine (PY.out _ HB7.out).mono ?_)
    rintro e w8 ⟨rfl, hb8⟩
    have HB8 := hid hb8
    clear hb8 v0 v1 v2 v3
    obtain ⟨v0, v1, v2, v3, -, -, -, -⟩ := HX.out _ HB8.out
    go_wp2_with (go_at_call 18; (with_reducible refine (CK.out _ HB8.out).mono ?_); rintro e w9 ⟨rfl, hb9⟩; have HB9 := hid hb9; clear hb9)
    clear v0 v1 v2 v3
    (refine (P3.out _ HB9.out).mono ?_)
    rintro e w10 ⟨f1, f2, f3, j1, j2, j3, rfl, hv10, hb10⟩
    have hb10' := HB9.out.trans (hb10.mono HB9.out.size)
    obtain ⟨W11, hW11⟩ : ∃ W11, w10.alloc (.cells #[.int .u64 V.id, .slice f1 V.ms.length j1, .slice f2 V.ls.length j2, .slice f3 V.ds.length j3] 33) = W11 := ⟨_, rfl⟩
    have hb11 : Below w10.heap.size w10 W11 := by rw [← hW11]; exact (Below.refl _ _).alloc (Nat.le_refl _) _
    have hx11 : BoxV W11 w10.heap.size (.int .u64 V.id) (.slice f1 V.ms.length j1) (.slice f2 V.ls.length j2) (.slice f3 V.ds.length j3) := by rw [← hW11]; exact BoxV.made w10 _ _ _ _ _
    have HB11 := hid (hb10'.trans (hb11.mono hb10'.size))
    obtain ⟨q2, hq2⟩ : ∃ q, w10.heap.size = q := ⟨_, rfl⟩
    rw [hq2] at hx11
    have HX11 : Hid (∀ W, Below W11.heap.size W11 W → BoxV W q2 (.int .u64 V.id) (.slice f1 V.ms.length j1) (.slice f2 V.ls.length j2) (.slice f3 V.ds.length j3)) := hid fun W h => hx11.ext h
    have hv11 := hv10.ext hb11
    have SM : Hid (∀ W, Below W11.heap.size W11 W → Calls Tryz.prog 16 #[.agg #[.int .u64 V.id, .slice f1 V.ms.length j1, .slice f2 V.ls.length j2, .slice f3 V.ds.length j3], .agg #[.int .u64 V.id, .slice am V.ms.length cm, .slice al V.ls.length cl, .slice ad V.ds.length cd]] W fun e w' => e = .returned (.bool true) ∧ Below W11.heap.size W11 w') := hid fun W h => relB h (refSame_is (hid (sameB_refl V)) (hv11.ext h) (HV.out _ (HB11.out.trans (h.mono HB11.out.size))))
    obtain ⟨v0, v1, v2, v3, -, -, -, -⟩ := HX.out _ HB11.out
    have RY2 : Hid (∀ W, Below W11.heap.size W11 W → Calls Tryz.prog 19 #[.agg #[.int .u64 V.id, .slice am V.ms.length cm, .slice al V.ls.length cl, .slice ad V.ds.length cd]] W fun e w' => e = .returned (.string ⟨T.toArray⟩) ∧ Below W1.heap.size W1 w' ∧ Below W11.heap.size W11 w') := hid fun W h => (RY.out _ (HB11.out.trans (h.mono HB11.out.size))).mono fun e w' ⟨h1, h2⟩ => ⟨h1, (HB11.out.trans (h.mono HB11.out.size)).trans (h2.mono (HB11.out.trans (h.mono HB11.out.size)).size), h.trans (h2.mono h.size)⟩
    clear hb10 hb10' hb11 hx11 hv10 hv11 P3 PY CK HB8 HB9
    go_wp2_with (first
      | (go_at_call 19; (with_reducible refine (RY2.out _ (Below.refl _ _)).mono ?_); rintro e w12 ⟨rfl, hb12, hb12'⟩; obtain ⟨v0, v1, v2, v3, -, -, -, -⟩ := HX.out _ hb12; obtain ⟨x0, x1, x2, x3, -, -, -, -⟩ := HX11.out _ hb12')
      | (go_at_call 16; (with_reducible refine (SM.out _ hb12').mono ?_); rintro e w13 ⟨rfl, hb13⟩)
      | (go_at_call 13; (with_reducible refine (AW.out _ (HB11.out.trans (hb13.mono HB11.out.size))).mono ?_); rintro e w14 ⟨rfl, hb14⟩))
    go_ret
    exact ⟨rfl, HB1.out.trans (hb14.mono HB1.out.size)⟩
end Go.Proofs.YtppapeoainafbaaGreatDoor

