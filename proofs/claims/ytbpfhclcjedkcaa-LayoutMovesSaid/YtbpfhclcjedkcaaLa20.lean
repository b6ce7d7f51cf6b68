/- Parts of the proof: X103. -/
import Derived.Test.YtbpfhclcjedkcaaX102
namespace Go.Proofs.Ytbpfhclcjedkcaa
open Go.RowKit
/-! ### layout: First -/
theorem inLL_nil {b : Nat} : ¬ inLL (.slice none 0 0) [] b := by
  rintro (h | ⟨s, hs, -⟩)
  · cases h
  · cases hs
theorem Parts.none : Parts [] [] := ⟨List.Pairwise.nil, fun _ hl => (by cases hl), List.Perm.refl _⟩
theorem Stab.mono {base b' : Nat} {w : World} {am al ad : Option Addr} {V : View} (h : Stab base w am al ad V) (hb : b' ≤ base) : Stab b' w am al ad V :=
  fun G hG W' hm => h G (fun k hk => by have := hG k hk; omega) W' hm
theorem Stab.mut {base : Nat} {G : Nat → Prop} {w w' : World} {am al ad : Option Addr} {V : View} (h : Stab base w am al ad V) (hm : Mut G w w') (hG : ∀ k, G k → k < base) : Stab base w' am al ad V :=
  fun G2 hG2 W' hm2 => h (fun k => G k ∨ G2 k) (fun k hk => hk.elim (hG k) (hG2 k)) W' ((hm.mono fun _ _ e => .inl e).trans (hm2.mono fun _ _ e => .inr e))
theorem lcheck_is {b : Bnd} {w : World} {r : Bool} {k : Int} (hr : Hid (bchk b = r)) (hk : chkL r = k) (hb : BndOk b) :
    Calls Try.prog 163 #[.agg #[.int .i64 b.least, .int .i64 b.most, .int .i64 b.tmo]] w fun e w' => e = .returned (.int .i64 k) ∧ Below w.heap.size w w' := by
  have := lcheck_any (w := w) hb
  rw [hr.out, hk] at this
  exact this
structure TwoBox (W2 w : World) (b : Bnd) : Prop where
  bl : Below w.heap.size w W2
  sz : W2.heap.size = w.heap.size + 1 + 1
  bx : BndBox W2 w.heap.size b
  vx : BoxV W2 (w.heap.size + 1) (.int .u64 0) (.slice none 0 0) (.slice none 0 0) (.slice none 0 0)
theorem TwoBox.made (w : World) (b : Bnd) : TwoBox ((w.alloc (.cells #[.int .i64 b.least, .int .i64 b.most, .int .i64 b.tmo] 117)).alloc (.cells #[.int .u64 0, .slice none 0 0, .slice none 0 0, .slice none 0 0] 33)) w b := by
  refine ⟨((Below.refl _ _).alloc (Nat.le_refl _) _).alloc (by simp) _, by simp, (BndBox.made w).ext ((Below.refl _ _).alloc (Nat.le_refl _) _) (by simp), ?_⟩
  have := BoxV.made (w.alloc (.cells #[.int .i64 b.least, .int .i64 b.most, .int .i64 b.tmo] 117)) 33 (.int .u64 0) (.slice none 0 0) (.slice none 0 0) (.slice none 0 0)
  simpa using this
theorem mut4 {w : World} {b : Nat} {v0 v1 v2 v3 : Value} : Mut (fun k => k = b) w ((((w.setCell ⟨b, 0, none⟩ v0).setCell ⟨b, 1, none⟩ v1).setCell ⟨b, 2, none⟩ v2).setCell ⟨b, 3, none⟩ v3) := ((mut1.trans mut1).trans mut1).trans mut1
set_option maxRecDepth 100000 in
set_option maxHeartbeats 3200000 in
theorem first_any {w : World} {l : List Pid} {b : Bnd} {a : Option Addr} {c n : Nat} {V : View} {er : Int} (hV : Hid (firstV l b = (V, er))) (hn : Hid (l.length = n)) (hnl : n ≤ 1000) (hrow : PidRow w a l) (hok : ∀ p ∈ l, ok p) (hbo : BndOk b) :
    Calls Try.prog 69 #[.slice a n c, .agg #[.int .i64 b.least, .int .i64 b.most, .int .i64 b.tmo]] w fun e w' => BuildRes V er w.heap.size (fun _ => False) w e w' := by
  obtain ⟨W2, hW2⟩ : ∃ W2, ((w.alloc (.cells #[.int .i64 b.least, .int .i64 b.most, .int .i64 b.tmo] 117)).alloc (.cells #[.int .u64 0, .slice none 0 0, .slice none 0 0, .slice none 0 0] 33)) = W2 := ⟨_, rfl⟩
  have hT : TwoBox W2 w b := by rw [← hW2]; exact TwoBox.made w b
  have HT := hid hT
  obtain ⟨rb, hrb⟩ : ∃ r, bchk b = r := ⟨_, rfl⟩
  obtain ⟨rm, hrm⟩ : ∃ r, mayAll l = r := ⟨_, rfl⟩
  obtain ⟨c0, c1, c2⟩ := id hT.bx
  have HOK := hid hok
  have HROW := hid hrow
  clear hT hok hrow
  cases rb
  case false =>
    have hv : (zeroV, (1 : Int)) = (V, er) := by rw [← hV.out]; unfold firstV; rw [if_pos (.inl hrb)]
    obtain ⟨rfl, rfl⟩ : zeroV = V ∧ 1 = er := by simpa using hv
    have C1 := hid (lcheck_is (w := W2) (k := 1) (hid hrb) rfl hbo)
    have t1 : ((1 : Int) != 0) = true := by decide
    clear hV hv hrb hrm
    go_enter Try.func69, Try.ntmps69
    go_wp2_with fail
    (with_reducible refine C1.out.mono ?_)
    rintro e w3 ⟨rfl, hb3⟩
    obtain ⟨d0, d1, d2, d3, g0, g1, g2, g3⟩ := HT.out.vx.ext hb3
    have DD := hid ((HT.out.vx.ext hb3).put (.int .u64 0) (.slice none 0 0) (.slice none 0 0) (.slice none 0 0))
    have HB3 := hid (HT.out.bl.trans (hb3.mono HT.out.bl.size))
    clear hb3 C1 c0 c1 c2 hW2
    go_wp2_with fail
    obtain ⟨q0, q1, q2, q3, -, -, -, -⟩ := DD.out
    exact bodyPost_ret (v := .tuple #[.agg #[.int .u64 0, .slice none 0 0, .slice none 0 0, .slice none 0 0], .int .i64 1]) (by simp [results, Try.results69, go_sem, q0, q1, q2, q3]) rfl
      (BuildRes.zero (Mut.of_below (below_put4 HB3.out (by omega))))
  case true =>
    have C1 := hid (lcheck_is (w := W2) (k := 0) (hid hrb) rfl hbo)
    have CM : Hid (∀ W, Below W2.heap.size W2 W → Calls Try.prog 164 #[.slice a n c] W fun e w' => e = .returned (.bool rm) ∧ Below W.heap.size W w') := hid fun W h => lmay_any (hid hrm) hn (by omega) ((HROW.out.ext HT.out.bl).ext h)
    have t1 : ((0 : Int) != 0) = false := by decide
    cases rm
    case false =>
      have hv : (zeroV, (1 : Int)) = (V, er) := by rw [← hV.out]; unfold firstV; rw [if_pos (.inr hrm)]
      obtain ⟨rfl, rfl⟩ : zeroV = V ∧ 1 = er := by simpa using hv
      clear hV hv hrb hrm
      go_enter Try.func69, Try.ntmps69
      go_wp2_with fail
      (with_reducible refine C1.out.mono ?_)
      rintro e w3 ⟨rfl, hb3⟩
      have CMw := CM.out _ hb3
      clear c0 c1 c2 C1 CM
      go_wp2_with fail
      (with_reducible refine CMw.mono ?_)
      rintro e w4 ⟨rfl, hb4⟩
      have hb24 := hb3.trans (hb4.mono hb3.size)
      obtain ⟨d0, d1, d2, d3, g0, g1, g2, g3⟩ := HT.out.vx.ext hb24
      have DD := hid ((HT.out.vx.ext hb24).put (.int .u64 0) (.slice none 0 0) (.slice none 0 0) (.slice none 0 0))
      have HB3 := hid (HT.out.bl.trans (hb24.mono HT.out.bl.size))
      clear hb3 hb4 hb24 CMw hW2
      go_wp2_with fail
      obtain ⟨q0, q1, q2, q3, -, -, -, -⟩ := DD.out
      exact bodyPost_ret (v := .tuple #[.agg #[.int .u64 0, .slice none 0 0, .slice none 0 0, .slice none 0 0], .int .i64 1]) (by simp [results, Try.results69, go_sem, q0, q1, q2, q3]) rfl
        (BuildRes.zero (Mut.of_below (below_put4 HB3.out (by omega))))
    case true =>
      have hv : buildV 1 [] [] l b = (V, er) := by rw [← hV.out]; unfold firstV; rw [if_neg (by rw [hrb, hrm]; simp)]
      have HV := hid hv
      have HRB := hid hrb
      clear hV hv hrb hrm
      go_enter Try.func69, Try.ntmps69
      go_wp2_with fail
      (with_reducible refine C1.out.mono ?_)
      rintro e w3 ⟨rfl, hb3⟩
      have CMw := CM.out _ hb3
      clear c0 c1 c2 C1 CM
      go_wp2_with fail
      (with_reducible refine CMw.mono ?_)
      rintro e w4 ⟨rfl, hb4⟩
      have hb24 := hb3.trans (hb4.mono hb3.size)
      obtain ⟨c0, c1, c2⟩ := HT.out.bx.ext hb24 HT.out.bx.lt
      have HVX4 := hid (HT.out.vx.ext hb24)
      have HB3 := hid (HT.out.bl.trans (hb24.mono HT.out.bl.size))
      have HSZ4 : Hid (w.heap.size + 1 < w4.heap.size) := hid (by have := hb24.size; have := HT.out.sz; omega)
      have C3 := hid (build_any (w := w4) (base := w4.heap.size) (SN := 0) (N := 0) (ks := 0) (kc := c) (ay := none) (ac := a) HV rfl hn rfl (by omega) hnl (.inl rfl) (HROW.out.ext HB3.out) (LLs.nil _ _) (Nat.le_refl _) Parts.none List.Pairwise.nil (by simpa using HOK.out) HRB.out (fun _ _ _ _ => inLL_nil))
      clear hb3 hb4 hb24 CMw hW2
      go_wp2_with fail
      (with_reducible refine C3.out.mono ?_)
      rintro e w5 hres
      unfold BuildRes at hres
      obtain ⟨qm, ql, qd, km, kl, kd, rfl, hst, hm⟩ := hres
      have hb5 : Below w4.heap.size w4 w5 := hm.below (Nat.le_refl _) (fun k e => absurd e inLL_nil)
      have hvx5 := HVX4.out.ext hb5
      obtain ⟨d0, d1, d2, d3, g0, g1, g2, g3⟩ := id hvx5
      have DD := hid (hvx5.put (.int .u64 V.id) (.slice qm V.ms.length km) (.slice ql V.ls.length kl) (.slice qd V.ds.length kd))
      have HB5 := hid (HB3.out.trans (hb5.mono HB3.out.size))
      have HST := hid hst
      clear hvx5 hb5 hm hst C3 c0 c1 c2
      go_wp2_with fail
      obtain ⟨q0, q1, q2, q3, -, -, -, -⟩ := DD.out
      refine bodyPost_ret (v := .tuple #[.agg #[.int .u64 V.id, .slice qm V.ms.length km, .slice ql V.ls.length kl, .slice qd V.ds.length kd], .int .i64 er]) (by simp [results, Try.results69, go_sem, q0, q1, q2, q3]) rfl ?_
      unfold BuildRes
      exact ⟨qm, ql, qd, km, kl, kd, rfl, (HST.out.mut mut4 (fun k e => by have := HSZ4.out; omega)).mono (by have := HSZ4.out; omega), Mut.of_below (below_put4 HB5.out (by omega))⟩
end Go.Proofs.Ytbpfhclcjedkcaa

