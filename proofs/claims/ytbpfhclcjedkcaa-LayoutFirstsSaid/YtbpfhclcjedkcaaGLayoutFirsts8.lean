/- Parts of the proof: X103 X115. -/
import Derived.Test.YtbpfhclcjedkcaaX102
namespace Go.Proofs.Ytbpfhclcjedkcaa
open Go.RowKit
/-! ### layout: First -/
theorem inLL_nil {b : Nat} : ¬ inLL (.slice none 0 0) [] b := by
  rintro (h | ⟨s, hs, -⟩)
  · cases h
  · cases hs
theorem Parts.none : Parts [] [] := ⟨List.Pairwise.nil, fun _ hl => (by cases hl), List.Perm.refl _⟩
theorem Stab.mono {base b' : Nat} {w : World} {am al ad : Option Addr} {V : View} (h : Stab base w am al ad V) (hb : b' ≤ base) : Stab b' w am al ad V :=
  fun G hG W' hm => h G (fun k hk => by have := hG k hk; omega) W' hm
theorem Stab.mut {base : Nat} {G : Nat → Prop} {w w' : World} {am al ad : Option Addr} {V : View} (h : Stab base w am al ad V) (hm : Mut G w w') (hG : ∀ k, G k → k < base) : Stab base w' am al ad V :=
  fun G2 hG2 W' hm2 => h (fun k => G k ∨ G2 k) (fun k hk => hk.elim (hG k) (hG2 k)) W' ((hm.mono fun _ _ e => .inl e).trans (hm2.mono fun _ _ e => .inr e))
theorem lcheck_is {b : Bnd} {w : World} {r : Bool} {k : Int} (hr : Hid (bchk b = r)) (hk : chkL r = k) (hb : BndOk b) :
    Calls Try.prog 163 #[.agg #[.int .i64 b.least, .int .i64 b.most, .int .i64 b.tmo]] w fun e w' => e = .returned (.int .i64 k) ∧ Below w.heap.size w w' := by
  have := lcheck_any (w := w) hb
  rw [hr.out, hk] at this
  exact this
structure TwoBox (W2 w : World) (b : Bnd) : Prop where
  bl : Below w.heap.size w W2
  sz : W2.heap.size = w.heap.size + 1 + 1
  bx : BndBox W2 w.heap.size b
  vx : BoxV W2 (w.heap.size + 1) (.int .u64 0) (.slice none 0 0) (.slice none 0 0) (.slice none 0 0)
theorem TwoBox.made (w : World) (b : Bnd) : TwoBox ((w.alloc (.cells #[.int .i64 b.least, .int .i64 b.most, .int .i64 b.tmo] 117)).alloc (.cells #[.int .u64 0, .slice none 0 0, .slice none 0 0, .slice none 0 0] 33)) w b := by
  refine ⟨((Below.refl _ _).alloc (Nat.le_refl _) _).alloc (by simp) _, by simp, (BndBox.made w).ext ((Below.refl _ _).alloc (Nat.le_refl _) _) (by simp), ?_⟩
  have := BoxV.made (w.alloc (.cells #[.int .i64 b.least, .int .i64 b.most, .int .i64 b.tmo] 117)) 33 (.int .u64 0) (.slice none 0 0) (.slice none 0 0) (.slice none 0 0)
  simpa using this
theorem mut4 {w : World} {b : Nat} {v0 v1 v2 v3 : Value} : Mut (fun k => k = b) w ((((w.setCell ⟨b, 0, none⟩ v0).setCell ⟨b, 1, none⟩ v1).setCell ⟨b, 2, none⟩ v2).setCell ⟨b, 3, none⟩ v3) := ((mut1.trans mut1).trans mut1).trans mut1
set_option maxRecDepth 100000 in
set_option maxHeartbeats 3200000 in
theorem first_any {w : World} {l : List Pid} {b : Bnd} {a : Option Addr} {c n : Nat} {V : View} {er : Int} (hV : Hid (firstV l b = (V, er))) (hn : Hid (l.length = n)) (hnl : n ≤ 1000) (hrow : PidRow w a l) (hok : ∀ p ∈ l, ok p) (hbo : BndOk b) :
    Calls Try.prog 69 #[.slice a n c, .agg #[.int .i64 b.least, .int .i64 b.most, .int .i64 b.tmo]] w fun e w' => BuildRes V er w.heap.size (fun _ => False) w e w' := by
  obtain ⟨W2, hW2⟩ : ∃ W2, ((w.alloc (.cells #[.int .i64 b.least, .int .i64 b.most, .int .i64 b.tmo] 117)).alloc (.cells #[.int .u64 0, .slice none 0 0, .slice none 0 0, .slice none 0 0] 33)) = W2 := ⟨_, rfl⟩
  have hT : TwoBox W2 w b := by rw [← hW2]; exact TwoBox.made w b
  have HT := hid hT
  obtain ⟨rb, hrb⟩ : ∃ r, bchk b = r := ⟨_, rfl⟩
  obtain ⟨rm, hrm⟩ : ∃ r, mayAll l = r := ⟨_, rfl⟩
  obtain ⟨c0, c1, c2⟩ := id hT.bx
  have HOK := hid hok
  have HROW := hid hrow
  clear hT hok hrow
  cases rb
  case false =>
    have hv : (zeroV, (1 : Int)) = (V, er) := by rw [← hV.out]; unfold firstV; rw [if_pos (.inl hrb)]
    obtain ⟨rfl, rfl⟩ : zeroV = V ∧ 1 = er := by simpa using hv
    have C1 := hid (lcheck_is (w := W2) (k := 1) (hid hrb) rfl hbo)
    have t1 : ((1 : Int) != 0) = true := by decide
    clear hV hv hrb hrm
    go_enter Try.func69, Try.ntmps69
    go_wp2_with fail
    (with_reducible refine C1.out.mono ?_)
    rintro e w3 ⟨rfl, hb3⟩
    obtain ⟨d0, d1, d2, d3, g0, g1, g2, g3⟩ := HT.out.vx.ext hb3
    have DD := hid ((HT.out.vx.ext hb3).put (.int .u64 0) (.slice none 0 0) (.slice none 0 0) (.slice none 0 0))
    have HB3 := hid (HT.out.bl.trans (hb3.mono HT.out.bl.size))
    clear hb3 C1 c0 c1 c2 hW2
    go_wp2_with fail
    obtain ⟨q0, q1, q2, q3, -, -, -, -⟩ := DD.out
    exact bodyPost_ret (v := .tuple #[.agg #[.int .u64 0, .slice none 0 0, .slice none 0 0, .slice none 0 0], .int .i64 1]) (by simp [results, Try.results69, go_sem, q0, q1, q2, q3]) rfl
      (BuildRes.zero (Mut.of_below (below_put4 HB3.out (by omega))))
  case true =>
    have C1 := hid (lcheck_is (w := W2) (k := 0) (hid hrb) rfl hbo)
    have CM : Hid (∀ W, Below W2.heap.size W2 W → Calls Try.prog 164 #[.slice a n c] W fun e w' => e = .returned (.bool rm) ∧ Below W.heap.size W w') := hid fun W h => lmay_any (hid hrm) hn (by omega) ((HROW.out.ext HT.out.bl).ext h)
    have t1 : ((0 : Int) != 0) = false := by decide
    cases rm
    case false =>
      have hv : (zeroV, (1 : Int)) = (V, er) := by rw [← hV.out]; unfold firstV; rw [if_pos (.inr hrm)]
      obtain ⟨rfl, rfl⟩ : zeroV = V ∧ 1 = er := by simpa using hv
      clear hV hv hrb hrm
      go_enter Try.func69, Try.ntmps69
      go_wp2_with fail
      (with_reducible refine C1.out.mono ?_)
      rintro e w3 ⟨rfl, hb3⟩
      have CMw := CM.out _ hb3
      clear c0 c1 c2 C1 CM
      go_wp2_with fail
      (with_reducible refine CMw.mono ?_)
      rintro e w4 ⟨rfl, hb4⟩
      have hb24 := hb3.trans (hb4.mono hb3.size)
      obtain ⟨d0, d1, d2, d3, g0, g1, g2, g3⟩ := HT.out.vx.ext hb24
      have DD := hid ((HT.out.vx.ext hb24).put (.int .u64 0) (.slice none 0 0) (.slice none 0 0) (.slice none 0 0))
      have HB3 := hid (HT.out.bl.trans (hb24.mono HT.out.bl.size))
      clear hb3 hb4 hb24 CMw hW2
      go_wp2_with fail
      obtain ⟨q0, q1, q2, q3, -, -, -, -⟩ := DD.out
      exact bodyPost_ret (v := .tuple #[.agg #[.int .u64 0, .slice none 0 0, .slice none 0 0, .slice none 0 0], .int .i64 1]) (by simp [results, Try.results69, go_sem, q0, q1, q2, q3]) rfl
        (BuildRes.zero (Mut.of_below (below_put4 HB3.out (by omega))))
    case true =>
      have hv : buildV 1 [] [] l b = (V, er) := by rw [← hV.out]; unfold firstV; rw [if_neg (by rw [hrb, hrm]; simp)]
      have HV := hid hv
      have HRB := hid hrb
      clear hV hv hrb hrm
      go_enter Try.func69, Try.ntmps69
      go_wp2_with fail
      (with_reducible refine C1.out.mono ?_)
      rintro e w3 ⟨rfl, hb3⟩
      have CMw := CM.out _ hb3
      clear c0 c1 c2 C1 CM
      go_wp2_with fail
      (with_reducible refine CMw.mono ?_)
      rintro e w4 ⟨rfl, hb4⟩
      have hb24 := hb3.trans (hb4.mono hb3.size)
      obtain ⟨c0, c1, c2⟩ := HT.out.bx.ext hb24 HT.out.bx.lt
      have HVX4 := hid (HT.out.vx.ext hb24)
      have HB3 := hid (HT.out.bl.trans (hb24.mono HT.out.bl.size))
      have HSZ4 : Hid (w.heap.size + 1 < w4.heap.size) := hid (by have := hb24.size; have := HT.out.sz; omega)
      have C3 := hid (build_any (w := w4) (base := w4.heap.size) (SN := 0) (N := 0) (ks := 0) (kc := c) (ay := none) (ac := a) HV rfl hn rfl (by omega) hnl (.inl rfl) (HROW.out.ext HB3.out) (LLs.nil _ _) (Nat.le_refl _) Parts.none List.Pairwise.nil (by simpa using HOK.out) HRB.out (fun _ _ _ _ => inLL_nil))
      clear hb3 hb4 hb24 CMw hW2
      go_wp2_with fail
      (with_reducible refine C3.out.mono ?_)
      rintro e w5 hres
      unfold BuildRes at hres
      obtain ⟨qm, ql, qd, km, kl, kd, rfl, hst, hm⟩ := hres
      have hb5 : Below w4.heap.size w4 w5 := hm.below (Nat.le_refl _) (fun k e => absurd e inLL_nil)
      have hvx5 := HVX4.out.ext hb5
      obtain ⟨d0, d1, d2, d3, g0, g1, g2, g3⟩ := id hvx5
      have DD := hid (hvx5.put (.int .u64 V.id) (.slice qm V.ms.length km) (.slice ql V.ls.length kl) (.slice qd V.ds.length kd))
      have HB5 := hid (HB3.out.trans (hb5.mono HB3.out.size))
      have HST := hid hst
      clear hvx5 hb5 hm hst C3 c0 c1 c2
      go_wp2_with fail
      obtain ⟨q0, q1, q2, q3, -, -, -, -⟩ := DD.out
      refine bodyPost_ret (v := .tuple #[.agg #[.int .u64 V.id, .slice qm V.ms.length km, .slice ql V.ls.length kl, .slice qd V.ds.length kd], .int .i64 er]) (by simp [results, Try.results69, go_sem, q0, q1, q2, q3]) rfl ?_
      unfold BuildRes
      exact ⟨qm, ql, qd, km, kl, kd, rfl, (HST.out.mut mut4 (fun k e => by have := HSZ4.out; omega)).mono (by have := HSZ4.out; omega), Mut.of_below (below_put4 HB5.out (by omega))⟩
end Go.Proofs.Ytbpfhclcjedkcaa

namespace Go.Proofs.Ytbpfhclcjedkcaa
open Go.RowKit
/-! ### what the reference's Build rests on: first, may, a row of truths, rows of slices joined -/
def anyIn (l leaf : List Pid) : Bool := l.any fun p => decide (p ∈ leaf)
theorem anyIn_drop {xs leaf : List Pid} {k : Nat} (h : k < xs.length) {x y : Int} (hx : (x, y) = xs[k]) : anyIn (xs.drop k) leaf = (decide ((x, y) ∈ leaf) || anyIn (xs.drop (k + 1)) leaf) := by
  unfold anyIn
  rw [List.drop_eq_getElem_cons h, ← hx, List.any_cons]
set_option maxHeartbeats 800000 in
theorem firstR_any {a b : Option Addr} {c d n m : Nat} {xs leaf : List Pid} {w : World} {r : Bool} (hr : Hid (anyIn xs leaf = r)) (hN : Hid (xs.length = n)) (hM : Hid (leaf.length = m)) (hn : n ≤ 1000) (hm : m ≤ 1000) (hx : PidRow w a xs) (hy : PidRow w b leaf) :
    Calls Try.prog 223 #[.slice a n c, .slice b m d] w fun e w' => e = .returned (.bool r) ∧ Below w.heap.size w w' := by
  have hm' := hM.out
  subst hm'
  go_enter Try.func223, Try.ntmps223
  go_wp2
  go_loopw [5] (fun i wr => ∃ k : Nat, k ≤ n ∧ i = .int .i64 k ∧ Hid (r = anyIn (xs.drop k) leaf) ∧ Below w.heap.size w wr) (fun i _ => n - (intOf i).toNat)
  case atStart => exact ⟨0, Nat.zero_le _, rfl, hid (by rw [List.drop_zero]; exact hr.out.symm), Below.refl _ _⟩
  case round =>
    obtain ⟨k, hk, rfl, ha, hb⟩ := hrel
    by_cases hlt : k < n
    · obtain ⟨pb, po, x, y, rfl, hpx, d1, d2⟩ := hx.at hb rfl (by rw [hN.out]; exact hlt)
      have hdr := anyIn_drop (leaf := leaf) (by rw [hN.out]; exact hlt) hpx
      cases hin : decide ((x, y) ∈ leaf)
      · have C1 := hid (hasR_is (c := d) (hid hin) (by omega) (hy.ext hb))
        rw [hin, Bool.false_or] at hdr
        have HD := hid hdr
        have HB := hid hb
        clear hdr hb hin hpx hx hy
        go_wp2_with fail
        (with_reducible refine C1.out.mono ?_)
        rintro e w3 ⟨rfl, hb3⟩
        have HB3 := hid (HB.out.trans (hb3.mono HB.out.size))
        clear hb3 C1 d1 d2
        go_wp2
        go_roundw
        case rel => exact ⟨k + 1, by omega, by go_num, hid (ha.out.trans HD.out), HB3.out⟩
        case measure => simp [intOf]; omega
      · have C1 := hid (hasR_is (c := d) (hid hin) (by omega) (hy.ext hb))
        rw [hin, Bool.true_or] at hdr
        have HD := hid hdr
        have HB := hid hb
        clear hdr hb hin hpx hx hy
        go_wp2_with fail
        (with_reducible refine C1.out.mono ?_)
        rintro e w3 ⟨rfl, hb3⟩
        have HB3 := hid (HB.out.trans (hb3.mono HB.out.size))
        clear hb3 C1 d1 d2
        go_wp2
        go_ret
        exact ⟨ret_bool (by rw [ha.out, HD.out]), HB3.out⟩
    · have hend : r = false := by rw [ha.out, List.drop_eq_nil_of_le (by rw [hN.out]; omega)]; rfl
      have HB := hid hb
      subst hend
      clear hb
      go_wp2
      go_ret
      exact ⟨rfl, HB.out⟩
theorem mayAll_drop {xs : List Pid} {k : Nat} (h : k < xs.length) {x y : Int} (hx : (x, y) = xs[k]) : mayAll (xs.drop k) = (mayB (x, y) && mayAll (xs.drop (k + 1))) := by
  unfold mayAll
  rw [List.drop_eq_getElem_cons h, ← hx, List.all_cons]
set_option maxHeartbeats 800000 in
theorem mayRAll_any {a : Option Addr} {c n : Nat} {xs : List Pid} {w : World} {r : Bool} (hr : Hid (mayAll xs = r)) (hN : Hid (xs.length = n)) (hn : n ≤ 1000) (hok : ∀ p ∈ xs, ok p) (hx : PidRow w a xs) :
    Calls Try.prog 167 #[.slice a n c] w fun e w' => e = .returned (.bool r) ∧ Below w.heap.size w w' := by
  have HOK := hid hok
  clear hok
  go_enter Try.func167, Try.ntmps167
  go_wp2
  go_loopw [3] (fun i wr => ∃ k : Nat, k ≤ n ∧ i = .int .i64 k ∧ Hid (r = mayAll (xs.drop k)) ∧ Below w.heap.size w wr) (fun i _ => n - (intOf i).toNat)
  case atStart => exact ⟨0, Nat.zero_le _, rfl, hid (by rw [List.drop_zero]; exact hr.out.symm), Below.refl _ _⟩
  case round =>
    obtain ⟨k, hk, rfl, ha, hb⟩ := hrel
    by_cases hlt : k < n
    · have hkx : k < xs.length := by rw [hN.out]; exact hlt
      obtain ⟨pb, po, x, y, rfl, hpx, d1, d2⟩ := hx.at hb rfl hkx
      have hdr := mayAll_drop hkx hpx
      have hokp : ok (x, y) := by rw [hpx]; exact HOK.out _ (List.getElem_mem hkx)
      have hmm : mayR (x, y) = mayB (x, y) := (may_eq (p := (x, y)) (by unfold ok at hokp; exact hokp.2.2.1)).symm
      cases hin : mayB (x, y)
      · have C1 := hid (mayR_is (x := x) (y := y) (w := wr) (bm := false) (hid (by rw [hmm, hin])))
        rw [hin, Bool.false_and] at hdr
        have HD := hid hdr
        have HB := hid hb
        clear hdr hb hin hpx hx hokp hmm hkx
        go_wp2_with fail
        (with_reducible refine C1.out.mono ?_)
        rintro e w3 ⟨rfl, hb3⟩
        have HB3 := hid (HB.out.trans (hb3.mono HB.out.size))
        clear hb3 C1 d1 d2
        go_wp2
        go_ret
        exact ⟨ret_bool (by rw [ha.out, HD.out]), HB3.out⟩
      · have C1 := hid (mayR_is (x := x) (y := y) (w := wr) (bm := true) (hid (by rw [hmm, hin])))
        rw [hin, Bool.true_and] at hdr
        have HD := hid hdr
        have HB := hid hb
        clear hdr hb hin hpx hx hokp hmm hkx
        go_wp2_with fail
        (with_reducible refine C1.out.mono ?_)
        rintro e w3 ⟨rfl, hb3⟩
        have HB3 := hid (HB.out.trans (hb3.mono HB.out.size))
        clear hb3 C1 d1 d2
        go_wp2
        go_roundw
        case rel => exact ⟨k + 1, by omega, by go_num, hid (ha.out.trans HD.out), HB3.out⟩
        case measure => simp [intOf]; omega
    · have hend : r = true := by rw [ha.out, List.drop_eq_nil_of_le (by rw [hN.out]; omega)]; rfl
      have HB := hid hb
      subst hend
      clear hb
      go_wp2
      go_ret
      exact ⟨rfl, HB.out⟩
/-! a row of truths in a block of its own -/
structure BoolR (w : World) (g : Nat) (fl : List Bool) : Prop where
  lt : g < w.heap.size
  c : ∀ j, j < fl.length → w.cell? ⟨g, j, none⟩ = some (.bool (fl.getD j false))
  f : ∀ j, w.frozen? ⟨g, j, none⟩ = false
theorem BoolR.mutN {G : Nat → Prop} {w w' : World} {g : Nat} {fl : List Bool} (h : BoolR w g fl) (hm : Mut G w w') (hG : ¬ G g) : BoolR w' g fl :=
  ⟨by have := hm.size; have := h.lt; omega, fun j hj => (hm.cell (p := ⟨g, j, none⟩) h.lt hG).trans (h.c j hj), fun j => (hm.frozen (p := ⟨g, j, none⟩) h.lt hG).trans (h.f j)⟩
theorem BoolR.ext {w w' : World} {g : Nat} {fl : List Bool} (h : BoolR w g fl) (hb : Below w.heap.size w w') : BoolR w' g fl := h.mutN (G := fun _ => False) (Mut.of_below hb) (fun e => e)
theorem BoolR.set {w : World} {g : Nat} {fl : List Bool} (h : BoolR w g fl) {k : Nat} (hk : k < fl.length) (b : Bool) : BoolR (w.setCell ⟨g, k, none⟩ (.bool b)) g (fl.set k b) := by
  refine ⟨by simpa using h.lt, fun j hj => ?_, fun j => by simp [h.f j]⟩
  rw [List.length_set] at hj
  by_cases hjk : k = j
  · subst hjk
    rw [World.cell?_setCell_same _ _ _ (h.c k hk)]
    rw [List.getD_eq_getElem?_getD, List.getElem?_set_self hk]; rfl
  · have e : (w.setCell ⟨g, k, none⟩ (.bool b)).cell? ⟨g, j, none⟩ = w.cell? ⟨g, j, none⟩ := off2t (by omega)
    rw [e, h.c j hj, List.getD_eq_getElem?_getD, List.getD_eq_getElem?_getD, List.getElem?_set_ne hjk]
theorem infoBo : (Try.prog.info? 4).map (fun i => (i.zero, i.size, i.bytes)) = some (some (.bool false), 1, 1) := by kernel_rfl
theorem run_makeBo (w : World) (n : Nat) (h : n ≤ 1000000) : (Instr.makeSlice 78 (.int .i64 (n : Nat)) (.int .i64 (n : Nat))).run Try.prog w = .ok (.slice (some ⟨w.heap.size, 0, none⟩) n n) (w.alloc (.cells (madeCells #[.bool false] n) 4)) := by
  obtain ⟨i0, hi, hz0, hz1, hz2⟩ := info_parts infoBo
  have := run_make (P := Try.prog) w 78 4 i0 (.bool false) Try.underlying78 hi hz0 .i64 .i64 (n : Nat) (n : Nat) (by omega) (by omega) (by rw [hz2]; omega) (by omega)
  rw [hz1] at this
  have e2 : ((n : Nat) : Int).toNat = n := by omega
  rw [e2] at this
  simpa [Value.cells] using this
/-! rows of slices, joined -/
theorem run_appendSs {w : World} {base : Nat} {v : Value} {cs ds : List Sl} (h : w.ownsRow base 30 1 v cs.length (cs.map encS)) {a : Option Addr} {n c : Nat} (hn : ds.length = n) (h0 : ds = [] ∨ ∃ g off, a = some ⟨g, off, none⟩ ∧ ∀ j (hj : j < ds.length), w.cell? ⟨g, off + j, none⟩ = some (encS ds[j])) (hlen : cs.length + n ≤ 1099511627776) (hbase : base ≤ w.heap.size) (ty : TypeId) :
    ∃ v' w', (Builtin.append_ #[31, 31] ty #[v, .slice a n c]).run Try.prog w = .ok v' w' ∧ w'.ownsRow base 30 1 v' (cs ++ ds).length ((cs ++ ds).map encS) ∧ w.grownBy w' v.ownBlock := by
  obtain ⟨i0, hi, hz0, hz1, hz2⟩ := info_parts infoPs
  subst hn
  rcases h0 with rfl | ⟨g, off, rfl, hcell⟩
  · refine ⟨v, w, ?_, by simpa using h, ⟨rfl, rfl, rfl, Nat.le_refl _, fun _ _ _ => rfl⟩⟩
    rcases h.2 with ⟨rfl, hn⟩ | ⟨g, cap, cur, rfl, hb, hg, hnc, hcm, hcs, htake⟩
    · cases a <;> simp [Builtin.append_, run_underlying Try.underlying31, sizeOf, typeInfo, hi, Builtin.lenOf, Builtin.firstCells, loadCells, loadCellsFrom]
    · cases a <;> simp [Builtin.append_, run_underlying Try.underlying31, sizeOf, typeInfo, hi, Builtin.lenOf, Builtin.firstCells, loadCells, loadCellsFrom, hnc, storeCells]
  · obtain ⟨v', w', hrun, h2, h3, h4, h5⟩ := run_append_own_at (P := Try.prog) w base 31 ty 30 i0 _ 1 24 Try.underlying31 hi hz0 hz1 hz2 rfl (by decide) v cs.length (cs.map encS) h ⟨g, off, none⟩ ds.length c (ds.map encS) (by simp) (fun j u hu => by
      rw [addr_add]
      have hj : j < ds.length := by have := (List.getElem?_eq_some_iff.1 hu).1; simpa using this
      have e : encS ds[j] = u := by simpa [hj] using hu
      rw [← e]
      exact hcell j hj) encS_one (by unfold maxLen; omega) (by omega) hbase
    refine ⟨v', w', hrun, ?_, h3⟩
    rw [List.length_append, List.map_append]; exact h2
theorem step_appendSs {w : World} {o : Oper} {a : Go.Act} {K : Go.Act → World → Prop} {Q : Exit → Go.Act → World → Prop} {y : Nat → Option Bool} {s x : Operand} {base : Nat} {v : Value} {cs ds : List Sl} {ad : Option Addr} {n c : Nat} (hw : Region.wanted o y = true) (h : w.ownsRow base 30 1 v cs.length (cs.map encS)) (hn : ds.length = n) (h0 : ds = [] ∨ ∃ g off, ad = some ⟨g, off, none⟩ ∧ ∀ j (hj : j < ds.length), w.cell? ⟨g, off + j, none⟩ = some (encS ds[j])) (hlen : cs.length + n ≤ 1099511627776) (hbase : base ≤ w.heap.size)
    (ho : o.op = .call { callee := .builtin .append, args := #[s, x], argTypes := #[31, 31] }) (hs : a.eval s = v) (hx : a.eval x = .slice ad n c)
    (hk : ∀ v' w', w'.ownsRow base 30 1 v' (cs ++ ds).length ((cs ++ ds).map encS) → w.grownBy w' v.ownBlock → K (a.put o.dst v') w') : if Region.wanted o y = true then Oper.wp Try.prog o a w K Q else K (a.put o.dst undef) w := by
  rw [if_pos hw]
  obtain ⟨v', w', hr, h2, h3⟩ := run_appendSs h (c := c) hn h0 hlen hbase o.type
  exact Lib.wp_append_run w s x 31 31 ho _ _ hs hx v' w' hr (hk v' w' h2 h3)
/-- one leaf is struck: the others, in a new row -/
theorem LLs.erased {w w' : World} {base k : Nat} {v v' : Value} {cs : List Sl} {ls : LL} (h : LLs w base v cs ls) (hbase : base ≤ w.heap.size) (hb : Below w.heap.size w w') (hown : w'.ownsRow w.heap.size 30 1 v' (cs.eraseIdx k).length ((cs.eraseIdx k).map encS)) : LLs w' base v' (cs.eraseIdx k) (ls.eraseIdx k) := by
  have hl := h.len
  have hll : (ls.eraseIdx k).length = (cs.eraseIdx k).length := by rw [List.length_eraseIdx, List.length_eraseIdx, hl]
  refine ⟨?_, fun i hi => ?_, fun u hu g hg e => ?_, h.apart.sublist (List.eraseIdx_sublist _ _)⟩
  · rw [hll]
    refine ⟨hown.1, ?_⟩
    rcases hown.2 with hn | ⟨g, cap, cur, rfl, hbb, rest⟩
    · exact .inl hn
    · exact .inr ⟨g, cap, cur, rfl, Nat.le_trans hbase hbb, rest⟩
  · have hi' : i < ls.length - 1 ∨ i < ls.length := by
      rw [List.length_eraseIdx] at hi
      split at hi
      · exact .inl hi
      · exact .inr hi
    by_cases hik : i < k
    · have hil : i < ls.length := by omega
      obtain ⟨s, h1, h2⟩ := h.el i hil
      refine ⟨s, by rw [List.getElem?_eraseIdx, if_pos hik]; exact h1, ?_⟩
      rw [List.getElem_eraseIdx, dif_pos hik]
      exact h2.ext hb
    · have hil : i + 1 < ls.length := by
        rw [List.length_eraseIdx] at hi
        split at hi <;> omega
      obtain ⟨s, h1, h2⟩ := h.el (i + 1) hil
      refine ⟨s, by rw [List.getElem?_eraseIdx, if_neg hik]; exact h1, ?_⟩
      rw [List.getElem_eraseIdx, dif_neg hik]
      exact h2.ext hb
  · have h1 := (h.elB (List.mem_of_mem_eraseIdx hu) hg).2
    have h2 := (World.ownsRow.lt hown g e).1
    omega
theorem LLs.cells {w : World} {base g N cap : Nat} {cs : List Sl} {ls : LL} (h : LLs w base (.slice (some ⟨g, 0, none⟩) N cap) cs ls) (hN : ls.length = N) : ∀ j (hj : j < cs.length), w.cell? ⟨g, j, none⟩ = some (encS cs[j]) := by
  intro j hj
  subst hN
  obtain ⟨g', cap', s, e, -, -, -, h1, h2, -⟩ := h.get (k := j) (by rw [← h.len]; exact hj)
  cases e
  have e2 : cs[j] = s := by rw [List.getElem?_eq_getElem hj] at h1; exact Option.some.inj h1
  rw [e2]; exact h2
theorem run_uptoL {g N c k : Nat} (h : k ≤ c) (hc : c ≠ 0) (W : World) : (Instr.slice 31 (.slice (some ⟨g, 0, none⟩) N c) none (some (.int .i64 k)) none).run Try.prog W = .ok (.slice (some ⟨g, 0, none⟩) k c) W := by
  have hs : ∀ W, (sizeOf 30).run Try.prog W = .ok 1 W := fun W => Try.sizeOf30 W
  simp [Instr.slice, run_underlying Try.underlying31, Instr.sliceBounds, run_sliceBound, hs, Result.andThen, h, hc, addr_add]
theorem run_fromL {g N c k : Nat} (h : k + 1 ≤ N) (W : World) : (Instr.slice 31 (.slice (some ⟨g, 0, none⟩) N c) (some (.int .i64 ((k : Int) + 1))) none none).run Try.prog W = .ok (.slice (if c = k + 1 then some ⟨g, 0, none⟩ else some ⟨g, k + 1, none⟩) (N - (k + 1)) (c - (k + 1))) W := by
  have hs : ∀ W, (sizeOf 30).run Try.prog W = .ok 1 W := fun W => Try.sizeOf30 W
  have e : ((k : Int) + 1) = ((k + 1 : Nat) : Int) := by omega
  rw [e]
  simp [Instr.slice, run_underlying Try.underlying31, Instr.sliceBounds, run_sliceBound, hs, Result.andThen, h, addr_add, -Int.natCast_add]
theorem take_drop_erase (cs : List Sl) (k : Nat) : cs.take k ++ cs.drop (k + 1) = cs.eraseIdx k := (List.eraseIdx_eq_take_drop_succ cs k).symm
end Go.Proofs.Ytbpfhclcjedkcaa

