/- Parts of the proof: X103 NJ. -/
import Derived.Test.YtehagnbphamjhaaGreatDoorX102
namespace Go.Proofs.YtehagnbphamjhaaGreatDoor
open Go.RowKit
/-! ### layout: First -/
theorem inLL_nil {b : Nat} : ¬ inLL (.slice none 0 0) [] b := by
  rintro (h | ⟨s, hs, -⟩)
  · cases h
  · cases hs
theorem Parts.none : Parts [] [] := ⟨List.Pairwise.nil, fun _ hl => (by cases hl), List.Perm.refl _⟩
theorem Stab.mono {base b' : Nat} {w : World} {am al ad : Option Addr} {V : View} (h : Stab base w am al ad V) (hb : b' ≤ base) : Stab b' w am al ad V :=
  fun G hG W' hm => h G (fun k hk => by have := hG k hk; omega) W' hm
theorem Stab.mut {base : Nat} {G : Nat → Prop} {w w' : World} {am al ad : Option Addr} {V : View} (h : Stab base w am al ad V) (hm : Mut G w w') (hG : ∀ k, G k → k < base) : Stab base w' am al ad V :=
  fun G2 hG2 W' hm2 => h (fun k => G k ∨ G2 k) (fun k hk => hk.elim (hG k) (hG2 k)) W' ((hm.mono fun _ _ e => .inl e).trans (hm2.mono fun _ _ e => .inr e))
theorem lcheck_is {b : Bnd} {w : World} {r : Bool} {k : Int} (hr : Hid (bchk b = r)) (hk : chkL r = k) (hb : BndOk b) :
    Calls Tryz.prog 136 #[.agg #[.int .i64 b.least, .int .i64 b.most, .int .i64 b.tmo]] w fun e w' => e = .returned (.int .i64 k) ∧ Below w.heap.size w w' := by
  have := lcheck_any (w := w) hb
  rw [hr.out, hk] at this
  exact this
structure TwoBox (W2 w : World) (b : Bnd) : Prop where
  bl : Below w.heap.size w W2
  sz : W2.heap.size = w.heap.size + 1 + 1
  bx : BndBox W2 w.heap.size b
  vx : BoxV W2 (w.heap.size + 1) (.int .u64 0) (.slice none 0 0) (.slice none 0 0) (.slice none 0 0)
theorem TwoBox.made (w : World) (b : Bnd) : TwoBox ((w.alloc (.cells #[.int .i64 b.least, .int .i64 b.most, .int .i64 b.tmo] 60)).alloc (.cells #[.int .u64 0, .slice none 0 0, .slice none 0 0, .slice none 0 0] 54)) w b := by
  refine ⟨((Below.refl _ _).alloc (Nat.le_refl _) _).alloc (by simp) _, by simp, (BndBox.made w).ext ((Below.refl _ _).alloc (Nat.le_refl _) _) (by simp), ?_⟩
  have := BoxV.made (w.alloc (.cells #[.int .i64 b.least, .int .i64 b.most, .int .i64 b.tmo] 60)) 54 (.int .u64 0) (.slice none 0 0) (.slice none 0 0) (.slice none 0 0)
  simpa using this
theorem mut4 {w : World} {b : Nat} {v0 v1 v2 v3 : Value} : Mut (fun k => k = b) w ((((w.setCell ⟨b, 0, none⟩ v0).setCell ⟨b, 1, none⟩ v1).setCell ⟨b, 2, none⟩ v2).setCell ⟨b, 3, none⟩ v3) := ((mut1.trans mut1).trans mut1).trans mut1
set_option maxRecDepth 100000 in
set_option maxHeartbeats 3200000 in
theorem layFirst_any {w : World} {l : List Pid} {b : Bnd} {a : Option Addr} {c n : Nat} {V : View} {er : Int} (hV : Hid (firstV l b = (V, er))) (hn : Hid (l.length = n)) (hnl : n ≤ 1000) (hrow : PidRow w a l) (hok : ∀ p ∈ l, ok p) (hbo : BndOk b) :
    Calls Tryz.prog 103 #[.slice a n c, .agg #[.int .i64 b.least, .int .i64 b.most, .int .i64 b.tmo]] w fun e w' => BuildRes V er w.heap.size (fun _ => False) w e w' := by
  obtain ⟨W2, hW2⟩ : ∃ W2, ((w.alloc (.cells #[.int .i64 b.least, .int .i64 b.most, .int .i64 b.tmo] 60)).alloc (.cells #[.int .u64 0, .slice none 0 0, .slice none 0 0, .slice none 0 0] 54)) = W2 := ⟨_, rfl⟩
  have hT : TwoBox W2 w b := by rw [← hW2]; exact TwoBox.made w b
  have HT := hid hT
  obtain ⟨rb, hrb⟩ : ∃ r, bchk b = r := ⟨_, rfl⟩
  obtain ⟨rm, hrm⟩ : ∃ r, mayAll l = r := ⟨_, rfl⟩
  obtain ⟨c0, c1, c2⟩ := id hT.bx
  have HOK := hid hok
  have HROW := hid hrow
  clear hT hok hrow
  cases rb
  case false =>
    have hv : (zeroV, (1 : Int)) = (V, er) := by rw [← hV.out]; unfold firstV; rw [if_pos (.inl hrb)]
    obtain ⟨rfl, rfl⟩ : zeroV = V ∧ 1 = er := by simpa using hv
    have C1 := hid (lcheck_is (w := W2) (k := 1) (hid hrb) rfl hbo)
    have t1 : ((1 : Int) != 0) = true := by decide
    clear hV hv hrb hrm
    go_enter Tryz.func103, Tryz.ntmps103
    go_wp2_with fail
    (with_reducible refine C1.out.mono ?_)
    rintro e w3 ⟨rfl, hb3⟩
    obtain ⟨d0, d1, d2, d3, g0, g1, g2, g3⟩ := HT.out.vx.ext hb3
    have DD := hid ((HT.out.vx.ext hb3).put (.int .u64 0) (.slice none 0 0) (.slice none 0 0) (.slice none 0 0))
    have HB3 := hid (HT.out.bl.trans (hb3.mono HT.out.bl.size))
    clear hb3 C1 c0 c1 c2 hW2
    go_wp2_with fail
    obtain ⟨q0, q1, q2, q3, -, -, -, -⟩ := DD.out
    exact bodyPost_ret (v := .tuple #[.agg #[.int .u64 0, .slice none 0 0, .slice none 0 0, .slice none 0 0], .int .i64 1]) (by simp [results, Tryz.results103, go_sem, q0, q1, q2, q3]) rfl
      (BuildRes.zero (Mut.of_below (below_put4 HB3.out (by omega))))
  case true =>
    have C1 := hid (lcheck_is (w := W2) (k := 0) (hid hrb) rfl hbo)
    have CM : Hid (∀ W, Below W2.heap.size W2 W → Calls Tryz.prog 137 #[.slice a n c] W fun e w' => e = .returned (.bool rm) ∧ Below W.heap.size W w') := hid fun W h => lmay_any (hid hrm) hn (by omega) ((HROW.out.ext HT.out.bl).ext h)
    have t1 : ((0 : Int) != 0) = false := by decide
    cases rm
    case false =>
      have hv : (zeroV, (1 : Int)) = (V, er) := by rw [← hV.out]; unfold firstV; rw [if_pos (.inr hrm)]
      obtain ⟨rfl, rfl⟩ : zeroV = V ∧ 1 = er := by simpa using hv
      clear hV hv hrb hrm
      go_enter Tryz.func103, Tryz.ntmps103
      go_wp2_with fail
      (with_reducible refine C1.out.mono ?_)
      rintro e w3 ⟨rfl, hb3⟩
      have CMw := CM.out _ hb3
      clear c0 c1 c2 C1 CM
      go_wp2_with fail
      (with_reducible refine CMw.mono ?_)
      rintro e w4 ⟨rfl, hb4⟩
      have hb24 := hb3.trans (hb4.mono hb3.size)
      obtain ⟨d0, d1, d2, d3, g0, g1, g2, g3⟩ := HT.out.vx.ext hb24
      have DD := hid ((HT.out.vx.ext hb24).put (.int .u64 0) (.slice none 0 0) (.slice none 0 0) (.slice none 0 0))
      have HB3 := hid (HT.out.bl.trans (hb24.mono HT.out.bl.size))
      clear hb3 hb4 hb24 CMw hW2
      go_wp2_with fail
      obtain ⟨q0, q1, q2, q3, -, -, -, -⟩ := DD.out
      exact bodyPost_ret (v := .tuple #[.agg #[.int .u64 0, .slice none 0 0, .slice none 0 0, .slice none 0 0], .int .i64 1]) (by simp [results, Tryz.results103, go_sem, q0, q1, q2, q3]) rfl
        (BuildRes.zero (Mut.of_below (below_put4 HB3.out (by omega))))
    case true =>
      have hv : buildV 1 [] [] l b = (V, er) := by rw [← hV.out]; unfold firstV; rw [if_neg (by rw [hrb, hrm]; simp)]
      have HV := hid hv
      have HRB := hid hrb
      clear hV hv hrb hrm
      go_enter Tryz.func103, Tryz.ntmps103
      go_wp2_with fail
      (with_reducible refine C1.out.mono ?_)
      rintro e w3 ⟨rfl, hb3⟩
      have CMw := CM.out _ hb3
      clear c0 c1 c2 C1 CM
      go_wp2_with fail
      (with_reducible refine CMw.mono ?_)
      rintro e w4 ⟨rfl, hb4⟩
      have hb24 := hb3.trans (hb4.mono hb3.size)
      obtain ⟨c0, c1, c2⟩ := HT.out.bx.ext hb24 HT.out.bx.lt
      have HVX4 := hid (HT.out.vx.ext hb24)
      have HB3 := hid (HT.out.bl.trans (hb24.mono HT.out.bl.size))
      have HSZ4 : Hid (w.heap.size + 1 < w4.heap.size) := hid (by have := hb24.size; have := HT.out.sz; omega)
      have C3 := hid (build_any (w := w4) (base := w4.heap.size) (SN := 0) (N := 0) (ks := 0) (kc := c) (ay := none) (ac := a) HV rfl hn rfl (by omega) hnl (.inl rfl) (HROW.out.ext HB3.out) (LLs.nil _ _) (Nat.le_refl _) Parts.none List.Pairwise.nil (by simpa using HOK.out) HRB.out (fun _ _ _ _ => inLL_nil))
      clear hb3 hb4 hb24 CMw hW2
      go_wp2_with fail
      (with_reducible refine C3.out.mono ?_)
      rintro e w5 hres
      unfold BuildRes at hres
      obtain ⟨qm, ql, qd, km, kl, kd, rfl, hst, hm⟩ := hres
      have hb5 : Below w4.heap.size w4 w5 := hm.below (Nat.le_refl _) (fun k e => absurd e inLL_nil)
      have hvx5 := HVX4.out.ext hb5
      obtain ⟨d0, d1, d2, d3, g0, g1, g2, g3⟩ := id hvx5
      have DD := hid (hvx5.put (.int .u64 V.id) (.slice qm V.ms.length km) (.slice ql V.ls.length kl) (.slice qd V.ds.length kd))
      have HB5 := hid (HB3.out.trans (hb5.mono HB3.out.size))
      have HST := hid hst
      clear hvx5 hb5 hm hst C3 c0 c1 c2
      go_wp2_with fail
      obtain ⟨q0, q1, q2, q3, -, -, -, -⟩ := DD.out
      refine bodyPost_ret (v := .tuple #[.agg #[.int .u64 V.id, .slice qm V.ms.length km, .slice ql V.ls.length kl, .slice qd V.ds.length kd], .int .i64 er]) (by simp [results, Tryz.results103, go_sem, q0, q1, q2, q3]) rfl ?_
      unfold BuildRes
      exact ⟨qm, ql, qd, km, kl, kd, rfl, (HST.out.mut mut4 (fun k e => by have := HSZ4.out; omega)).mono (by have := HSZ4.out; omega), Mut.of_below (below_put4 HB5.out (by omega))⟩
end Go.Proofs.YtehagnbphamjhaaGreatDoor

namespace Go.Proofs.YtehagnbphamjhaaGreatDoor
open Go.RowKit
/-! ### begin with a first view -/
structure Began (w w' : World) (V : View) (i nb h wb sr : Nat) : Prop where
  box : ∃ (cs : List Value) (v : Value) (A : VAd), BoxL w' nb 233 cs ∧ cs[8]? = some (.pointer (some ⟨h, 0, none⟩)) ∧ cs[47]? = some (.slice none 0 0) ∧ cs[48]? = some v ∧ OwnK w' w.heap.size 57 9 v [[.int .i64 1, .int .u64 i, .slice A.am V.ms.length A.cm, .slice A.al V.ls.length A.cl, .slice A.ad V.ds.length A.cd, .int .u16 0, .int .u32 0, .int .u64 0, .slice none 0 0]] ∧ Stab w.heap.size w' A.am A.al A.ad V
  mt : Mut (fun k => k = nb ∨ k = wb ∨ k = sr) w w'
set_option maxRecDepth 100000 in
set_option maxHeartbeats 12800000 in
theorem begin0_any {V : View} {i : Nat} {A : VAd} {w0 w : World} {x y l m t T : Int} {nb h r wb wr sb sr m1 m2 : Nat}
    (hf : FitV V i) (hs : Small V) (hV0 : ViewR w0 A.am A.al A.ad V) (hb0 : Below w0.heap.size w0 w) (hge : ∀ k ∈ [nb, h, r, wb, wr, sb, sr, m1, m2], w0.heap.size ≤ k) (hp : (x, y) ∈ V.ms)
    (hN : BoxL w nb 233 (nodeC x y l m t 0 (.slice none 0 0) 0 h grp0 (.pointer none) (.pointer none) (.pointer none) (.pointer none) wb rum0 0 m1 m2 (.slice none 0 0) sb false (.slice none 0 0) (.slice none 0 0)))
    (hW : WatchIs w wb wr T []) (hL : SetIs w sb sr []) (hd : [nb, h, r, wb, wr, sb, sr, m1, m2].Nodup) :
    Calls Tryz.prog 106 #[.pointer (some ⟨nb, 0, none⟩), .agg (vcl V i A).toArray, .int .u64 0, bdA ⟨#[]⟩ ⟨#[]⟩ ⟨#[]⟩ ⟨#[]⟩ ⟨#[]⟩ ⟨#[]⟩ ⟨#[]⟩ ⟨#[]⟩] w fun e w' => e = .returned (.tuple #[]) ∧ Began w w' V i nb h wb sr := by
  obtain ⟨am, al, ad, cm, cl, cd⟩ := A
  obtain ⟨n1, e1⟩ : ∃ q, V.ms.length = q := ⟨_, rfl⟩
  obtain ⟨n2, e2⟩ : ∃ q, V.ls.length = q := ⟨_, rfl⟩
  obtain ⟨n3, e3⟩ : ∃ q, V.ds.length = q := ⟨_, rfl⟩
  have hx : ∀ am al ad cm cl cd, (vcl V i ⟨am, al, ad, cm, cl, cd⟩).toArray = #[.int .u64 i, .slice am n1 cm, .slice al n2 cl, .slice ad n3 cd] := by intros; unfold vcl; rw [e1, e2, e3]
  obtain ⟨W1, hW1⟩ : ∃ W1, w.alloc (.cells #[.int .u64 i, .slice am n1 cm, .slice al n2 cl, .slice ad n3 cd] 54) = W1 := ⟨_, rfl⟩
  have hb1 : Below w.heap.size w W1 := by rw [← hW1]; exact (Below.refl _ _).alloc (Nat.le_refl _) _
  have hvb : BoxL W1 w.heap.size 54 [.int .u64 i, .slice am n1 cm, .slice al n2 cl, .slice ad n3 cd] := by rw [← hW1]; exact BoxL.made w _ _
  have hz1 : W1.heap.size = w.heap.size + 1 := by rw [← hW1]; simp
  obtain ⟨W2, hW2⟩ : ∃ W2, W1.alloc (.cells #[.string ⟨#[]⟩, .string ⟨#[]⟩, .string ⟨#[]⟩, .string ⟨#[]⟩, .string ⟨#[]⟩, .string ⟨#[]⟩, .string ⟨#[]⟩, .string ⟨#[]⟩] 182) = W2 := ⟨_, rfl⟩
  have hb12 : Below W1.heap.size W1 W2 := by rw [← hW2]; exact (Below.refl _ _).alloc (Nat.le_refl _) _
  have hb2 : Below w.heap.size w W2 := hb1.trans (hb12.mono hb1.size)
  have hbb : BoxL W2 W1.heap.size 182 emptyB := by rw [← hW2]; exact BoxL.made W1 _ _
  have hN2 := hN.ext hb2
  have HB2 := hid hb2
  have HVB2 := hid (hvb.ext hb12)
  have HBB2 := hid hbb
  have HW2 := hid (hW.ext hb2)
  have HL2 := hid (hL.ext hb2)
  have HZ : Hid (nb < w.heap.size ∧ wb < w.heap.size ∧ wr < w.heap.size ∧ sb < w.heap.size ∧ sr < w.heap.size ∧ W1.heap.size = w.heap.size + 1) := hid ⟨hN.lt, hW.lt, hW.map.lt, hL.lt, hL.map.lt, hz1⟩
  have HGE : Hid (w0.heap.size ≤ nb ∧ w0.heap.size ≤ wb ∧ w0.heap.size ≤ sr ∧ w0.heap.size ≤ w.heap.size) := hid ⟨hge nb (by simp), hge wb (by simp), hge sr (by simp), hb0.size⟩
  have HNE : Hid (nb ≠ wb ∧ nb ≠ wr ∧ nb ≠ sb ∧ nb ≠ sr ∧ wb ≠ wr ∧ wb ≠ sb ∧ wb ≠ sr ∧ wr ≠ sb ∧ wr ≠ sr ∧ sb ≠ sr) := hid (by
    clear hN hW hL hge hN2 hW1 hW2 hb0 hb1 hb12 hb2 hvb hbb HB2 HVB2 HBB2 HW2 HL2 HZ HGE hz1
    refine ⟨?_, ?_, ?_, ?_, ?_, ?_, ?_, ?_, ?_, ?_⟩ <;> (intro e; rw [e] at hd; simp at hd))
  have HF := hid hf
  have HSM := hid hs
  have HX := hid hx
  have HMEM := hid hp
  have HE := hid (And.intro e1 (And.intro e2 e3))
  have HV0 := hid hV0
  have HB0 := hid hb0
  have q5 := hN2.cell (j := 5) rfl
  have fz2 := hN2.frozen
  have HN2 := hid hN2
  rw [hx]
  clear hN hW hL hN2 hvb hbb hb1 hb12 hb2 hf hs hd hx hp e1 e2 e3 hz1 hge hV0 hb0
  go_enter Tryz.func106, Tryz.ntmps106
  go_upto_region 2 with fail
  clear hW1 hW2
  obtain ⟨w3, hw3⟩ : ∃ w3, W2.setCell ⟨nb, 5, none⟩ (.int .i64 1) = w3 := ⟨_, rfl⟩
  rw [hw3]
  have HM3 : Hid (Mut (fun k => k = nb) W2 w3) := hid (by rw [← hw3]; exact mut1)
  have HN3 := hid (HN2.out.set (j := 5) (v := .int .i64 1))
  rw [hw3] at HN3
  clear hw3 q5 fz2 HN2
  have C3 := hid (ledgerNew_any 0 w3)
  go_wp2_with fail
  refine C3.out.mono ?_
  rintro e w4 ⟨rfl, hw4⟩
  have hb4 : Below w3.heap.size w3 w4 := by rw [hw4]; exact (Below.refl _ _).alloc (Nat.le_refl _) _
  obtain ⟨lb, hlb⟩ : ∃ b, w3.heap.size = b := ⟨_, rfl⟩
  rw [hlb]
  have HN4 := hid (HN3.out.ext hb4)
  have HM4 : Hid (Mut (fun k => k = nb) W2 w4) := hid (HM3.out.trans (Mut.of_below hb4))
  clear hw4 HM3 HN3 hlb hb4 C3
  have q20 := HN4.out.cell (j := 20) rfl
  have fz4 := HN4.out.frozen
  go_upto_region 3 with fail
  obtain ⟨w5, hw5⟩ : ∃ w5, w4.setCell ⟨nb, 20, none⟩ (.pointer (some ⟨lb, 0, none⟩)) = w5 := ⟨_, rfl⟩
  rw [hw5]
  have HM5 : Hid (Mut (fun k => k = nb) W2 w5) := hid (by rw [← hw5]; exact mut_set HM4.out nb 20 _ rfl)
  have HN5 := hid (HN4.out.set (j := 20) (v := .pointer (some ⟨lb, 0, none⟩)))
  rw [hw5] at HN5
  clear hw5 q20 fz4 HN4 HM4
  have HVB5 := hid (HVB2.out.mut HM5.out (fun e => by have h0 := HZ.out; omega))
  have v0 := HVB5.out.cell (j := 0) rfl
  have v1 := HVB5.out.cell (j := 1) rfl
  have v2 := HVB5.out.cell (j := 2) rfl
  have v3 := HVB5.out.cell (j := 3) rfl
  have C5 : Hid (Calls Tryz.prog 144 #[.agg #[.int .u64 i, .slice am n1 cm, .slice al n2 cl, .slice ad n3 cd]] w5 fun e w' => ∃ b, e = .returned (.pointer (some ⟨b, 0, none⟩)) ∧ Below w5.heap.size w5 w' ∧ Hid (w5.heap.size ≤ b ∧ ∃ c0 c1 c2 c3 c4, BoxL w' b 302 (stC c0 c1 c2 c3 c4))) := hid (by
    have h := stateNew_any (A := ⟨am, al, ad, cm, cl, cd⟩) HF.out (w := w5) (HV0.out.ext (below_mutN (HB0.out.trans (HB2.out.mono HB0.out.size)) HM5.out (fun k e => by have h0 := HGE.out; rw [e]; exact h0.1)))
    rw [HX.out] at h
    exact h.mono fun e w' ⟨b, mr, A', h1, h2⟩ => ⟨b, h1, h2.below, hid ⟨h2.lt, _, _, _, _, _, h2.box⟩⟩)
  go_wp2_with fail
  refine C5.out.mono ?_
  rintro e w6 ⟨stb, rfl, hb6, HS6⟩
  have HN6 := hid (HN5.out.ext hb6)
  have HM6 : Hid (Mut (fun k => k = nb) W2 w6) := hid (HM5.out.trans (Mut.of_below hb6))
  have HZ6 : Hid (W2.heap.size ≤ stb) := hid (Nat.le_trans HM5.out.size HS6.out.1)
  obtain ⟨s0, s1, s2, s3, s4, hS6⟩ := HS6.out.2
  have HSB6 := hid hS6
  clear v0 v1 v2 v3 C5 HVB5 HN5 HM5 hb6 HS6 hS6
  have q21 := HN6.out.cell (j := 21) rfl
  have fz6 := HN6.out.frozen
  go_upto_region 4 with fail
  obtain ⟨w7, hw7⟩ : ∃ w7, w6.setCell ⟨nb, 21, none⟩ (.pointer (some ⟨stb, 0, none⟩)) = w7 := ⟨_, rfl⟩
  rw [hw7]
  have HM7 : Hid (Mut (fun k => k = nb) W2 w7) := hid (by rw [← hw7]; exact mut_set HM6.out nb 21 _ rfl)
  have HW7 := hid hw7
  have HN7 := hid (HN6.out.set (j := 21) (v := .pointer (some ⟨stb, 0, none⟩)))
  rw [hw7] at HN7
  clear hw7 q21 fz6 HN6 HM6
  -- MARK
  have HBB7 := hid (HBB2.out.mut HM7.out (fun e => by have h0 := HZ.out; omega))
  have HSB7 := hid (HSB6.out.mut (mut1 (w := w6) (s := nb) (i := 21) (v := .pointer (some ⟨stb, 0, none⟩))) (fun e => by have h0 := HZ.out; have h1 := HB2.out.size; have h2 := HZ6.out; omega))
  rw [HW7.out] at HSB7
  have hsn : ¬ (nb = stb) := fun e => by have h0 := HZ.out; have h1 := HB2.out.size; have h2 := HZ6.out; omega
  have hsw : ¬ (W1.heap.size = stb) := fun e => by have h0 := HZ.out; have h1 := HBB2.out.lt; have h2 := HZ6.out; omega
  have S4 : Hid (∀ W, Mut (fun k => k = stb) w7 W → Mut (fun k => k = stb) w7 W ∧ W.cell? ⟨nb, 21, none⟩ = some (.pointer (some ⟨stb, 0, none⟩)) ∧ W.cell? ⟨W1.heap.size, 0, none⟩ = some (.string ⟨#[]⟩) ∧ W.cell? ⟨W1.heap.size, 1, none⟩ = some (.string ⟨#[]⟩) ∧ W.cell? ⟨W1.heap.size, 2, none⟩ = some (.string ⟨#[]⟩) ∧ W.cell? ⟨W1.heap.size, 3, none⟩ = some (.string ⟨#[]⟩) ∧ W.cell? ⟨W1.heap.size, 4, none⟩ = some (.string ⟨#[]⟩) ∧ W.cell? ⟨W1.heap.size, 5, none⟩ = some (.string ⟨#[]⟩) ∧ W.cell? ⟨W1.heap.size, 6, none⟩ = some (.string ⟨#[]⟩) ∧ W.cell? ⟨W1.heap.size, 7, none⟩ = some (.string ⟨#[]⟩)) := hid fun W hm => by
    have h1 := HN7.out.mut hm hsn
    have h2 := HBB7.out.mut hm hsw
    exact ⟨hm, h1.cell (j := 21) rfl, h2.cell (j := 0) rfl, h2.cell (j := 1) rfl, h2.cell (j := 2) rfl, h2.cell (j := 3) rfl, h2.cell (j := 4) rfl, h2.cell (j := 5) rfl, h2.cell (j := 6) rfl, h2.cell (j := 7) rfl⟩
  have C4 : Hid (∀ W, Below w7.heap.size w7 W → Calls Tryz.prog 145 #[.pointer (some ⟨stb, 0, none⟩), .agg #[.string ⟨#[]⟩, .string ⟨#[]⟩, .string ⟨#[]⟩, .string ⟨#[]⟩, .string ⟨#[]⟩, .string ⟨#[]⟩, .string ⟨#[]⟩, .string ⟨#[]⟩]] W fun e w' => e = .returned (.bool true) ∧ Mut (fun k => k = stb) w7 w' ∧ Hid (BoxL w' stb 302 (stC s0 s1 s2 s3 s4))) := hid fun W hb =>
    (load_any ⟨#[]⟩ ⟨#[]⟩ ⟨#[]⟩ ⟨#[]⟩ ⟨#[]⟩ ⟨#[]⟩ ⟨#[]⟩ ⟨#[]⟩ bdOk0 (HSB7.out.ext hb)).mono fun e w' ⟨g1, g2, g3⟩ => ⟨g1, (Mut.of_below hb).trans g2, hid g3⟩
  have H7 : Below w7.heap.size w7 w7.drew := (Below.refl _ _).drew
  refine wp_region_held_drew (S := fun W => Mut (fun k => k = stb) w7 W ∧ W.cell? ⟨nb, 21, none⟩ = some (.pointer (some ⟨stb, 0, none⟩)) ∧ W.cell? ⟨W1.heap.size, 0, none⟩ = some (.string ⟨#[]⟩) ∧ W.cell? ⟨W1.heap.size, 1, none⟩ = some (.string ⟨#[]⟩) ∧ W.cell? ⟨W1.heap.size, 2, none⟩ = some (.string ⟨#[]⟩) ∧ W.cell? ⟨W1.heap.size, 3, none⟩ = some (.string ⟨#[]⟩) ∧ W.cell? ⟨W1.heap.size, 4, none⟩ = some (.string ⟨#[]⟩) ∧ W.cell? ⟨W1.heap.size, 5, none⟩ = some (.string ⟨#[]⟩) ∧ W.cell? ⟨W1.heap.size, 6, none⟩ = some (.string ⟨#[]⟩) ∧ W.cell? ⟨W1.heap.size, 7, none⟩ = some (.string ⟨#[]⟩)) (by kernel_rfl) (S4.out _ (Mut.of_below H7)) (fun hHeld => ?_)
  refine wpAnyH_take (i := 0) (oi := _) (v := .pointer (some ⟨nb, 0, none⟩)) rfl (by kernel_rfl) (by kernel_rfl) (by kernel_rfl) (fun _ _ _ h => h) (Or.inl ⟨by rfl, ?_⟩) (by assumption) ?_
  · intro W hSw
    try dsimp only at hSw
    go_simp
  try simp only [Act.put, List.getElem_toArray, List.getElem_cons_succ, List.getElem_cons_zero, List.setIfInBounds_toArray, List.set_cons_zero, List.set_cons_succ]
  refine wpAnyH_take (i := 1) (oi := _) (v := .pointer (some ⟨nb, 0, none⟩)) rfl (by kernel_rfl) (by kernel_rfl) (by kernel_rfl) (fun _ _ _ h => h) (Or.inl ⟨by rfl, ?_⟩) (by assumption) ?_
  · intro W hSw
    try dsimp only at hSw
    go_simp
  try simp only [Act.put, List.getElem_toArray, List.getElem_cons_succ, List.getElem_cons_zero, List.setIfInBounds_toArray, List.set_cons_zero, List.set_cons_succ]
  refine wpAnyH_take (i := 2) (oi := _) (v := .pointer (some ⟨nb, 21, none⟩)) rfl (by kernel_rfl) (by kernel_rfl) (by kernel_rfl) (fun _ _ _ h => h) (Or.inl ⟨by rfl, ?_⟩) (by assumption) ?_
  · intro W hSw
    try dsimp only at hSw
    go_simp
  try simp only [Act.put, List.getElem_toArray, List.getElem_cons_succ, List.getElem_cons_zero, List.setIfInBounds_toArray, List.set_cons_zero, List.set_cons_succ]
  refine wpAnyH_take (i := 3) (oi := _) (v := .pointer (some ⟨stb, 0, none⟩)) rfl (by kernel_rfl) (by kernel_rfl) (by kernel_rfl) (fun _ _ _ h => h) (Or.inl ⟨by rfl, ?_⟩) (by assumption) ?_
  · intro W hSw
    try dsimp only at hSw
    go_simp
  try simp only [Act.put, List.getElem_toArray, List.getElem_cons_succ, List.getElem_cons_zero, List.setIfInBounds_toArray, List.set_cons_zero, List.set_cons_succ]
  refine wpAnyH_take (i := 4) (oi := _) (v := .agg #[.string ⟨#[]⟩, .string ⟨#[]⟩, .string ⟨#[]⟩, .string ⟨#[]⟩, .string ⟨#[]⟩, .string ⟨#[]⟩, .string ⟨#[]⟩, .string ⟨#[]⟩]) rfl (by kernel_rfl) (by kernel_rfl) (by kernel_rfl) (fun _ _ _ h => h) (Or.inl ⟨by rfl, ?_⟩) (by assumption) ?_
  · intro W hSw
    try dsimp only at hSw
    go_simp
  try simp only [Act.put, List.getElem_toArray, List.getElem_cons_succ, List.getElem_cons_zero, List.setIfInBounds_toArray, List.set_cons_zero, List.set_cons_succ]
  refine wpAnyH_ready (rs := [5]) (by kernel_rfl) (by simp) ?_
  refine AllReadyH.cons (o := _) rfl (fun K hK => ?_) AllReadyH.nil
  go_simp
  (refine (C4.out _ H7).mono ?_)
  rintro e w8 ⟨rfl, hm8, HSB8⟩
  refine hK.out _ _ (S4.out _ hm8) (fun hHeld => ?_)
  clear hK K
  try simp only [Act.put, List.getElem_toArray, List.getElem_cons_succ, List.getElem_cons_zero, List.setIfInBounds_toArray, List.set_cons_zero, List.set_cons_succ]
  refine wpAnyH_done (by kernel_rfl) ?_ _
  have HN8 := hid (HN7.out.mut hm8 hsn)
  have HM8 : Hid (Mut (fun k => k = nb) W2 w8) := hid (HM7.out.transG hm8 (fun k hk e => by have h2 := HZ6.out; omega))
  clear HBB7 HSB7 hsw S4 C4 H7 HN7 HM7 hm8 HSB6
  have C8 := hid (acceptNew_any 1 w8)
  go_wp2_with fail
  refine C8.out.mono ?_
  rintro e w9 ⟨rfl, hw9⟩
  have hb9 : Below w8.heap.size w8 w9 := by rw [hw9]; exact (Below.refl _ _).alloc (Nat.le_refl _) _
  obtain ⟨ab, hab⟩ : ∃ b, w8.heap.size = b := ⟨_, rfl⟩
  rw [hab]
  have HN9 := hid (HN8.out.ext hb9)
  have HSB9 := hid (HSB8.out.ext hb9)
  have HM9 : Hid (Mut (fun k => k = nb) W2 w9) := hid (HM8.out.trans (Mut.of_below hb9))
  clear hw9 HM8 HN8 HSB8 hab hb9 C8
  have q22 := HN9.out.cell (j := 22) rfl
  have fz9 := HN9.out.frozen
  go_upto_region 6 with fail
  obtain ⟨w10, hw10⟩ : ∃ w10, w9.setCell ⟨nb, 22, none⟩ (.pointer (some ⟨ab, 0, none⟩)) = w10 := ⟨_, rfl⟩
  rw [hw10]
  have hms10 : Mut (fun k => k = nb) w9 w10 := by rw [← hw10]; exact mut1
  have HM10 : Hid (Mut (fun k => k = nb) W2 w10) := hid (HM9.out.trans hms10)
  have HN10 := hid (HN9.out.set (j := 22) (v := .pointer (some ⟨ab, 0, none⟩)))
  rw [hw10] at HN10
  have HSB10 := hid (HSB9.out.mut hms10 (fun e => by have h0 := HZ.out; have h1 := HB2.out.size; have h2 := HZ6.out; omega))
  clear hw10 q22 fz9 HN9 HM9 HSB9 hms10
  have q0 := HN10.out.cell (j := 0) rfl
  have q1 := HN10.out.cell (j := 1) rfl
  have C10 := hid (electNew_any x y w10)
  go_wp2_with fail
  refine C10.out.mono ?_
  rintro e w11 ⟨pb, rfl, hpb, hb11, hP11⟩
  have HN11 := hid (HN10.out.ext hb11)
  have HSB11 := hid (HSB10.out.ext hb11)
  have HPB11 := hid hP11
  have HZ11 : Hid (W2.heap.size ≤ pb ∧ stb < pb) := hid ⟨Nat.le_trans HM10.out.size hpb, Nat.lt_of_lt_of_le HSB10.out.lt hpb⟩
  have HM11 : Hid (Mut (fun k => k = nb) W2 w11) := hid (HM10.out.trans (Mut.of_below hb11))
  clear q0 q1 C10 HM10 HN10 HSB10 hb11 hpb hP11
  have q23 := HN11.out.cell (j := 23) rfl
  have fz11 := HN11.out.frozen
  go_upto_region 7 with fail
  obtain ⟨w12, hw12⟩ : ∃ w12, w11.setCell ⟨nb, 23, none⟩ (.pointer (some ⟨pb, 0, none⟩)) = w12 := ⟨_, rfl⟩
  rw [hw12]
  have hms12 : Mut (fun k => k = nb) w11 w12 := by rw [← hw12]; exact mut1
  have HM12 : Hid (Mut (fun k => k = nb) W2 w12) := hid (HM11.out.trans hms12)
  have HN12 := hid (HN11.out.set (j := 23) (v := .pointer (some ⟨pb, 0, none⟩)))
  rw [hw12] at HN12
  have HSB12 := hid (HSB11.out.mut hms12 (fun e => by have h0 := HZ.out; have h1 := HB2.out.size; have h2 := HZ6.out; omega))
  have HMS12 := hid hms12
  clear hw12 q23 fz11 HN11 HM11 HSB11 hms12
  have HPB12 := hid (HPB11.out.mut HMS12.out (fun e => by have h0 := HZ.out; have h1 := HZ11.out; have h2 := HB2.out.size; omega))
  clear HPB11 HMS12
  have q41 := HN12.out.cell (j := 41) rfl
  have fz12 := HN12.out.frozen
  go_upto_region 8 with fail
  obtain ⟨w13, hw13⟩ : ∃ w13, w12.setCell ⟨nb, 41, none⟩ (.int .u64 0) = w13 := ⟨_, rfl⟩
  rw [hw13]
  have hms13 : Mut (fun k => k = nb) w12 w13 := by rw [← hw13]; exact mut1
  have HM13 : Hid (Mut (fun k => k = nb) W2 w13) := hid (HM12.out.trans hms13)
  have HN13 := hid (HN12.out.set (j := 41) (v := .int .u64 0))
  rw [hw13] at HN13
  have HSB13 := hid (HSB12.out.mut hms13 (fun e => by have h0 := HZ.out; have h1 := HB2.out.size; have h2 := HZ6.out; omega))
  have HMS13 := hid hms13
  clear hw13 q41 fz12 HN12 HM12 HSB12 hms13
  have HPB13 := hid (HPB12.out.mut HMS13.out (fun e => by have h0 := HZ.out; have h1 := HZ11.out; have h2 := HB2.out.size; omega))
  have HVB13 := hid (HVB2.out.mut HM13.out (fun e => by have h0 := HZ.out; omega))
  have v0 := HVB13.out.cell (j := 0) rfl
  have v1 := HVB13.out.cell (j := 1) rfl
  have v2 := HVB13.out.cell (j := 2) rfl
  have v3 := HVB13.out.cell (j := 3) rfl
  have HN14 : Hid (BoxL w13 nb 233 (nodeC x y l m t 1 (.slice none 0 0) 0 h grp0 (.pointer (some ⟨lb, 0, none⟩)) (.pointer (some ⟨stb, 0, none⟩)) (.pointer (some ⟨ab, 0, none⟩)) (.pointer (some ⟨pb, 0, none⟩)) wb rum0 0 m1 m2 (.slice none 0 0) sb false (.slice none 0 0) (.slice none 0 0))) := hid HN13.out
  have HND : Hid ([nb, stb, pb, wb, wr, sb, sr].Nodup) := hid (by
    obtain ⟨n1', n2', n3', n4', n5', n6', n7', n8', n9', n10'⟩ := HNE.out
    have h0 := HZ.out
    have h1 := HZ11.out
    have h2 := HB2.out.size
    have h3 := HZ6.out
    simp only [List.nodup_cons, List.mem_cons, List.not_mem_nil, or_false, not_or, List.nodup_nil, and_true, not_false_eq_true]
    repeat' apply And.intro
    all_goals (intro e; first | exact n1' e | exact n2' e | exact n3' e | exact n4' e | exact n5' e | exact n6' e | exact n7' e | exact n8' e | exact n9' e | exact n10' e | (clear n1' n2' n3' n4' n5' n6' n7' n8' n9' n10'; omega)))
  have C13 := install0_any (A := ⟨am, al, ad, cm, cl, cd⟩) (w0 := w0) HF.out HSM.out HV0.out (below_mutN (HB0.out.trans (HB2.out.mono HB0.out.size)) HM13.out (fun k e => by have h0 := HGE.out; rw [e]; exact h0.1)) (by have h0 := HGE.out; have h1 := HZ11.out; have h2 := HB2.out.size; omega) HMEM.out HN14.out HSB13.out HPB13.out (HW2.out.mut HM13.out HNE.out.1.symm HNE.out.2.1.symm) (HL2.out.mut HM13.out HNE.out.2.2.1.symm HNE.out.2.2.2.1.symm) HND.out
  rw [HX.out] at C13
  have C13 := hid C13
  clear HN13 HSB13 HPB13 HVB13 HND
  go_wp2_with fail
  refine C13.out.mono ?_
  rintro e w14 ⟨rfl, hI⟩
  have HI := hid hI
  clear C13 hI v0 v1 v2 v3
  go_wp2_with fail
  refine bodyPost_end (results_none rfl _ _ _) rfl ⟨rfl, ?_, ((Mut.of_below HB2.out).trans (HM13.out.mono fun k _ e => .inl e)).transG HI.out.mt (fun k hk e => by have h1 := HZ11.out; have h2 := HB2.out.size; rcases e with e | e | e | e; exact .inl e; omega; exact .inr (.inl e); exact .inr (.inr e))⟩
  obtain ⟨cs, v, A, h1, h2, h3, h4, h5, h6⟩ := HI.out.box
  have hz : w.heap.size ≤ w13.heap.size := Nat.le_trans HB2.out.size HM13.out.size
  exact ⟨cs, v, A, h1, h2, h3, h4, h5.mono hz, h6.mono hz⟩
end Go.Proofs.YtehagnbphamjhaaGreatDoor

