import Derived.Test.YtbpfhclcjedkcaaX26
namespace Go.Proofs.Ytbpfhclcjedkcaa
open Go.RowKit

/-! ### view.Put, where the view may be -/
theorem Wrote.step {w w1 w2 : World} {s : Nat} {v1 v2 : Value} {b1 b2 : List Nat} (h : Wrote w w1 s v1 b1) (h2 : Wrote w1 w2 s v2 b2) : Wrote w w2 s v2 b2 := h.trans (Below.refl _ _) h2
theorem ranks_is {V : View} {am al ad : Option Addr} {cm cl cd : Nat} {w : World} (hV : ViewR w am al ad V) :
   Calls Try.prog 83 #[.agg #[.int .u64 V.id, .slice am V.ms.length cm, .slice al V.ls.length cl, .slice ad V.ds.length cd]] w fun e w' => ∃ r, e = .returned (.map (some r)) ∧ w.heap.size ≤ r ∧ Below w.heap.size w w' ∧ MapIs w' r pidV eI (ranksL V.ms) := ranks_any V am al ad cm cl cd w hV

theorem Wrote.pre {w w1 w2 : World} {s : Nat} {v : Value} {bs : List Nat} (hb : Below w.heap.size w w1) (h : Wrote w1 w2 s v bs) : Wrote w w2 s v bs :=
  ⟨h.wr, h.own.mono hb.size, (Mut.of_below hb).trans h.mt⟩
/-- what the rest of view.Put leans on -/
structure PutS (w0 W : World) (s g1 g2 r b i : Nat) (V : View) (am al ad : Option Addr) (cm cl cd : Nat) : Prop where
  c1 : W.cell? ⟨g1, 0, none⟩ = some (.pointer (some ⟨s, 0, none⟩))
  c2 : W.cell? ⟨g2, 0, none⟩ = some (.map (some r))
  y0 : W.cell? ⟨b, 0, none⟩ = some (.int .u64 i)
  y1 : W.cell? ⟨b, 1, none⟩ = some (.slice am V.ms.length cm)
  y2 : W.cell? ⟨b, 2, none⟩ = some (.slice al V.ls.length cl)
  y3 : W.cell? ⟨b, 3, none⟩ = some (.slice ad V.ds.length cd)
  M : MapIs W r pidV eI (ranksL V.ms)
  n1 : g1 ≠ s
  n2 : g2 ≠ s
  nr : r ≠ s
  nb : b ≠ s
  b0 : Below w0.heap.size w0 W
  hs : w0.heap.size ≤ s
theorem PutS.mut {w0 W W' : World} {s g1 g2 r b i : Nat} {V : View} {am al ad : Option Addr} {cm cl cd : Nat} (h : PutS w0 W s g1 g2 r b i V am al ad cm cl cd) (hm : Mut (fun k => k = s) W W') : PutS w0 W' s g1 g2 r b i V am al ad cm cl cd :=
  ⟨cell_mut h.c1 hm h.n1, cell_mut h.c2 hm h.n2, cell_mut h.y0 hm h.nb, cell_mut h.y1 hm h.nb, cell_mut h.y2 hm h.nb, cell_mut h.y3 hm h.nb, h.M.same (hm.block r h.M.lt h.nr), h.n1, h.n2, h.nr, h.nb, h.b0.trans (hm.below h.b0.size (fun k e => e ▸ h.hs)), h.hs⟩

set_option maxRecDepth 100000 in
set_option maxHeartbeats 6400000 in
theorem viewPut_any {s : Nat} {v : Value} {bs : List Nat} {V : View} {i : Nat} {am al ad : Option Addr} {cm cl cd : Nat} {w0 w : World} (hi : V.id = (i : Int)) (hi64 : i < 18446744073709551616) (hW : WrIs w s v bs) (hl : bs.length ≤ 1000000)
    (hV : ViewR w0 am al ad V) (h0 : Below w0.heap.size w0 w) (hs0 : w0.heap.size ≤ s) (hok : ∀ p ∈ V.ms, okP p) (hlm : V.ms.length ≤ 1000) (hll : V.ls.length ≤ 1000) (hld : V.ds.length ≤ 1000) (hle : ∀ l ∈ V.ls, l.length ≤ 1000) (hsum : lens V.ls ≤ 549755813888) (hc : checkB V = true) :
   Calls Try.prog 97 #[.pointer (some ⟨s, 0, none⟩), .agg #[.int .u64 i, .slice am V.ms.length cm, .slice al V.ls.length cl, .slice ad V.ds.length cd]] w fun e w' => e = .returned (.tuple #[]) ∧ ∃ v', Wrote w w' s v' (bs ++ viewF V) := by
  have hs := hW.lt
  obtain ⟨W2, hW2⟩ : ∃ W2, ((w.alloc (.cells #[.pointer (some ⟨s, 0, none⟩)] 144)).alloc (.cells #[.int .u64 i, .slice am V.ms.length cm, .slice al V.ls.length cl, .slice ad V.ds.length cd] 33)) = W2 := ⟨_, rfl⟩
  have hB2 : Below w.heap.size w W2 := by rw [← hW2]; exact ((Below.refl _ _).alloc (Nat.le_refl _) _).alloc (by simp) _
  have xg : W2.cell? ⟨w.heap.size, 0, none⟩ = some (.pointer (some ⟨s, 0, none⟩)) := by rw [← hW2]; simp
  have xv : ViewBox W2 (w.heap.size + 1) V am al ad cm cl cd := by
    rw [← hW2]
    have := ViewBox.made (V := V) (am := am) (al := al) (ad := ad) (cm := cm) (cl := cl) (cd := cd) (w.alloc (.cells #[.pointer (some ⟨s, 0, none⟩)] 144))
    rw [hi] at this
    simpa using this
  have hz2 : W2.heap.size = w.heap.size + 1 + 1 := by rw [← hW2]; simp
  have hb2 : Below w0.heap.size w0 W2 := h0.trans (hB2.mono h0.size)
  have HB02 := hid hb2
  have hV2 : ViewR W2 am al ad V := hV.ext hb2
  have HC := hid hc
  have CK : Hid (Calls Try.prog 22 #[.agg #[.int .u64 i, .slice am V.ms.length cm, .slice al V.ls.length cl, .slice ad V.ds.length cd]] W2 fun e w' => e = .returned (.int .i64 0) ∧ Below W2.heap.size W2 w') := hid (by
    have := check_is (k := 0) (cm := cm) (cl := cl) (cd := cd) HC rfl hV2 hsum
    rw [hi] at this; exact this)
  have CR : Hid (∀ W, Below W2.heap.size W2 W → Calls Try.prog 83 #[.agg #[.int .u64 i, .slice am V.ms.length cm, .slice al V.ls.length cl, .slice ad V.ds.length cd]] W fun e w' => ∃ r, e = .returned (.map (some r)) ∧ W.heap.size ≤ r ∧ Below W.heap.size W w' ∧ MapIs w' r pidV eI (ranksL V.ms)) := hid (fun W h => by
    have := ranks_is (cm := cm) (cl := cl) (cd := cd) (hV2.ext h)
    rw [hi] at this; exact this)
  have HB2 := hid hB2
  have HXV := hid xv
  have HZ2 := hid hz2
  have HV := hid hV
  have H0 := hid h0
  have HWR := hid hW
  have HOK := hid hok
  have ewl : IntKind.u64.wrap ((V.ls.length : Nat) : Int) = ((V.ls.length : Nat) : Int) := by rw [IntKind.wrap_u64]; omega
  obtain ⟨y0, y1, y2, y3⟩ := id xv
  rw [hi] at y0
  have HXG := hid xg
  have HS := hid hs
  have HS0 := hid hs0
  have HLE := hid hle
  have HI := hid hi
  clear hc hV2 hB2 xv hz2 hV h0 hW hok xg hs0 hle hsum hs hb2 hi
  go_enter Try.func97, Try.ntmps97
  go_wp2_with fail
  (with_reducible refine CK.out.mono ?_)
  rintro e w3 ⟨rfl, hb3⟩
  have z0 := cell_toB y0 hb3
  have z1 := cell_toB y1 hb3
  have z2 := cell_toB y2 hb3
  have z3 := cell_toB y3 hb3
  clear y0 y1 y2 y3
  go_wp2_with fail
  (with_reducible refine (CR.out _ hb3).mono ?_)
  rintro e w4 ⟨r, rfl, hr4, hb4, hM4⟩
  clear z0 z1 z2 z3 hW2
  obtain ⟨w5, hw5⟩ : ∃ w5, w4.alloc (.cells #[.map (some r)] 134) = w5 := ⟨_, rfl⟩
  have hb45 : Below w4.heap.size w4 w5 := by rw [← hw5]; exact (Below.refl _ _).alloc (Nat.le_refl _) _
  have hb25 : Below W2.heap.size W2 w5 := hb3.trans ((hb4.trans (hb45.mono hb4.size)).mono hb3.size)
  have hz := HZ2.out
  have hsw := HS.out
  have h34 := hb4.size
  have h23 := hb3.size
  obtain ⟨y0, y1, y2, y3⟩ := HXV.out.ext hb25 (by omega)
  rw [HI.out] at y0
  have P5 : PutS w0 w5 s w.heap.size w4.heap.size r (w.heap.size + 1) i V am al ad cm cl cd :=
    ⟨cell_toB HXG.out hb25, by rw [← hw5]; simp, y0, y1, y2, y3, hM4.ext hb45, by omega, by omega, by omega, by omega, HB02.out.trans (hb25.mono HB02.out.size), HS0.out⟩
  have hbw5 : Below w.heap.size w w5 := HB2.out.trans (hb25.mono HB2.out.size)
  have HBW5 := hid hbw5
  have P5' := hid P5
  have N1 := hid (wNum_any i (HWR.out.ext hbw5) (by omega) hi64)
  clear hb3 hb4 hM4 hr4 CK CR hb45 hb25 hz hsw h34 h23 hbw5
  generalize w.heap.size + 1 = b at y0 y1 y2 y3 P5 P5' ⊢
  generalize hg1 : w.heap.size = g1 at P5 P5' ⊢
  have x1 := P5.c1
  clear P5
  have hp1 := flat_pidF_len HOK.out
  have ln1 := short_len10 (n := i) (by omega)
  have ln2 := short_len10 (n := V.ms.length) (by omega)
  have ln3 := short_len10 (n := V.ls.length) (by omega)
  have hpl : (pidsF V.ms).length ≤ 20010 := by unfold pidsF; rw [List.length_append]; omega
  go_wp2_with fail
  refine N1.out.mono ?_
  rintro e w6 ⟨rfl, v6, hw6⟩
  have P6 := hid (P5'.out.mut hw6.mt)
  have N2 := hid (wPids_any (n := V.ms.length) (c := cm) hw6.wr (by rw [List.length_append]; omega) (hid rfl) (by omega) HOK.out (HV.out.ms.ext P6.out.b0) (HV.out.ms.far HS0.out))
  have HW6 := hid hw6
  clear hw6 N1 y0 y1 y2 y3 x1 hw5
  have x1 := P6.out.c1
  have y1 := P6.out.y1
  go_wp2_with fail
  refine N2.out.mono ?_
  rintro e w7 ⟨rfl, v7, hw7⟩
  have P7 := hid (P6.out.mut hw7.mt)
  have N3 := hid (wNum_any V.ls.length hw7.wr (by simp only [List.length_append]; omega) (by omega))
  have HW7 := hid (HW6.out.step hw7)
  clear hw7 N2 x1 y1 P6 HW6
  have x1 := P7.out.c1
  have y2 := P7.out.y2
  go_wp2_with fail
  refine N3.out.mono ?_
  rintro e w8 ⟨rfl, v8, hw8⟩
  have P8 := hid (P7.out.mut hw8.mt)
  have HW8 := hid (HW7.out.step hw8)
  clear hw8 N3 x1 y2 P7 HW7
  have y2 := P8.out.y2
  have y3 := P8.out.y3
  obtain ⟨B, hB⟩ : ∃ B, ((bs ++ short i) ++ pidsF V.ms) ++ short V.ls.length = B := ⟨_, rfl⟩
  have hBl : B.length ≤ 1100000 := by rw [← hB]; simp only [List.length_append]; omega
  have hfl := flat_places_len (ms := V.ms) (by omega) V.ls HLE.out
  have HE : Hid (bs ++ viewF V = (B ++ V.ls.flatMap (placesF V.ms)) ++ placesF V.ms V.ds) := hid (by
    unfold viewF; rw [← hB, HI.out]; simp)
  rw [hB] at HW8
  have HTL : Hid (∀ k, (B ++ (V.ls.take k).flatMap (placesF V.ms)).length ≤ 34359738368) := hid (fun k => by
    have h1 := flat_places_len (ms := V.ms) (by omega) (V.ls.take k) (fun l hl => HLE.out l (List.mem_of_mem_take hl))
    rw [List.length_take] at h1
    rw [List.length_append]
    omega)
  clear hB hp1 hpl ln1 ln2 ln3 hfl ewl
  generalize hg2 : w4.heap.size = g2 at P8 P5' ⊢
  clear hg2
  go_wp2_with fail
  go_loopw [31] (fun i wr => ∃ (k : Nat) (vk : Value), k ≤ V.ls.length ∧ i = .int .i64 k ∧ Hid (Wrote w5 wr s vk (B ++ (V.ls.take k).flatMap (placesF V.ms)))) (fun i _ => V.ls.length - (intOf i).toNat)
  case atStart => exact ⟨0, v8, Nat.zero_le _, rfl, hid (by simpa using HW8.out)⟩
  case round =>
    obtain ⟨k, vk, hk, rfl, hWk⟩ := hrel
    have Pr := hid (P5'.out.mut hWk.out.mt)
    by_cases hlt : k < V.ls.length
    · have hlt' : decide (k < V.ls.length) = true := by simpa using hlt
      obtain ⟨bl, ofl, ai, ci, l, rfl, hx, f1, f2⟩ := HV.out.ls.at (Below.refl _ _) rfl hlt
      have d1 := cell_toB f1 Pr.out.b0
      have hll1 : l.length ≤ 1000 := HLE.out l (by rw [hx]; exact List.getElem_mem _)
      have HT : Hid (B ++ (V.ls.take (k + 1)).flatMap (placesF V.ms) = (B ++ (V.ls.take k).flatMap (placesF V.ms)) ++ placesF V.ms l) := hid (by rw [take_places hlt hx]; simp)
      have C2 : Hid (Calls Try.prog 183 #[.slice ai l.length ci, .pointer (some ⟨g1, 0, none⟩), .pointer (some ⟨g2, 0, none⟩)] wr fun e w' => e = .returned (.tuple #[]) ∧ ∃ v', Wrote wr w' s v' (B ++ (V.ls.take (k + 1)).flatMap (placesF V.ms))) := hid (by
        rw [HT.out]
        exact putC_F hWk.out.wr (HTL.out k) hll1 hlm f2 Pr.out.b0 HS0.out Pr.out.c1 Pr.out.c2 Pr.out.M Pr.out.n1 Pr.out.n2 Pr.out.nr)
      clear hx f1 f2 y2 y3
      go_wp2_with (go_at_call 183; (with_reducible refine C2.out.mono ?_); rintro e w9 ⟨rfl, v9, hw9⟩; have hw10 := hid (hWk.out.step hw9); clear hw9)
      go_roundw
      case rel => exact ⟨k + 1, v9, by omega, by go_num, hw10⟩
      case measure => simp [intOf]; omega
    · have hlt' : decide (k < V.ls.length) = false := by simpa using hlt
      have hend := hWk.out
      rw [List.take_of_length_le (by omega)] at hend
      have hH := HTL.out k
      rw [List.take_of_length_le (by omega)] at hH
      have C3 : Hid (Calls Try.prog 183 #[.slice ad V.ds.length cd, .pointer (some ⟨g1, 0, none⟩), .pointer (some ⟨g2, 0, none⟩)] wr fun e w' => e = .returned (.tuple #[]) ∧ ∃ v', Wrote wr w' s v' (bs ++ viewF V)) := hid (by
        rw [HE.out]
        exact putC_F hend.wr hH hld hlm HV.out.ds (Pr.out.b0) HS0.out Pr.out.c1 Pr.out.c2 Pr.out.M Pr.out.n1 Pr.out.n2 Pr.out.nr)
      have HEND := hid hend
      have d3 := Pr.out.y3
      clear hend y2 y3 hH
      go_wp2_with (go_at_call 183; (with_reducible refine C3.out.mono ?_); rintro e w9 ⟨rfl, v9, hw9⟩)
      exact bodyPost_end (results_none rfl _ _ _) rfl ⟨rfl, _, (HEND.out.step hw9).pre HBW5.out⟩
end Go.Proofs.Ytbpfhclcjedkcaa
