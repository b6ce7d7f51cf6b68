/- Parts of the proof: X33. -/
import Derived.Test.YtbpfhclcjedkcaaSm17
namespace Go.Proofs.Ytbpfhclcjedkcaa
open Go.RowKit

/-! ### view.Get -/
theorem rPids_is {s c : Nat} {a : Option Addr} {S S1 : RS} {ms : List Pid} {w : World} {z : Int} (most : Nat) (hz : z = (most : Int)) (hx : Hid (rPids most S = (ms, S1))) (hm : most ≤ 1000) (hR : RdIs w s a c S) :
    Calls Try.prog 116 #[.pointer (some ⟨s, 0, none⟩), .int .i64 z] w fun e w' => (∃ v, e = .returned v ∧ OwnP w' w.heap.size v ms) ∧ (∃ a' c', RdIs w' s a' c' S1) ∧ Mut (fun k => k = s) w w' := by
  subst hz
  have := rPids_any most hm hR
  rw [hx.out] at this; exact this
theorem places_is {s c cm nm : Nat} {a am : Option Addr} {S S1 : RS} {ms l : List Pid} {w : World} (hx : Hid (rPlaces ms S = (l, S1))) (hR : RdIs w s a c S) (hnm : Hid (ms.length = nm)) (hml : nm ≤ 1000) (hrow : PidRow w am ms) (hne : ∀ b off, am = some ⟨b, off, none⟩ → ms ≠ [] → b ≠ s) :
    Calls Try.prog 201 #[.pointer (some ⟨s, 0, none⟩), .slice am nm cm] w fun e w' => (∃ v, e = .returned v ∧ OwnP w' w.heap.size v l) ∧ (∃ a' c', RdIs w' s a' c' S1) ∧ Mut (fun k => k = s) w w' := by
  have := places_any (cm := cm) hR hnm hml hrow hne
  rw [hx.out] at this; exact this

set_option maxRecDepth 100000 in
set_option maxHeartbeats 12800000 in
theorem viewGet_any {s c : Nat} {a : Option Addr} {S : RS} {w : World} (hR : RdIs w s a c S) :
    Calls Try.prog 130 #[.pointer (some ⟨s, 0, none⟩)] w fun e w' => ∃ vm vl vd, e = .returned (.agg #[.int .u64 (rView S).1.id, vm, vl, vd]) ∧ OwnP w' w.heap.size vm (rView S).1.ms ∧ OwnLL w' w.heap.size vl (rView S).1.ls ∧ OwnP w' w.heap.size vd (rView S).1.ds ∧ (∃ a' c', RdIs w' s a' c' (rView S).2) ∧ Mut (fun k => k = s) w w' := by
  obtain ⟨⟨i0, S1⟩, h1⟩ : ∃ q, rNum 4611686018427387904 S = q := ⟨_, rfl⟩
  obtain ⟨⟨ms, S2⟩, h2⟩ : ∃ q, rPids 24 S1 = q := ⟨_, rfl⟩
  obtain ⟨⟨n, S3⟩, h3⟩ : ∃ q, rNum 24 S2 = q := ⟨_, rfl⟩
  obtain ⟨⟨ls, S4⟩, h4⟩ : ∃ q, rLeaves ms n S3 = q := ⟨_, rfl⟩
  obtain ⟨⟨ds, S5⟩, h5⟩ : ∃ q, rPlaces ms S4 = q := ⟨_, rfl⟩
  have hP : Hid (rParts S = (⟨(i0 : Nat), ms, ls, ds⟩, S5)) := hid (by unfold rParts; simp only [h1, h2, h3, h4, h5])
  have hml : ms.length ≤ 24 := by have := rPids_len (m := 24) (S := S1); rw [h2] at this; exact this
  have hok : ∀ p ∈ ms, okP p := by have := rPids_ok (m := 24) (S := S1); rw [h2] at this; exact this
  have hn24 : n ≤ 24 := by have := rNum_le (most := 24) (S := S2); rw [h3] at this; exact this
  have hls : ls.length ≤ n ∧ ∀ l ∈ ls, l.length ≤ 24 := by have := rLeaves_len (ms := ms) (n := n) (S := S3); rw [h4] at this; exact this
  have hdl : ds.length ≤ 24 := by have := rPlaces_len (ms := ms) (S := S4); rw [h5] at this; exact this
  obtain ⟨nm, hnm⟩ : ∃ k, ms.length = k := ⟨_, rfl⟩
  have HNM := hid hnm
  have HML := hid hml
  have HOK := hid hok
  have HLS := hid hls
  have HDL := hid hdl
  have hB1 : Below w.heap.size w (w.alloc (.cells #[.int .u64 0, .slice none 0 0, .slice none 0 0, .slice none 0 0] 33)) := (Below.refl _ _).alloc (Nat.le_refl _) _
  have x2 := BoxV.made w 33 (.int .u64 0) (.slice none 0 0) (.slice none 0 0) (.slice none 0 0)
  have hz1 : (w.alloc (.cells #[.int .u64 0, .slice none 0 0, .slice none 0 0, .slice none 0 0] 33)).heap.size = w.heap.size + 1 := by simp
  have hnm24 : nm ≤ 24 := by omega
  have hs := hR.lt
  have C1 := hid (rNum_is (z := 4611686018427387904) rfl (hid h1) (by decide) (hR.ext hB1))
  have H2 := hid h2
  have H3 := hid h3
  have H4 := hid h4
  have H5 := hid h5
  have X2 := hid x2
  have HZ1 := hid hz1
  have HB1 := hid hB1
  clear h1 h2 h3 h4 h5 hml hok hls hdl hnm x2 hz1 hB1
  go_enter Try.func130, Try.ntmps130
  go_wp2_with fail
  refine C1.out.mono ?_
  rintro e w2 ⟨rfl, ⟨a2, c2, hR2⟩, hM2⟩
  have C2 := hid (rPids_is 24 (z := 24) rfl H2 (by decide) hR2)
  have HM2 := hid hM2
  clear C1 hM2 hR2
  go_wp2_with fail
  refine C2.out.mono ?_
  rintro e w3 ⟨⟨v3, rfl, hown3⟩, ⟨a3, c3, hR3⟩, hM3⟩
  obtain ⟨am, cm, rfl, hrm, -⟩ := hown3.row
  rw [HNM.out] at hown3 ⊢
  obtain ⟨w4, hw4⟩ : ∃ w4, (w3.alloc (.cells #[.int .u64 i0, .slice am nm cm, .slice none 0 0, .slice none 0 0] 33)) = w4 := ⟨_, rfl⟩
  have hb34 : Below w3.heap.size w3 w4 := by rw [← hw4]; exact (Below.refl _ _).alloc (Nat.le_refl _) _
  have x4 : BoxV w4 w3.heap.size (.int .u64 i0) (.slice am nm cm) (.slice none 0 0) (.slice none 0 0) := by rw [← hw4]; exact BoxV.made _ _ _ _ _ _
  have C3 := hid (rNum_is (z := 24) rfl H3 (by decide) (hR3.ext hb34))
  have hs3 : s < w3.heap.size := hR3.lt
  have hz3 : w.heap.size + 1 ≤ w2.heap.size ∧ w2.heap.size ≤ w3.heap.size := by
    have h1 := HM2.out.size
    have h2 := hM3.size
    rw [HZ1.out] at h1
    exact ⟨h1, h2⟩
  have hM13 := hid (HM2.out.trans hM3)
  have HX4 := hid x4
  have HOWN3 := hid hown3
  have HRM := hid hrm
  have HB34 := hid hb34
  have HZ3 := hid hz3
  rw [← hw4] at C3
  have HW4 := hid hw4
  clear C2 hR3 hM3 hown3 hrm hb34 x4 hz3 HM2 hw4
  go_wp2_with fail
  refine C3.out.mono ?_
  rintro e w5 ⟨rfl, ⟨a5, c5, hR5⟩, hM5⟩
  rw [HW4.out] at hM5
  have hb3s : ¬ (fun k => k = s) w3.heap.size := fun e => by have e : w3.heap.size = s := e; omega
  have HX5 := hid (HX4.out.mutT hM5 hb3s)
  have HM5 := hid (hM5.mono (G := fun k => k = s ∨ w3.heap.size ≤ k) (fun k _ e => .inl e))
  have HR5 := hid hR5
  clear C3 hM5 hR5 HW4
  obtain ⟨g3, hg3⟩ : ∃ g, w3.heap.size = g := ⟨_, rfl⟩
  rw [hg3] at HX5 HM5 HX4 hs3 hb3s ⊢
  have HG3 := hid hg3
  clear hg3
  have hms5 : Hid (∀ b off, am = some ⟨b, off, none⟩ → ms ≠ [] → b ≠ s ∧ b < g3) := hid (by
    rintro b off rfl hne
    rcases HRM.out with h | ⟨b', off', e, hlt, -⟩
    · exact absurd h hne
    · cases e
      obtain ⟨a', c', e', -, hge⟩ := (HOWN3.out).row
      rw [HNM.out] at e'
      cases e'
      have := hge _ _ rfl
      have h1 := HZ3.out
      have h2 := HG3.out
      exact ⟨by omega, by omega⟩)
  go_wp2_with fail
  go_loopw [5] (fun i wr => ∃ (k : Nat) (got : List (List Pid)) (vl : Value) (T : RS), k ≤ n ∧ i = .int .u64 k ∧ got.length = k ∧ (∃ a' c', RdIs wr s a' c' T) ∧ BoxV wr g3 (.int .u64 i0) (.slice am nm cm) vl (.slice none 0 0) ∧ OwnLL wr (g3 + 1) vl got ∧ Hid (ls = got ++ (rLeaves ms (n - k) T).1 ∧ S4 = (rLeaves ms (n - k) T).2) ∧ Mut (fun k => k = s ∨ g3 ≤ k) w4 wr) (fun i _ => n - (intOf i).toNat)
  case atStart =>
    exact ⟨0, [], _, S3, Nat.zero_le _, rfl, rfl, ⟨a5, c5, HR5.out⟩, HX5.out, OwnLL.nil _ _, hid (by rw [Nat.sub_zero, H4.out]; simp), HM5.out⟩
  case round =>
    obtain ⟨k, got, vl, T, hk, rfl, hgl, ⟨a6, c6, hRT⟩, hbx, hown, hM, hmut⟩ := hrel
    have HRT := hid hRT
    have HBX := hid hbx
    have HOWN := hid hown
    have HMU := hid hmut
    have HGL := hid hgl
    have hgw : g3 < wr.heap.size := hbx.lt
    have hmsr : Hid (∀ W, Mut (fun k => k = s ∨ g3 ≤ k) w4 W → PidRow W am ms) := hid (fun W h => (HRM.out.ext HB34.out).mutT h (fun b off h1 h2 => by
      have := hms5.out b off h1 h2
      rintro (e | e)
      · exact this.1 e
      · omega))
    by_cases hlt : k < n
    · have t1 : decide ((k : Int) < (n : Int)) = true := by simpa using hlt
      have t1' : decide (k < n) = true := by simpa using hlt
      by_cases he : T.e = 0
      · have CE := hid (rErr_0 hRT he)
        obtain ⟨⟨l, T2⟩, hl⟩ : ∃ q, rPlaces ms T = q := ⟨_, rfl⟩
        have hM2 : Hid (ls = (got ++ [l]) ++ (rLeaves ms (n - (k + 1)) T2).1 ∧ S4 = (rLeaves ms (n - (k + 1)) T2).2) := hid (by
          have := hM.out
          rw [show n - k = (n - (k + 1)) + 1 by omega, rLeaves_step he hl] at this
          exact ⟨by rw [this.1]; simp, this.2⟩)
        obtain ⟨G2, hG2⟩ : ∃ G2, got ++ [l] = G2 := ⟨_, rfl⟩
        have HG2L : Hid (G2.length = k + 1) := hid (by rw [← hG2, List.length_append, hgl]; rfl)
        rw [hG2] at hM2
        have HG2 := hid hG2
        have hbd := hbx.ext (Below.refl wr.heap.size wr).drew
        have hod := hown.ext (Below.refl wr.heap.size wr).drew
        have hmd : Mut (fun k => k = s ∨ g3 ≤ k) w4 wr.drew := hmut.drew
        have CP := hid (places_is (cm := cm) (hid hl) (hRT.ext (Below.refl wr.heap.size wr).drew) HNM (by omega) (hmsr.out _ hmd) (fun b off h1 h2 => (hms5.out b off h1 h2).1))
        have HLT := hid hlt
        obtain ⟨y0, y1, y2, y3, -, -, fz2, -⟩ := id hbd
        have hblk : ∀ g, vl.ownBlock = some g → g < wr.heap.size := fun g hg => (hown.blk hg).2
        have HBD := hid hbd
        have HOD := hid hod
        have HMD := hid hmd
        have HBLK := hid hblk
        clear hRT hown hmut hgl he hM hl hG2 hbx hlt hbd hod hmd hblk
        go_wp2_with fail
        refine CE.out.mono ?_
        rintro e w7 ⟨rfl, rfl⟩
        go_wp2_with fail

        refine wp_region_held_drew (S := fun W => W.cell? ⟨g3, 1, none⟩ = some (.slice am nm cm)) (by kernel_rfl) (HBD.out.c1) (fun hHeld => ?_)
        refine wpAnyH_take (i := 0) (oi := _) (v := .pointer (some ⟨g3, 2, none⟩)) rfl (by kernel_rfl) (by kernel_rfl) (by kernel_rfl) (fun _ _ _ h => h) (Or.inl ⟨by rfl, ?_⟩) (by assumption) ?_
        · intro W hSw
          try dsimp only at hSw
          go_simp
        try simp only [Act.put, List.getElem_toArray, List.getElem_cons_zero, List.setIfInBounds_toArray, List.set_cons_zero, List.set_cons_succ]
        refine wpAnyH_take (i := 2) (oi := _) (v := .pointer (some ⟨s, 0, none⟩)) rfl (by kernel_rfl) (by kernel_rfl) (by kernel_rfl) (fun _ _ _ h => h) (Or.inl ⟨by rfl, ?_⟩) (by assumption) ?_
        · intro W hSw
          try dsimp only at hSw
          go_simp
        try simp only [Act.put, List.getElem_toArray, List.getElem_cons_succ, List.getElem_cons_zero, List.setIfInBounds_toArray, List.set_cons_zero, List.set_cons_succ]
        refine wpAnyH_take (i := 3) (oi := _) (v := .pointer (some ⟨g3, 1, none⟩)) rfl (by kernel_rfl) (by kernel_rfl) (by kernel_rfl) (fun _ _ _ h => h) (Or.inl ⟨by rfl, ?_⟩) (by assumption) ?_
        · intro W hSw
          try dsimp only at hSw
          go_simp
        try simp only [Act.put, List.getElem_toArray, List.getElem_cons_succ, List.getElem_cons_zero, List.setIfInBounds_toArray, List.set_cons_zero, List.set_cons_succ]
        refine wpAnyH_take (i := 4) (oi := _) (v := .slice am nm cm) rfl (by kernel_rfl) (by kernel_rfl) (by kernel_rfl) (fun _ _ _ h => h) (Or.inl ⟨by rfl, ?_⟩) (by assumption) ?_
        · intro W hSw
          try dsimp only at hSw
          go_simp
        try simp only [Act.put, List.getElem_toArray, List.getElem_cons_succ, List.getElem_cons_zero, List.setIfInBounds_toArray, List.set_cons_zero, List.set_cons_succ]
        refine wpAnyH_ready (rs := [1, 5]) (by kernel_rfl) (by simp) ?_
        refine AllReadyH.cons (o := _) rfl (fun K hK => ?_) (AllReadyH.cons (o := _) rfl (fun K hK => ?_) AllReadyH.nil)
        · go_simp
          refine hK.out _ _ (HBD.out.c1) (fun hHeld => ?_)
          clear hK K
          try simp only [Act.put, List.getElem_toArray, List.getElem_cons_succ, List.getElem_cons_zero, List.setIfInBounds_toArray, List.set_cons_zero, List.set_cons_succ]
          refine wpAnyH_ready (rs := [5]) (by kernel_rfl) (by simp) ?_
          refine AllReadyH.cons (o := _) rfl (fun K hK => ?_) AllReadyH.nil
          go_simp
          refine CP.out.mono ?_
          rintro e w11 ⟨⟨v11, rfl, hv11⟩, ⟨a11, c11, hR11⟩, hM11⟩
          obtain ⟨q11, k11, e11, -, -⟩ := hv11.row
          subst e11
          have hq : Below w11.heap.size w11 (w11.alloc (.cells #[.slice q11 l.length k11] 30)) := (Below.refl _ _).alloc (Nat.le_refl _) _
          have hb11 := HBD.out.mutT hM11 hb3s
          have z11 := hb11.c2
          have hb11b := hb11.ext hq
          have z11b := hb11b.c2
          have ho11 := (HOD.out.mutT hM11 (fun k e => by rw [e]; omega)).ext hq
          have hv11b := (hv11.ext hq).mono2 (b' := g3 + 1) (by simp; omega)
          have hR11b := hR11.ext hq
          have hm11 : Mut (fun k => k = s ∨ g3 ≤ k) w4 w11 := HMD.out.trans (hM11.mono (fun k _ e => .inl e))
          have hm11b := hm11.trans (Mut.of_below hq)
          have hne11 : ∀ g, (Value.slice q11 l.length k11).ownBlock = some g → vl.ownBlock ≠ some g := fun g h1 h2 => by
            have h3 := (hv11.blk h1).1
            have h4 := HBLK.out g h2
            simp at h3; omega
          have h011 : (w11.alloc (.cells #[.slice q11 l.length k11] 30)).cell? ⟨w11.heap.size, 0, none⟩ = some (.slice q11 l.length k11) := by simp
          have hsz11 : wr.heap.size ≤ w11.heap.size := hM11.size
          have HV11 := hid hv11b
          have HNE11 := hid hne11
          have HO11 := hid ho11
          have HR11 := hid hR11b
          have HM11 := hid hm11b
          have H011 := hid h011
          have HB11 := hid hb11
          have HB11B := hid hb11b
          clear hv11 hv11b hne11 ho11 hR11 hR11b hm11 hm11b h011 hM11 hq hb11 hb11b
          refine hK.out _ _ (HB11.out.c1) (fun hHeld => ?_)
          clear hK K
          try simp only [Act.put, List.getElem_toArray, List.getElem_cons_succ, List.getElem_cons_zero, List.setIfInBounds_toArray, List.set_cons_zero, List.set_cons_succ]
          refine wpAnyH_ready (rs := [6]) (by kernel_rfl) (by simp) ?_
          refine AllReadyH.cons (o := _) rfl (fun K hK => ?_) AllReadyH.nil
          go_simp
          refine hK.out _ _ (HB11B.out.c1) (fun hHeld => ?_)
          clear hK K
          try simp only [Act.put, List.getElem_toArray, List.getElem_cons_succ, List.getElem_cons_zero, List.setIfInBounds_toArray, List.set_cons_zero, List.set_cons_succ]
          refine wpAnyH_ready (rs := [7]) (by kernel_rfl) (by simp) ?_
          refine AllReadyH.cons (o := _) rfl (fun K hK => ?_) AllReadyH.nil
          refine step_appendLL (by rfl) HO11.out H011.out HV11.out HNE11.out (by have := HGL.out; omega) (by simp; omega) rfl rfl rfl ?_
          intro v12 w12 hown12 hg12
          rw [HG2.out] at hown12
          obtain ⟨a12, k12, he12, -⟩ := hown12.row
          subst he12
          have hgm := grownLL_mut hg12 HO11.out
          have hb12 := HB11B.out.mutT hgm (fun e => by have e : g3 + 1 ≤ g3 := e; omega)
          have z12 := hb12.c2
          have f12 := hb12.f2
          have hR12 := HR11.out.mutT hgm (fun k e => by have e : g3 + 1 ≤ k := e; omega)
          have hm12 : Mut (fun k => k = s ∨ g3 ≤ k) w4 w12 := HM11.out.trans (hgm.mono (fun k _ e => .inr (by have e : g3 + 1 ≤ k := e; omega)))
          have hb13 := hb12.set2 (.slice a12 G2.length k12)
          have hR13 := hR12.mutT (G := fun k => k = g3) (mut1 (s := g3) (i := 2) (v := .slice a12 G2.length k12)) (fun k e => by rw [e]; exact hs3)
          have hm13 := hm12.trans ((mut1 (s := g3) (i := 2) (v := .slice a12 G2.length k12)).mono (fun k _ e => .inr (by rw [e]; exact Nat.le_refl _)))
          have ho13 := hown12.mutT (mut1 (s := g3) (i := 2) (v := .slice a12 G2.length k12)) (fun k e => by rw [e]; exact Nat.lt_succ_self _)
          have HB12 := hid hb12
          have HB13 := hid hb13
          have HR13 := hid hR13
          have HM13 := hid hm13
          have HO13 := hid ho13
          clear hown12 hg12 hgm hR12 hm12 hb13 hR13 hm13 ho13 hb12
          refine hK.out _ _ (HB12.out.c1) (fun hHeld => ?_)
          clear hK K
          try simp only [Act.put, List.getElem_toArray, List.getElem_cons_succ, List.getElem_cons_zero, List.setIfInBounds_toArray, List.set_cons_zero, List.set_cons_succ]
          refine wpAnyH_ready (rs := [8]) (by kernel_rfl) (by simp) ?_
          refine AllReadyH.cons (o := _) rfl (fun K hK => ?_) AllReadyH.nil
          go_simp
          refine hK.out _ _ (HB12.out.c1) (fun hHeld => ?_)
          clear hK K
          try simp only [Act.put, List.getElem_toArray, List.getElem_cons_succ, List.getElem_cons_zero, List.setIfInBounds_toArray, List.set_cons_zero, List.set_cons_succ]
          refine wpAnyH_ready (rs := [9]) (by kernel_rfl) (by simp) ?_
          refine AllReadyH.cons (o := _) rfl (fun K hK => ?_) AllReadyH.nil
          go_simp
          refine hK.out _ _ (HB13.out.c1) (fun hHeld => ?_)
          clear hK K
          try simp only [Act.put, List.getElem_toArray, List.getElem_cons_succ, List.getElem_cons_zero, List.setIfInBounds_toArray, List.set_cons_zero, List.set_cons_succ]
          refine wpAnyH_done (by kernel_rfl) ?_ _
          go_wp2
          go_roundw
          case rel => exact ⟨k + 1, G2, _, T2, by have := HLT.out; omega, by go_num, HG2L.out, ⟨a11, c11, HR13.out⟩, HB13.out, HO13.out, hM2, HM13.out⟩
          case measure => have := HLT.out; simp [intOf]; omega
        · go_simp
          refine CP.out.mono ?_
          rintro e w11 ⟨⟨v11, rfl, hv11⟩, ⟨a11, c11, hR11⟩, hM11⟩
          obtain ⟨q11, k11, e11, -, -⟩ := hv11.row
          subst e11
          have hq : Below w11.heap.size w11 (w11.alloc (.cells #[.slice q11 l.length k11] 30)) := (Below.refl _ _).alloc (Nat.le_refl _) _
          have hb11 := HBD.out.mutT hM11 hb3s
          have z11 := hb11.c2
          have hb11b := hb11.ext hq
          have z11b := hb11b.c2
          have ho11 := (HOD.out.mutT hM11 (fun k e => by rw [e]; omega)).ext hq
          have hv11b := (hv11.ext hq).mono2 (b' := g3 + 1) (by simp; omega)
          have hR11b := hR11.ext hq
          have hm11 : Mut (fun k => k = s ∨ g3 ≤ k) w4 w11 := HMD.out.trans (hM11.mono (fun k _ e => .inl e))
          have hm11b := hm11.trans (Mut.of_below hq)
          have hne11 : ∀ g, (Value.slice q11 l.length k11).ownBlock = some g → vl.ownBlock ≠ some g := fun g h1 h2 => by
            have h3 := (hv11.blk h1).1
            have h4 := HBLK.out g h2
            simp at h3; omega
          have h011 : (w11.alloc (.cells #[.slice q11 l.length k11] 30)).cell? ⟨w11.heap.size, 0, none⟩ = some (.slice q11 l.length k11) := by simp
          have hsz11 : wr.heap.size ≤ w11.heap.size := hM11.size
          have HV11 := hid hv11b
          have HNE11 := hid hne11
          have HO11 := hid ho11
          have HR11 := hid hR11b
          have HM11 := hid hm11b
          have H011 := hid h011
          have HB11 := hid hb11
          have HB11B := hid hb11b
          clear hv11 hv11b hne11 ho11 hR11 hR11b hm11 hm11b h011 hM11 hq hb11 hb11b
          refine hK.out _ _ (HB11.out.c1) (fun hHeld => ?_)
          clear hK K
          try simp only [Act.put, List.getElem_toArray, List.getElem_cons_succ, List.getElem_cons_zero, List.setIfInBounds_toArray, List.set_cons_zero, List.set_cons_succ]
          refine wpAnyH_ready (rs := [1, 6]) (by kernel_rfl) (by simp) ?_
          refine AllReadyH.cons (o := _) rfl (fun K hK => ?_) (AllReadyH.cons (o := _) rfl (fun K hK => ?_) AllReadyH.nil)
          · go_simp
            refine hK.out _ _ (HB11.out.c1) (fun hHeld => ?_)
            clear hK K
            try simp only [Act.put, List.getElem_toArray, List.getElem_cons_succ, List.getElem_cons_zero, List.setIfInBounds_toArray, List.set_cons_zero, List.set_cons_succ]
            refine wpAnyH_ready (rs := [6]) (by kernel_rfl) (by simp) ?_
            refine AllReadyH.cons (o := _) rfl (fun K hK => ?_) AllReadyH.nil
            go_simp
            refine hK.out _ _ (HB11B.out.c1) (fun hHeld => ?_)
            clear hK K
            try simp only [Act.put, List.getElem_toArray, List.getElem_cons_succ, List.getElem_cons_zero, List.setIfInBounds_toArray, List.set_cons_zero, List.set_cons_succ]
            refine wpAnyH_ready (rs := [7]) (by kernel_rfl) (by simp) ?_
            refine AllReadyH.cons (o := _) rfl (fun K hK => ?_) AllReadyH.nil
            refine step_appendLL (by rfl) HO11.out H011.out HV11.out HNE11.out (by have := HGL.out; omega) (by simp; omega) rfl rfl rfl ?_
            intro v12 w12 hown12 hg12
            rw [HG2.out] at hown12
            obtain ⟨a12, k12, he12, -⟩ := hown12.row
            subst he12
            have hgm := grownLL_mut hg12 HO11.out
            have hb12 := HB11B.out.mutT hgm (fun e => by have e : g3 + 1 ≤ g3 := e; omega)
            have z12 := hb12.c2
            have f12 := hb12.f2
            have hR12 := HR11.out.mutT hgm (fun k e => by have e : g3 + 1 ≤ k := e; omega)
            have hm12 : Mut (fun k => k = s ∨ g3 ≤ k) w4 w12 := HM11.out.trans (hgm.mono (fun k _ e => .inr (by have e : g3 + 1 ≤ k := e; omega)))
            have hb13 := hb12.set2 (.slice a12 G2.length k12)
            have hR13 := hR12.mutT (G := fun k => k = g3) (mut1 (s := g3) (i := 2) (v := .slice a12 G2.length k12)) (fun k e => by rw [e]; exact hs3)
            have hm13 := hm12.trans ((mut1 (s := g3) (i := 2) (v := .slice a12 G2.length k12)).mono (fun k _ e => .inr (by rw [e]; exact Nat.le_refl _)))
            have ho13 := hown12.mutT (mut1 (s := g3) (i := 2) (v := .slice a12 G2.length k12)) (fun k e => by rw [e]; exact Nat.lt_succ_self _)
            have HB12 := hid hb12
            have HB13 := hid hb13
            have HR13 := hid hR13
            have HM13 := hid hm13
            have HO13 := hid ho13
            clear hown12 hg12 hgm hR12 hm12 hb13 hR13 hm13 ho13 hb12
            refine hK.out _ _ (HB12.out.c1) (fun hHeld => ?_)
            clear hK K
            try simp only [Act.put, List.getElem_toArray, List.getElem_cons_succ, List.getElem_cons_zero, List.setIfInBounds_toArray, List.set_cons_zero, List.set_cons_succ]
            refine wpAnyH_ready (rs := [8]) (by kernel_rfl) (by simp) ?_
            refine AllReadyH.cons (o := _) rfl (fun K hK => ?_) AllReadyH.nil
            go_simp
            refine hK.out _ _ (HB12.out.c1) (fun hHeld => ?_)
            clear hK K
            try simp only [Act.put, List.getElem_toArray, List.getElem_cons_succ, List.getElem_cons_zero, List.setIfInBounds_toArray, List.set_cons_zero, List.set_cons_succ]
            refine wpAnyH_ready (rs := [9]) (by kernel_rfl) (by simp) ?_
            refine AllReadyH.cons (o := _) rfl (fun K hK => ?_) AllReadyH.nil
            go_simp
            refine hK.out _ _ (HB13.out.c1) (fun hHeld => ?_)
            clear hK K
            try simp only [Act.put, List.getElem_toArray, List.getElem_cons_succ, List.getElem_cons_zero, List.setIfInBounds_toArray, List.set_cons_zero, List.set_cons_succ]
            refine wpAnyH_done (by kernel_rfl) ?_ _
            go_wp2
            go_roundw
            case rel => exact ⟨k + 1, G2, _, T2, by have := HLT.out; omega, by go_num, HG2L.out, ⟨a11, c11, HR13.out⟩, HB13.out, HO13.out, hM2, HM13.out⟩
            case measure => have := HLT.out; simp [intOf]; omega
          · go_simp
            refine hK.out _ _ (HB11B.out.c1) (fun hHeld => ?_)
            clear hK K
            try simp only [Act.put, List.getElem_toArray, List.getElem_cons_succ, List.getElem_cons_zero, List.setIfInBounds_toArray, List.set_cons_zero, List.set_cons_succ]
            refine wpAnyH_ready (rs := [1]) (by kernel_rfl) (by simp) ?_
            refine AllReadyH.cons (o := _) rfl (fun K hK => ?_) AllReadyH.nil
            go_simp
            refine hK.out _ _ (HB11B.out.c1) (fun hHeld => ?_)
            clear hK K
            try simp only [Act.put, List.getElem_toArray, List.getElem_cons_succ, List.getElem_cons_zero, List.setIfInBounds_toArray, List.set_cons_zero, List.set_cons_succ]
            refine wpAnyH_ready (rs := [7]) (by kernel_rfl) (by simp) ?_
            refine AllReadyH.cons (o := _) rfl (fun K hK => ?_) AllReadyH.nil
            refine step_appendLL (by rfl) HO11.out H011.out HV11.out HNE11.out (by have := HGL.out; omega) (by simp; omega) rfl rfl rfl ?_
            intro v12 w12 hown12 hg12
            rw [HG2.out] at hown12
            obtain ⟨a12, k12, he12, -⟩ := hown12.row
            subst he12
            have hgm := grownLL_mut hg12 HO11.out
            have hb12 := HB11B.out.mutT hgm (fun e => by have e : g3 + 1 ≤ g3 := e; omega)
            have z12 := hb12.c2
            have f12 := hb12.f2
            have hR12 := HR11.out.mutT hgm (fun k e => by have e : g3 + 1 ≤ k := e; omega)
            have hm12 : Mut (fun k => k = s ∨ g3 ≤ k) w4 w12 := HM11.out.trans (hgm.mono (fun k _ e => .inr (by have e : g3 + 1 ≤ k := e; omega)))
            have hb13 := hb12.set2 (.slice a12 G2.length k12)
            have hR13 := hR12.mutT (G := fun k => k = g3) (mut1 (s := g3) (i := 2) (v := .slice a12 G2.length k12)) (fun k e => by rw [e]; exact hs3)
            have hm13 := hm12.trans ((mut1 (s := g3) (i := 2) (v := .slice a12 G2.length k12)).mono (fun k _ e => .inr (by rw [e]; exact Nat.le_refl _)))
            have ho13 := hown12.mutT (mut1 (s := g3) (i := 2) (v := .slice a12 G2.length k12)) (fun k e => by rw [e]; exact Nat.lt_succ_self _)
            have HB12 := hid hb12
            have HB13 := hid hb13
            have HR13 := hid hR13
            have HM13 := hid hm13
            have HO13 := hid ho13
            clear hown12 hg12 hgm hR12 hm12 hb13 hR13 hm13 ho13 hb12
            refine hK.out _ _ (HB12.out.c1) (fun hHeld => ?_)
            clear hK K
            try simp only [Act.put, List.getElem_toArray, List.getElem_cons_succ, List.getElem_cons_zero, List.setIfInBounds_toArray, List.set_cons_zero, List.set_cons_succ]
            refine wpAnyH_ready (rs := [8]) (by kernel_rfl) (by simp) ?_
            refine AllReadyH.cons (o := _) rfl (fun K hK => ?_) AllReadyH.nil
            go_simp
            refine hK.out _ _ (HB12.out.c1) (fun hHeld => ?_)
            clear hK K
            try simp only [Act.put, List.getElem_toArray, List.getElem_cons_succ, List.getElem_cons_zero, List.setIfInBounds_toArray, List.set_cons_zero, List.set_cons_succ]
            refine wpAnyH_ready (rs := [9]) (by kernel_rfl) (by simp) ?_
            refine AllReadyH.cons (o := _) rfl (fun K hK => ?_) AllReadyH.nil
            go_simp
            refine hK.out _ _ (HB13.out.c1) (fun hHeld => ?_)
            clear hK K
            try simp only [Act.put, List.getElem_toArray, List.getElem_cons_succ, List.getElem_cons_zero, List.setIfInBounds_toArray, List.set_cons_zero, List.set_cons_succ]
            refine wpAnyH_done (by kernel_rfl) ?_ _
            go_wp2
            go_roundw
            case rel => exact ⟨k + 1, G2, _, T2, by have := HLT.out; omega, by go_num, HG2L.out, ⟨a11, c11, HR13.out⟩, HB13.out, HO13.out, hM2, HM13.out⟩
            case measure => have := HLT.out; simp [intOf]; omega
      · have CE := hid (rErr_is hRT (hid rfl))
        have t2 : ((T.e : Int) == 0) = false := by simp; omega
        have HEND : Hid (ls = got ∧ S4 = T) := hid (by
          have := hM.out
          rw [rLeaves_stop he] at this
          simpa using this)
        clear hRT hown hmut hgl hbx he hlt hM
        go_wp2_with fail
        refine CE.out.mono ?_
        rintro e w7 ⟨rfl, rfl⟩
        obtain ⟨y0, y1, y2, y3, -, -, -, -⟩ := HBX.out
        have C6 := hid (places_is (cm := cm) (hid ((HEND.out.2 ▸ H5.out : rPlaces ms T = (ds, S5)))) HRT.out HNM (by omega) (hmsr.out _ HMU.out) (fun b off h1 h2 => (hms5.out b off h1 h2).1))
        go_wp2_with fail
        refine C6.out.mono ?_
        rintro e w8 ⟨⟨v8, rfl, hv8⟩, ⟨a8, c8, hR8⟩, hM8⟩
        obtain ⟨q8, k8, e8, -, -⟩ := hv8.row
        subst e8
        have hb8 := HBX.out.mutT hM8 hb3s
        obtain ⟨z0, z1, z2, z3, -, -, -, fz3⟩ := id hb8
        have HB9 := hid (hb8.set3 (.slice q8 ds.length k8))
        have hR9 := hR8.mutT (G := fun k => k = g3) (mut1 (s := g3) (i := 3) (v := .slice q8 ds.length k8)) (fun k e => by rw [e]; exact hs3)
        have ho8 := HOWN.out.mutT hM8 (fun k e => by rw [e]; omega)
        rw [← HEND.out.1] at ho8
        have ho9 := ho8.mutT (mut1 (s := g3) (i := 3) (v := .slice q8 ds.length k8)) (fun k e => by rw [e]; exact Nat.lt_succ_self _)
        have hv9 := (hv8.mono2 (b' := g3 + 1) (by omega)).mutT (mut1 (s := g3) (i := 3) (v := .slice q8 ds.length k8)) (fun k e => by rw [e]; exact Nat.lt_succ_self _)
        have hm9 := (HMU.out.trans (hM8.mono (G := fun k => k = s ∨ g3 ≤ k) (fun k _ e => .inl e))).trans ((mut1 (s := g3) (i := 3) (v := .slice q8 ds.length k8)).mono (fun k _ e => .inr (by rw [e]; exact Nat.le_refl _)))
        obtain ⟨ql, kl, el, hlr⟩ := ho9.row
        subst el
        obtain ⟨q8', k8', e8', hdr, -⟩ := hv9.row
        cases e8'
        have hprow := hmsr.out _ hm9
        have hz3 := HZ3.out
        have hg3 := HG3.out
        have HMW := hid (((Mut.of_below (F := fun k => k = s ∨ w.heap.size ≤ k) HB1.out).trans (hM13.out.mono (fun k _ e => .inl e))).trans ((Mut.of_below HB34.out).trans (hm9.mono (fun k _ e => e.elim .inl (fun h => .inr (by omega))))))
        have hx9 : BoxV (w8.setCell ⟨g3, 3, none⟩ (.slice q8 ds.length k8)) w.heap.size (.int .u64 0) (.slice none 0 0) (.slice none 0 0) (.slice none 0 0) := ((X2.out.mutT hM13.out (fun e => by have e : w.heap.size = s := e; omega)).ext HB34.out).mutT hm9 (fun e => by rcases e with e | e <;> omega)
        have hown9 : OwnP (w8.setCell ⟨g3, 3, none⟩ (.slice q8 ds.length k8)) w2.heap.size (.slice am nm cm) ms := (HOWN3.out.ext HB34.out).mutN hm9 (fun g hg e => by
          have h1 := HOWN3.out.blk hg
          rcases e with e | e <;> omega)
        have HX9 := hid hx9
        have HOWN9 := hid hown9
        have HR9 := hid hR9
        have HO9 := hid ho9
        have HV9 := hid hv9
        have HPROW := hid hprow
        have HLR := hid hlr
        have HDR := hid hdr
        have HGW : Hid (w.heap.size < g3 ∧ w.heap.size < w2.heap.size) := hid (by omega)
        clear C6 hv8 hR8 hM8 hb8 hR9 ho8 ho9 hv9 hm9 hlr hdr hprow hx9 hown9 hz3 hg3
        obtain ⟨w9, hw9⟩ : ∃ w9, w8.setCell ⟨g3, 3, none⟩ (.slice q8 ds.length k8) = w9 := ⟨_, rfl⟩
        rw [hw9] at HB9 HX9 HOWN9 HR9 HO9 HV9 HPROW HLR HDR HMW
        by_cases h5 : S5.e = 0
        · have CE9 := hid (rErr_0 HR9.out h5)
          have hsum : lens ls ≤ 549755813888 := by
            have := lens_le HLS.out.2
            have h2 := HLS.out.1
            have : lens ls ≤ 24 * 24 := Nat.le_trans this (Nat.mul_le_mul_right _ (by omega))
            omega
          have hV9 : ViewR w9 am ql q8 ⟨(i0 : Nat), ms, ls, ds⟩ := ⟨HPROW.out, HLR.out, HDR.out, by have := HML.out; simp only; omega, by have := HLS.out.1; simp only; omega, by have := HDL.out; simp only; omega, fun l hl => by have := HLS.out.2 l hl; omega⟩
          have H50 := hid h5
          obtain ⟨b0, b1, b2, b3, -, -, -, -⟩ := HB9.out
          cases hcb : checkB ⟨(i0 : Nat), ms, ls, ds⟩
          · have CK := hid (check_is (k := 1) (cm := cm) (cl := kl) (cd := k8) (hid hcb) rfl hV9 hsum)
            simp only at CK
            rw [HNM.out] at CK
            have HRV : Hid (rView S = (zeroV, ⟨S5.b, 5⟩)) := hid (by
              unfold rView
              rw [hP.out]
              rw [if_neg (by simp [h5]), if_pos ((check_eq ⟨(i0 : Nat), ms, ls, ds⟩ HOK.out).symm.trans hcb)])
            have HV := hid hV9
            clear hcb h5 hV9 hsum
            go_wp2_with fail
            refine CE9.out.mono ?_
            rintro e w10 ⟨rfl, rfl⟩
            go_wp2_with fail
            refine CK.out.mono ?_
            rintro e w10 ⟨rfl, hb10⟩
            have CS := hid (stop_any 5 (z := 5) rfl (by decide) H50.out (HR9.out.ext hb10))
            have HX10 := hid (HX9.out.ext hb10)
            have HMW10 := hid (HMW.out.trans (Mut.of_below hb10))
            clear CK CE9 hb10 b0 b1 b2 b3 hw9
            go_wp2_with fail
            refine CS.out.mono ?_
            rintro e w11 ⟨rfl, hR11, hM11⟩
            have CE11 := hid (rErr_is hR11 (hid rfl))
            have hx11 := HX10.out.mutT hM11 (fun e => by have e : w.heap.size = s := e; omega)
            obtain ⟨d0, d1, d2, d3, df0, df1, df2, df3⟩ := id hx11
            have HX11 := hid hx11
            have HMW11 := hid (HMW10.out.trans (hM11.mono (G := fun k => k = s ∨ w.heap.size ≤ k) (fun k _ e => .inl e)))
            have HR11 := hid hR11
            clear CS hx11 hM11 hR11
            go_wp2_with fail
            refine CE11.out.mono ?_
            rintro e w12 ⟨rfl, rfl⟩
            go_wp2
            obtain ⟨p0, p1, p2, p3, -, -, -, -⟩ := HX11.out.put (.int .u64 0) (.slice none 0 0) (.slice none 0 0) (.slice none 0 0)
            exact bodyPost_ret (v := .agg #[.int .u64 0, .slice none 0 0, .slice none 0 0, .slice none 0 0]) (by simp [results, Try.results130, go_sem, p0, p1, p2, p3]) rfl (by
              rw [HRV.out]
              exact ⟨_, _, _, rfl, OwnP.nil _ _, OwnLL.nil _ _, OwnP.nil _ _, ⟨_, _, HR11.out.mutT (mutV _ w.heap.size _ _ _ _) (fun k e => by rw [e]; exact hs)⟩, (HMW11.out.trans ((mutV _ w.heap.size _ _ _ _).mono (fun k _ e => .inr (by rw [e]; exact Nat.le_refl _)))).mono (fun k hk e => e.elim id (fun h => absurd h (by omega)))⟩)
          · have CK := hid (check_is (k := 0) (cm := cm) (cl := kl) (cd := k8) (hid hcb) rfl hV9 hsum)
            simp only at CK
            rw [HNM.out] at CK
            have HRV : Hid (rView S = (⟨(i0 : Nat), ms, ls, ds⟩, S5)) := hid (by
              unfold rView
              rw [hP.out]
              have := (check_eq ⟨(i0 : Nat), ms, ls, ds⟩ HOK.out).symm.trans hcb
              rw [if_neg (by simp [h5]), if_neg (by rw [this]; simp)])
            clear hcb h5 hV9 hsum
            go_wp2_with fail
            refine CE9.out.mono ?_
            rintro e w10 ⟨rfl, rfl⟩
            go_wp2_with fail
            refine CK.out.mono ?_
            rintro e w10 ⟨rfl, hb10⟩
            have CE10 := hid (rErr_0 (HR9.out.ext hb10) H50.out)
            have HX10 := hid (HX9.out.ext hb10)
            have HMW10 := hid (HMW.out.trans (Mut.of_below hb10))
            have HB10 := hid (HB9.out.ext hb10)
            have HR10 := hid (HR9.out.ext hb10)
            have HO10 := hid (HO9.out.ext hb10)
            have HV10 := hid (HV9.out.ext hb10)
            have HOWN10 := hid (HOWN9.out.ext hb10)
            clear CK CE9 hb10 b0 b1 b2 b3 hw9
            obtain ⟨b0, b1, b2, b3, -, -, -, -⟩ := HB10.out
            obtain ⟨d0, d1, d2, d3, df0, df1, df2, df3⟩ := HX10.out
            go_wp2_with fail
            refine CE10.out.mono ?_
            rintro e w12 ⟨rfl, rfl⟩
            go_wp2
            obtain ⟨p0, p1, p2, p3, -, -, -, -⟩ := HX10.out.put (.int .u64 i0) (.slice am nm cm) (.slice ql ls.length kl) (.slice q8 ds.length k8)
            exact bodyPost_ret (v := .agg #[.int .u64 i0, .slice am nm cm, .slice ql ls.length kl, .slice q8 ds.length k8]) (by simp [results, Try.results130, go_sem, p0, p1, p2, p3]) rfl (by
              rw [HRV.out]
              have hm := mutV w10 w.heap.size (.int .u64 i0) (.slice am nm cm) (.slice ql ls.length kl) (.slice q8 ds.length k8)
              have hgw2 := HGW.out
              exact ⟨_, _, _, rfl, (HOWN10.out.mutN hm (fun g hg e => by
                have h1 := HOWN10.out.blk hg
                have e : g = w.heap.size := e
                omega)).mono2 (by omega), (HO10.out.mutT hm (fun k e => by rw [e]; omega)).mono (by omega), (HV10.out.mutT hm (fun k e => by rw [e]; omega)).mono2 (by omega), ⟨_, _, HR10.out.mutT hm (fun k e => by rw [e]; exact hs)⟩, (HMW10.out.trans (hm.mono (fun k _ e => .inr (by rw [e]; exact Nat.le_refl _)))).mono (fun k hk e => e.elim id (fun h => absurd h (by omega)))⟩)
        · have CE9 := hid (rErr_is HR9.out (hid rfl))
          have t9 : ((S5.e : Int) == 0) = false := by simp; omega
          have t9' : ((S5.e : Int) != 0) = true := by simp; omega
          have HRV : Hid (rView S = (zeroV, S5)) := hid (by
            unfold rView
            rw [hP.out]
            rw [if_pos h5])
          obtain ⟨d0, d1, d2, d3, df0, df1, df2, df3⟩ := HX9.out
          clear h5
          go_wp2_with fail
          refine CE9.out.mono ?_
          rintro e w10 ⟨rfl, rfl⟩
          go_wp2_with fail
          refine CE9.out.mono ?_
          rintro e w11 ⟨rfl, rfl⟩
          go_wp2
          obtain ⟨p0, p1, p2, p3, -, -, -, -⟩ := HX9.out.put (.int .u64 0) (.slice none 0 0) (.slice none 0 0) (.slice none 0 0)
          exact bodyPost_ret (v := .agg #[.int .u64 0, .slice none 0 0, .slice none 0 0, .slice none 0 0]) (by simp [results, Try.results130, go_sem, p0, p1, p2, p3]) rfl (by
            rw [HRV.out]
            exact ⟨_, _, _, rfl, OwnP.nil _ _, OwnLL.nil _ _, OwnP.nil _ _, ⟨_, _, HR9.out.mutT (mutV _ w.heap.size _ _ _ _) (fun k e => by rw [e]; exact hs)⟩, (HMW.out.trans ((mutV _ w.heap.size _ _ _ _).mono (fun k _ e => .inr (by rw [e]; exact Nat.le_refl _)))).mono (fun k hk e => e.elim id (fun h => absurd h (by omega)))⟩)
    · have t1 : decide ((k : Int) < (n : Int)) = false := by simpa using hlt
      have t1' : decide (k < n) = false := by simpa using hlt
      have HEND : Hid (ls = got ∧ S4 = T) := hid (by
        have := hM.out
        rw [show n - k = 0 by omega] at this
        simpa [rLeaves] using this)
      clear hRT hown hmut hgl hbx hlt hM
      obtain ⟨y0, y1, y2, y3, -, -, -, -⟩ := HBX.out
      have C6 := hid (places_is (cm := cm) (hid ((HEND.out.2 ▸ H5.out : rPlaces ms T = (ds, S5)))) HRT.out HNM (by omega) (hmsr.out _ HMU.out) (fun b off h1 h2 => (hms5.out b off h1 h2).1))
      go_wp2_with fail
      refine C6.out.mono ?_
      rintro e w8 ⟨⟨v8, rfl, hv8⟩, ⟨a8, c8, hR8⟩, hM8⟩
      obtain ⟨q8, k8, e8, -, -⟩ := hv8.row
      subst e8
      have hb8 := HBX.out.mutT hM8 hb3s
      obtain ⟨z0, z1, z2, z3, -, -, -, fz3⟩ := id hb8
      have HB9 := hid (hb8.set3 (.slice q8 ds.length k8))
      have hR9 := hR8.mutT (G := fun k => k = g3) (mut1 (s := g3) (i := 3) (v := .slice q8 ds.length k8)) (fun k e => by rw [e]; exact hs3)
      have ho8 := HOWN.out.mutT hM8 (fun k e => by rw [e]; omega)
      rw [← HEND.out.1] at ho8
      have ho9 := ho8.mutT (mut1 (s := g3) (i := 3) (v := .slice q8 ds.length k8)) (fun k e => by rw [e]; exact Nat.lt_succ_self _)
      have hv9 := (hv8.mono2 (b' := g3 + 1) (by omega)).mutT (mut1 (s := g3) (i := 3) (v := .slice q8 ds.length k8)) (fun k e => by rw [e]; exact Nat.lt_succ_self _)
      have hm9 := (HMU.out.trans (hM8.mono (G := fun k => k = s ∨ g3 ≤ k) (fun k _ e => .inl e))).trans ((mut1 (s := g3) (i := 3) (v := .slice q8 ds.length k8)).mono (fun k _ e => .inr (by rw [e]; exact Nat.le_refl _)))
      obtain ⟨ql, kl, el, hlr⟩ := ho9.row
      subst el
      obtain ⟨q8', k8', e8', hdr, -⟩ := hv9.row
      cases e8'
      have hprow := hmsr.out _ hm9
      have hz3 := HZ3.out
      have hg3 := HG3.out
      have HMW := hid (((Mut.of_below (F := fun k => k = s ∨ w.heap.size ≤ k) HB1.out).trans (hM13.out.mono (fun k _ e => .inl e))).trans ((Mut.of_below HB34.out).trans (hm9.mono (fun k _ e => e.elim .inl (fun h => .inr (by omega))))))
      have hx9 : BoxV (w8.setCell ⟨g3, 3, none⟩ (.slice q8 ds.length k8)) w.heap.size (.int .u64 0) (.slice none 0 0) (.slice none 0 0) (.slice none 0 0) := ((X2.out.mutT hM13.out (fun e => by have e : w.heap.size = s := e; omega)).ext HB34.out).mutT hm9 (fun e => by rcases e with e | e <;> omega)
      have hown9 : OwnP (w8.setCell ⟨g3, 3, none⟩ (.slice q8 ds.length k8)) w2.heap.size (.slice am nm cm) ms := (HOWN3.out.ext HB34.out).mutN hm9 (fun g hg e => by
        have h1 := HOWN3.out.blk hg
        rcases e with e | e <;> omega)
      have HX9 := hid hx9
      have HOWN9 := hid hown9
      have HR9 := hid hR9
      have HO9 := hid ho9
      have HV9 := hid hv9
      have HPROW := hid hprow
      have HLR := hid hlr
      have HDR := hid hdr
      have HGW : Hid (w.heap.size < g3 ∧ w.heap.size < w2.heap.size) := hid (by omega)
      clear C6 hv8 hR8 hM8 hb8 hR9 ho8 ho9 hv9 hm9 hlr hdr hprow hx9 hown9 hz3 hg3
      obtain ⟨w9, hw9⟩ : ∃ w9, w8.setCell ⟨g3, 3, none⟩ (.slice q8 ds.length k8) = w9 := ⟨_, rfl⟩
      rw [hw9] at HB9 HX9 HOWN9 HR9 HO9 HV9 HPROW HLR HDR HMW
      by_cases h5 : S5.e = 0
      · have CE9 := hid (rErr_0 HR9.out h5)
        have hsum : lens ls ≤ 549755813888 := by
          have := lens_le HLS.out.2
          have h2 := HLS.out.1
          have : lens ls ≤ 24 * 24 := Nat.le_trans this (Nat.mul_le_mul_right _ (by omega))
          omega
        have hV9 : ViewR w9 am ql q8 ⟨(i0 : Nat), ms, ls, ds⟩ := ⟨HPROW.out, HLR.out, HDR.out, by have := HML.out; simp only; omega, by have := HLS.out.1; simp only; omega, by have := HDL.out; simp only; omega, fun l hl => by have := HLS.out.2 l hl; omega⟩
        have H50 := hid h5
        obtain ⟨b0, b1, b2, b3, -, -, -, -⟩ := HB9.out
        cases hcb : checkB ⟨(i0 : Nat), ms, ls, ds⟩
        · have CK := hid (check_is (k := 1) (cm := cm) (cl := kl) (cd := k8) (hid hcb) rfl hV9 hsum)
          simp only at CK
          rw [HNM.out] at CK
          have HRV : Hid (rView S = (zeroV, ⟨S5.b, 5⟩)) := hid (by
            unfold rView
            rw [hP.out]
            rw [if_neg (by simp [h5]), if_pos ((check_eq ⟨(i0 : Nat), ms, ls, ds⟩ HOK.out).symm.trans hcb)])
          have HV := hid hV9
          clear hcb h5 hV9 hsum
          go_wp2_with fail
          refine CE9.out.mono ?_
          rintro e w10 ⟨rfl, rfl⟩
          go_wp2_with fail
          refine CK.out.mono ?_
          rintro e w10 ⟨rfl, hb10⟩
          have CS := hid (stop_any 5 (z := 5) rfl (by decide) H50.out (HR9.out.ext hb10))
          have HX10 := hid (HX9.out.ext hb10)
          have HMW10 := hid (HMW.out.trans (Mut.of_below hb10))
          clear CK CE9 hb10 b0 b1 b2 b3 hw9
          go_wp2_with fail
          refine CS.out.mono ?_
          rintro e w11 ⟨rfl, hR11, hM11⟩
          have CE11 := hid (rErr_is hR11 (hid rfl))
          have hx11 := HX10.out.mutT hM11 (fun e => by have e : w.heap.size = s := e; omega)
          obtain ⟨d0, d1, d2, d3, df0, df1, df2, df3⟩ := id hx11
          have HX11 := hid hx11
          have HMW11 := hid (HMW10.out.trans (hM11.mono (G := fun k => k = s ∨ w.heap.size ≤ k) (fun k _ e => .inl e)))
          have HR11 := hid hR11
          clear CS hx11 hM11 hR11
          go_wp2_with fail
          refine CE11.out.mono ?_
          rintro e w12 ⟨rfl, rfl⟩
          go_wp2
          obtain ⟨p0, p1, p2, p3, -, -, -, -⟩ := HX11.out.put (.int .u64 0) (.slice none 0 0) (.slice none 0 0) (.slice none 0 0)
          exact bodyPost_ret (v := .agg #[.int .u64 0, .slice none 0 0, .slice none 0 0, .slice none 0 0]) (by simp [results, Try.results130, go_sem, p0, p1, p2, p3]) rfl (by
            rw [HRV.out]
            exact ⟨_, _, _, rfl, OwnP.nil _ _, OwnLL.nil _ _, OwnP.nil _ _, ⟨_, _, HR11.out.mutT (mutV _ w.heap.size _ _ _ _) (fun k e => by rw [e]; exact hs)⟩, (HMW11.out.trans ((mutV _ w.heap.size _ _ _ _).mono (fun k _ e => .inr (by rw [e]; exact Nat.le_refl _)))).mono (fun k hk e => e.elim id (fun h => absurd h (by omega)))⟩)
        · have CK := hid (check_is (k := 0) (cm := cm) (cl := kl) (cd := k8) (hid hcb) rfl hV9 hsum)
          simp only at CK
          rw [HNM.out] at CK
          have HRV : Hid (rView S = (⟨(i0 : Nat), ms, ls, ds⟩, S5)) := hid (by
            unfold rView
            rw [hP.out]
            have := (check_eq ⟨(i0 : Nat), ms, ls, ds⟩ HOK.out).symm.trans hcb
            rw [if_neg (by simp [h5]), if_neg (by rw [this]; simp)])
          clear hcb h5 hV9 hsum
          go_wp2_with fail
          refine CE9.out.mono ?_
          rintro e w10 ⟨rfl, rfl⟩
          go_wp2_with fail
          refine CK.out.mono ?_
          rintro e w10 ⟨rfl, hb10⟩
          have CE10 := hid (rErr_0 (HR9.out.ext hb10) H50.out)
          have HX10 := hid (HX9.out.ext hb10)
          have HMW10 := hid (HMW.out.trans (Mut.of_below hb10))
          have HB10 := hid (HB9.out.ext hb10)
          have HR10 := hid (HR9.out.ext hb10)
          have HO10 := hid (HO9.out.ext hb10)
          have HV10 := hid (HV9.out.ext hb10)
          have HOWN10 := hid (HOWN9.out.ext hb10)
          clear CK CE9 hb10 b0 b1 b2 b3 hw9
          obtain ⟨b0, b1, b2, b3, -, -, -, -⟩ := HB10.out
          obtain ⟨d0, d1, d2, d3, df0, df1, df2, df3⟩ := HX10.out
          go_wp2_with fail
          refine CE10.out.mono ?_
          rintro e w12 ⟨rfl, rfl⟩
          go_wp2
          obtain ⟨p0, p1, p2, p3, -, -, -, -⟩ := HX10.out.put (.int .u64 i0) (.slice am nm cm) (.slice ql ls.length kl) (.slice q8 ds.length k8)
          exact bodyPost_ret (v := .agg #[.int .u64 i0, .slice am nm cm, .slice ql ls.length kl, .slice q8 ds.length k8]) (by simp [results, Try.results130, go_sem, p0, p1, p2, p3]) rfl (by
            rw [HRV.out]
            have hm := mutV w10 w.heap.size (.int .u64 i0) (.slice am nm cm) (.slice ql ls.length kl) (.slice q8 ds.length k8)
            have hgw2 := HGW.out
            exact ⟨_, _, _, rfl, (HOWN10.out.mutN hm (fun g hg e => by
              have h1 := HOWN10.out.blk hg
              have e : g = w.heap.size := e
              omega)).mono2 (by omega), (HO10.out.mutT hm (fun k e => by rw [e]; omega)).mono (by omega), (HV10.out.mutT hm (fun k e => by rw [e]; omega)).mono2 (by omega), ⟨_, _, HR10.out.mutT hm (fun k e => by rw [e]; exact hs)⟩, (HMW10.out.trans (hm.mono (fun k _ e => .inr (by rw [e]; exact Nat.le_refl _)))).mono (fun k hk e => e.elim id (fun h => absurd h (by omega)))⟩)
      · have CE9 := hid (rErr_is HR9.out (hid rfl))
        have t9 : ((S5.e : Int) == 0) = false := by simp; omega
        have t9' : ((S5.e : Int) != 0) = true := by simp; omega
        have HRV : Hid (rView S = (zeroV, S5)) := hid (by
          unfold rView
          rw [hP.out]
          rw [if_pos h5])
        obtain ⟨d0, d1, d2, d3, df0, df1, df2, df3⟩ := HX9.out
        clear h5
        go_wp2_with fail
        refine CE9.out.mono ?_
        rintro e w10 ⟨rfl, rfl⟩
        go_wp2_with fail
        refine CE9.out.mono ?_
        rintro e w11 ⟨rfl, rfl⟩
        go_wp2
        obtain ⟨p0, p1, p2, p3, -, -, -, -⟩ := HX9.out.put (.int .u64 0) (.slice none 0 0) (.slice none 0 0) (.slice none 0 0)
        exact bodyPost_ret (v := .agg #[.int .u64 0, .slice none 0 0, .slice none 0 0, .slice none 0 0]) (by simp [results, Try.results130, go_sem, p0, p1, p2, p3]) rfl (by
          rw [HRV.out]
          exact ⟨_, _, _, rfl, OwnP.nil _ _, OwnLL.nil _ _, OwnP.nil _ _, ⟨_, _, HR9.out.mutT (mutV _ w.heap.size _ _ _ _) (fun k e => by rw [e]; exact hs)⟩, (HMW.out.trans ((mutV _ w.heap.size _ _ _ _).mono (fun k _ e => .inr (by rw [e]; exact Nat.le_refl _)))).mono (fun k hk e => e.elim id (fun h => absurd h (by omega)))⟩)
end Go.Proofs.Ytbpfhclcjedkcaa

