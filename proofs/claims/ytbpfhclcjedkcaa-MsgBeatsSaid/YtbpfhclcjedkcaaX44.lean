/- Parts of the proof: X44. -/
import Derived.Test.YtbpfhclcjedkcaaSm25
namespace Go.Proofs.Ytbpfhclcjedkcaa
open Go.RowKit

/-! ### the reference's Get of a view -/
theorem BoxV.set1 {w : World} {b : Nat} {v0 v1 v2 v3 : Value} (h : BoxV w b v0 v1 v2 v3) (u : Value) : BoxV (w.setCell ⟨b, 1, none⟩ u) b v0 u v2 v3 :=
  ⟨by rw [off2t (by omega)]; exact h.c0, World.cell?_setCell_same _ _ _ h.c1, by rw [off2t (by omega)]; exact h.c2, by rw [off2t (by omega)]; exact h.c3, by simp [h.f0], by simp [h.f1], by simp [h.f2], by simp [h.f3]⟩
set_option maxRecDepth 100000 in
set_option maxHeartbeats 12800000 in
theorem viewGetR_any {s c : Nat} {a : Option Addr} {S : RS} {w : World} (hR : RdIs w s a c S) :
    Calls Try.prog 136 #[.pointer (some ⟨s, 0, none⟩)] w fun e w' => ∃ vm vl vd, e = .returned (.agg #[.int .u64 (rView S).1.id, vm, vl, vd]) ∧ OwnP w' w.heap.size vm (rView S).1.ms ∧ OwnLL w' w.heap.size vl (rView S).1.ls ∧ OwnP w' w.heap.size vd (rView S).1.ds ∧ (∃ a' c', RdIs w' s a' c' (rView S).2) ∧ Mut (fun k => k = s) w w' := by
  obtain ⟨⟨i0, S1⟩, h1⟩ : ∃ q, rNum 4611686018427387904 S = q := ⟨_, rfl⟩
  obtain ⟨⟨ms, S2⟩, h2⟩ : ∃ q, rPids 24 S1 = q := ⟨_, rfl⟩
  obtain ⟨⟨n, S3⟩, h3⟩ : ∃ q, rNum 24 S2 = q := ⟨_, rfl⟩
  obtain ⟨⟨ls, S4⟩, h4⟩ : ∃ q, rLeaves ms n S3 = q := ⟨_, rfl⟩
  obtain ⟨⟨ds, S5⟩, h5⟩ : ∃ q, rPlaces ms S4 = q := ⟨_, rfl⟩
  have hP : Hid (rParts S = (⟨(i0 : Nat), ms, ls, ds⟩, S5)) := hid (by unfold rParts; simp only [h1, h2, h3, h4, h5])
  have hml : ms.length ≤ 24 := by have := rPids_len (m := 24) (S := S1); rw [h2] at this; exact this
  have hn24 : n ≤ 24 := by have := rNum_le (most := 24) (S := S2); rw [h3] at this; exact this
  have hls : ls.length ≤ n ∧ ∀ l ∈ ls, l.length ≤ 24 := by have := rLeaves_len (ms := ms) (n := n) (S := S3); rw [h4] at this; exact this
  have hdl : ds.length ≤ 24 := by have := rPlaces_len (ms := ms) (S := S4); rw [h5] at this; exact this
  obtain ⟨nm, hnm⟩ : ∃ k, ms.length = k := ⟨_, rfl⟩
  have HNM := hid hnm
  have HML := hid hml
  have HLS := hid hls
  have HDL := hid hdl
  have hB1 : Below w.heap.size w (w.alloc (.cells #[.int .u64 0, .slice none 0 0, .slice none 0 0, .slice none 0 0] 33)) := (Below.refl _ _).alloc (Nat.le_refl _) _
  have x2 := BoxV.made w 33 (.int .u64 0) (.slice none 0 0) (.slice none 0 0) (.slice none 0 0)
  have hz1 : (w.alloc (.cells #[.int .u64 0, .slice none 0 0, .slice none 0 0, .slice none 0 0] 33)).heap.size = w.heap.size + 1 := by simp
  have hnm24 : nm ≤ 24 := by omega
  have hs := hR.lt
  have C1 := hid (rNumR_is (z := 4611686018427387904) rfl (hid h1) (hR.ext hB1))
  have H2 := hid h2
  have H3 := hid h3
  have H4 := hid h4
  have H5 := hid h5
  have X2 := hid x2
  have HZ1 := hid hz1
  have HB1 := hid hB1
  clear h1 h2 h3 h4 h5 hml hls hdl hnm x2 hz1 hB1
  go_enter Try.func136, Try.ntmps136
  go_wp2_with fail
  refine C1.out.mono ?_
  rintro e w2 ⟨rfl, ⟨a2, c2, hR2⟩, hM2⟩
  have hs2 : s < w2.heap.size := hR2.lt
  have hz2 : w.heap.size + 1 ≤ w2.heap.size := by have := hM2.size; rw [HZ1.out] at this; exact this
  have hq : Below w2.heap.size w2 (w2.alloc (.cells #[.int .u64 i0, .slice none 0 0, .slice none 0 0, .slice none 0 0] 33)) := (Below.refl _ _).alloc (Nat.le_refl _) _
  have x4 : BoxV (w2.alloc (.cells #[.int .u64 i0, .slice none 0 0, .slice none 0 0, .slice none 0 0] 33)) w2.heap.size (.int .u64 i0) (.slice none 0 0) (.slice none 0 0) (.slice none 0 0) := BoxV.made _ _ _ _ _ _
  have C2 := hid (rPidsR_any 24 (z := 24) rfl H2 (by decide) (hR2.ext hq))
  have hb3s : ¬ (fun k => k = s) w2.heap.size := fun e => by have e : w2.heap.size = s := e; omega
  have HX22 := hid ((X2.out.mutT hM2 (fun e => by have e : w.heap.size = s := e; omega)).ext hq)
  have HMW4 : Hid (Mut (fun k => k = s ∨ w.heap.size ≤ k) w (w2.alloc (.cells #[.int .u64 i0, .slice none 0 0, .slice none 0 0, .slice none 0 0] 33))) := hid (((Mut.of_below HB1.out).trans (hM2.mono (fun k _ e => .inl e))).trans (Mut.of_below hq))
  have hz4 : (w2.alloc (.cells #[.int .u64 i0, .slice none 0 0, .slice none 0 0, .slice none 0 0] 33)).heap.size = w2.heap.size + 1 := by simp
  have X4 := hid x4
  have HZ4 := hid hz4
  have HZ2 := hid hz2
  clear C1 hM2 hR2 hq x4 hz4 hz2
  go_wp2_with fail
  refine C2.out.mono ?_
  rintro e w3 ⟨⟨v3, rfl, hown3⟩, ⟨a3, c3, hR3⟩, hM3⟩
  obtain ⟨am, cm, rfl, hrm, -⟩ := hown3.row
  rw [HNM.out] at hown3 ⊢
  have x3 := X4.out.mutT hM3 hb3s
  have HX23 := hid (HX22.out.mutT hM3 (fun e => by have e : w.heap.size = s := e; omega))
  have HMW3 := hid (HMW4.out.trans (hM3.mono (G := fun k => k = s ∨ w.heap.size ≤ k) (fun k _ e => .inl e)))
  have XS := hid (x3.set1 (.slice am nm cm))
  have C3 := hid (rNumR_is (z := 24) rfl H3 (hR3.setB (j := 1) (x := .slice am nm cm) hs2))
  have HOWN3 := hid (hown3.mutT (mut1 (s := w2.heap.size) (i := 1) (v := .slice am nm cm)) (fun k e => by rw [e, HZ4.out]; exact Nat.lt_succ_self _))
  have hz3 : w2.heap.size + 1 ≤ w3.heap.size := by have := hM3.size; rw [HZ4.out] at this; exact this
  clear C2 hown3 hR3 hM3 hrm HX22 HMW4 X4
  obtain ⟨y0, y1, y2, y3, yf0, yf1, yf2, yf3⟩ := x3
  go_wp2_with fail
  refine C3.out.mono ?_
  rintro e w5 ⟨rfl, ⟨a5, c5, hR5⟩, hM5⟩
  have HX5 := hid (XS.out.mutT hM5 hb3s)
  have HX25 := hid ((HX23.out.mutT (mut1 (s := w2.heap.size) (i := 1) (v := .slice am nm cm)) (fun e => by have e : w.heap.size = w2.heap.size := e; have := HZ2.out; omega)).mutT hM5 (fun e => by have e : w.heap.size = s := e; omega))
  have HMW5 := hid ((HMW3.out.trans ((mut1 (s := w2.heap.size) (i := 1) (v := .slice am nm cm)).mono (G := fun k => k = s ∨ w.heap.size ≤ k) (fun k _ e => .inr (by rw [e]; have := HZ2.out; omega)))).trans (hM5.mono (G := fun k => k = s ∨ w.heap.size ≤ k) (fun k _ e => .inl e)))
  have HOWN5 := hid (HOWN3.out.mutT hM5 (fun k e => by rw [e, HZ4.out]; omega))
  have hsz5 : w2.heap.size + 1 ≤ w5.heap.size := by have := hM5.size; simp at this; omega
  have HR5 := hid hR5
  obtain ⟨g3, hg3⟩ : ∃ g, w2.heap.size = g := ⟨_, rfl⟩
  have hrm : PidRow w5 am ms := by
    obtain ⟨a', c', e', hr, -⟩ := HOWN5.out.row
    rw [HNM.out] at e'
    cases e'; exact hr
  have hms5 : Hid (∀ b off, am = some ⟨b, off, none⟩ → ms ≠ [] → b ≠ s ∧ b ≠ w2.heap.size ∧ b < w5.heap.size) := hid (by
    rintro b off rfl hne
    have h0 := HOWN5.out.blk (g := b) rfl
    rw [HZ4.out] at h0
    exact ⟨by omega, by omega, h0.2⟩)
  have HBM : Hid (∀ g, (Value.slice am nm cm).ownBlock = some g → g ≠ s ∧ g ≠ w2.heap.size ∧ g < w5.heap.size ∧ w2.heap.size < g) := hid (fun g hg => by
    have h0 := HOWN5.out.blk hg
    rw [HZ4.out] at h0
    exact ⟨by omega, by omega, h0.2, by omega⟩)
  have HRM := hid hrm
  rw [hg3] at HX5 hs2 hb3s hms5 HBM hsz5 ⊢
  have HG3 := hid hg3
  have HZ23 : Hid (w.heap.size + 1 ≤ g3) := hid (by have := HZ2.out; omega)
  clear C3 hM5 hR5 hrm y0 y1 y2 y3 yf0 yf1 yf2 yf3 HX23 HMW3 XS HOWN3 hg3 hz3
  go_wp2_with fail
  go_loopw [5] (fun i wr => ∃ (k : Nat) (got : List (List Pid)) (vl : Value) (T : RS), k ≤ n ∧ i = .int .u64 k ∧ got.length = k ∧ (∃ a' c', RdIs wr s a' c' T) ∧ BoxV wr g3 (.int .u64 i0) (.slice am nm cm) vl (.slice none 0 0) ∧ OwnLL wr w5.heap.size vl got ∧ Hid (ls = got ++ (rLeaves ms (n - k) T).1 ∧ S4 = (rLeaves ms (n - k) T).2) ∧ Mut (fun k => k = s ∨ k = g3 ∨ w5.heap.size ≤ k) w5 wr) (fun i _ => n - (intOf i).toNat)
  case atStart =>
    exact ⟨0, [], _, S3, Nat.zero_le _, rfl, rfl, ⟨a5, c5, HR5.out⟩, HX5.out, OwnLL.nil _ _, hid (by rw [Nat.sub_zero, H4.out]; simp), Mut.refl _ _⟩
  case round =>
    obtain ⟨k, got, vl, T, hk, rfl, hgl, ⟨a6, c6, hRT⟩, hbx, hown, hM, hmut⟩ := hrel
    have HRT := hid hRT
    have HBX := hid hbx
    have HOWN := hid hown
    have HMU := hid hmut
    have HGL := hid hgl
    have r1 := hRT.c1
    have hszr : w5.heap.size ≤ wr.heap.size := hmut.size
    have hmsr : Hid (∀ W, Mut (fun k => k = s ∨ k = g3 ∨ w5.heap.size ≤ k) w5 W → PidRow W am ms) := hid (fun W h => HRM.out.mutT h (fun b off h1 h2 => by
      have := hms5.out b off h1 h2
      rintro (e | e | e)
      · exact this.1 e
      · exact this.2.1 e
      · omega))
    by_cases hlt : k < n
    · have t1 : decide ((k : Int) < (n : Int)) = true := by simpa using hlt
      have t1' : decide (k < n) = true := by simpa using hlt
      by_cases he : T.e = 0
      · rw [he] at r1
        obtain ⟨⟨l, T2⟩, hl⟩ : ∃ q, rPlaces ms T = q := ⟨_, rfl⟩
        have hM2 : Hid (ls = (got ++ [l]) ++ (rLeaves ms (n - (k + 1)) T2).1 ∧ S4 = (rLeaves ms (n - (k + 1)) T2).2) := hid (by
          have := hM.out
          rw [show n - k = (n - (k + 1)) + 1 by omega, rLeaves_step he hl] at this
          exact ⟨by rw [this.1]; simp, this.2⟩)
        obtain ⟨G2, hG2⟩ : ∃ G2, got ++ [l] = G2 := ⟨_, rfl⟩
        have HG2L : Hid (G2.length = k + 1) := hid (by rw [← hG2, List.length_append, hgl]; rfl)
        rw [hG2] at hM2
        have HG2 := hid hG2
        have hbd := hbx.ext (Below.refl wr.heap.size wr).drew
        have hod := hown.ext (Below.refl wr.heap.size wr).drew
        have hmd : Mut (fun k => k = s ∨ k = g3 ∨ w5.heap.size ≤ k) w5 wr.drew := hmut.drew
        have CP := hid (placesR_is (cm := cm) (hid hl) (hRT.ext (Below.refl wr.heap.size wr).drew) HNM (by omega) (hmsr.out _ hmd) (fun b off h1 h2 => (hms5.out b off h1 h2).1))
        have HLT := hid hlt
        obtain ⟨y0, y1, y2, y3, -, -, fz2, -⟩ := id hbd
        have hblk : ∀ g, vl.ownBlock = some g → g < wr.heap.size := fun g hg => (hown.blk hg).2
        have HBD := hid hbd
        have HOD := hid hod
        have HMD := hid hmd
        have HBLK := hid hblk
        clear hRT hown hmut hgl he hM hl hG2 hbx hlt hbd hod hmd hblk
        go_wp2_with fail

        refine wp_region_held_drew (S := fun W => W.cell? ⟨g3, 1, none⟩ = some (.slice am nm cm)) (by kernel_rfl) (HBD.out.c1) (fun hHeld => ?_)
        refine wpAnyH_take (i := 0) (oi := _) (v := .pointer (some ⟨g3, 2, none⟩)) rfl (by kernel_rfl) (by kernel_rfl) (by kernel_rfl) (fun _ _ _ h => h) (Or.inl ⟨by rfl, ?_⟩) (by assumption) ?_
        · intro W hSw
          try dsimp only at hSw
          go_simp
        try simp only [Act.put, List.getElem_toArray, List.getElem_cons_zero, List.setIfInBounds_toArray, List.set_cons_zero, List.set_cons_succ]
        refine wpAnyH_take (i := 2) (oi := _) (v := .pointer (some ⟨s, 0, none⟩)) rfl (by kernel_rfl) (by kernel_rfl) (by kernel_rfl) (fun _ _ _ h => h) (Or.inl ⟨by rfl, ?_⟩) (by assumption) ?_
        · intro W hSw
          try dsimp only at hSw
          go_simp
        try simp only [Act.put, List.getElem_toArray, List.getElem_cons_succ, List.getElem_cons_zero, List.setIfInBounds_toArray, List.set_cons_zero, List.set_cons_succ]
        refine wpAnyH_take (i := 3) (oi := _) (v := .pointer (some ⟨g3, 1, none⟩)) rfl (by kernel_rfl) (by kernel_rfl) (by kernel_rfl) (fun _ _ _ h => h) (Or.inl ⟨by rfl, ?_⟩) (by assumption) ?_
        · intro W hSw
          try dsimp only at hSw
          go_simp
        try simp only [Act.put, List.getElem_toArray, List.getElem_cons_succ, List.getElem_cons_zero, List.setIfInBounds_toArray, List.set_cons_zero, List.set_cons_succ]
        refine wpAnyH_take (i := 4) (oi := _) (v := .slice am nm cm) rfl (by kernel_rfl) (by kernel_rfl) (by kernel_rfl) (fun _ _ _ h => h) (Or.inl ⟨by rfl, ?_⟩) (by assumption) ?_
        · intro W hSw
          try dsimp only at hSw
          go_simp
        try simp only [Act.put, List.getElem_toArray, List.getElem_cons_succ, List.getElem_cons_zero, List.setIfInBounds_toArray, List.set_cons_zero, List.set_cons_succ]
        refine wpAnyH_ready (rs := [1, 5]) (by kernel_rfl) (by simp) ?_
        refine AllReadyH.cons (o := _) rfl (fun K hK => ?_) (AllReadyH.cons (o := _) rfl (fun K hK => ?_) AllReadyH.nil)
        · go_simp
          refine hK.out _ _ (HBD.out.c1) (fun hHeld => ?_)
          clear hK K
          try simp only [Act.put, List.getElem_toArray, List.getElem_cons_succ, List.getElem_cons_zero, List.setIfInBounds_toArray, List.set_cons_zero, List.set_cons_succ]
          refine wpAnyH_ready (rs := [5]) (by kernel_rfl) (by simp) ?_
          refine AllReadyH.cons (o := _) rfl (fun K hK => ?_) AllReadyH.nil
          go_simp
          refine CP.out.mono ?_
          rintro e w11 ⟨⟨v11, rfl, hv11⟩, ⟨a11, c11, hR11⟩, hM11⟩
          obtain ⟨q11, k11, e11, -, -⟩ := hv11.row
          subst e11
          have hq : Below w11.heap.size w11 (w11.alloc (.cells #[.slice q11 l.length k11] 30)) := (Below.refl _ _).alloc (Nat.le_refl _) _
          have hb11 := HBD.out.mutT hM11 hb3s
          have z11 := hb11.c2
          have hb11b := hb11.ext hq
          have z11b := hb11b.c2
          have ho11 := (HOD.out.mutT hM11 (fun k e => by rw [e]; omega)).ext hq
          have hv11b := (hv11.ext hq).mono2 (b' := w5.heap.size) (by simp; omega)
          have hR11b := hR11.ext hq
          have hm11 : Mut (fun k => k = s ∨ k = g3 ∨ w5.heap.size ≤ k) w5 w11 := HMD.out.trans (hM11.mono (fun k _ e => .inl e))
          have hm11b := hm11.trans (Mut.of_below hq)
          have hne11 : ∀ g, (Value.slice q11 l.length k11).ownBlock = some g → vl.ownBlock ≠ some g := fun g h1 h2 => by
            have h3 := (hv11.blk h1).1
            have h4 := HBLK.out g h2
            simp at h3; omega
          have h011 : (w11.alloc (.cells #[.slice q11 l.length k11] 30)).cell? ⟨w11.heap.size, 0, none⟩ = some (.slice q11 l.length k11) := by simp
          have hsz11 : wr.heap.size ≤ w11.heap.size := hM11.size
          have HV11 := hid hv11b
          have HNE11 := hid hne11
          have HO11 := hid ho11
          have HR11 := hid hR11b
          have HM11 := hid hm11b
          have H011 := hid h011
          have HB11 := hid hb11
          have HB11B := hid hb11b
          clear hv11 hv11b hne11 ho11 hR11 hR11b hm11 hm11b h011 hM11 hq hb11 hb11b
          refine hK.out _ _ (HB11.out.c1) (fun hHeld => ?_)
          clear hK K
          try simp only [Act.put, List.getElem_toArray, List.getElem_cons_succ, List.getElem_cons_zero, List.setIfInBounds_toArray, List.set_cons_zero, List.set_cons_succ]
          refine wpAnyH_ready (rs := [6]) (by kernel_rfl) (by simp) ?_
          refine AllReadyH.cons (o := _) rfl (fun K hK => ?_) AllReadyH.nil
          go_simp
          refine hK.out _ _ (HB11B.out.c1) (fun hHeld => ?_)
          clear hK K
          try simp only [Act.put, List.getElem_toArray, List.getElem_cons_succ, List.getElem_cons_zero, List.setIfInBounds_toArray, List.set_cons_zero, List.set_cons_succ]
          refine wpAnyH_ready (rs := [7]) (by kernel_rfl) (by simp) ?_
          refine AllReadyH.cons (o := _) rfl (fun K hK => ?_) AllReadyH.nil
          refine step_appendLL (by rfl) HO11.out H011.out HV11.out HNE11.out (by have := HGL.out; omega) (by simp; omega) rfl rfl rfl ?_
          intro v12 w12 hown12 hg12
          rw [HG2.out] at hown12
          obtain ⟨a12, k12, he12, -⟩ := hown12.row
          subst he12
          have hgm := grownLL_mut hg12 HO11.out
          have hb12 := HB11B.out.mutT hgm (fun e => by have e : w5.heap.size ≤ g3 := e; omega)
          have z12 := hb12.c2
          have f12 := hb12.f2
          have hR12 := HR11.out.mutT hgm (fun k e => by have e : w5.heap.size ≤ k := e; omega)
          have hm12 : Mut (fun k => k = s ∨ k = g3 ∨ w5.heap.size ≤ k) w5 w12 := HM11.out.trans (hgm.mono (fun k _ e => .inr (.inr e)))
          have hb13 := hb12.set2 (.slice a12 G2.length k12)
          have hR13 := hR12.mutT (G := fun k => k = g3) (mut1 (s := g3) (i := 2) (v := .slice a12 G2.length k12)) (fun k e => by rw [e]; exact hs2)
          have hm13 := hm12.trans ((mut1 (s := g3) (i := 2) (v := .slice a12 G2.length k12)).mono (fun k _ e => .inr (.inl e)))
          have ho13 := hown12.mutT (mut1 (s := g3) (i := 2) (v := .slice a12 G2.length k12)) (fun k e => by rw [e]; omega)
          have HB12 := hid hb12
          have HB13 := hid hb13
          have HR13 := hid hR13
          have HM13 := hid hm13
          have HO13 := hid ho13
          clear hown12 hg12 hgm hR12 hm12 hb13 hR13 hm13 ho13 hb12
          refine hK.out _ _ (HB12.out.c1) (fun hHeld => ?_)
          clear hK K
          try simp only [Act.put, List.getElem_toArray, List.getElem_cons_succ, List.getElem_cons_zero, List.setIfInBounds_toArray, List.set_cons_zero, List.set_cons_succ]
          refine wpAnyH_ready (rs := [8]) (by kernel_rfl) (by simp) ?_
          refine AllReadyH.cons (o := _) rfl (fun K hK => ?_) AllReadyH.nil
          go_simp
          refine hK.out _ _ (HB12.out.c1) (fun hHeld => ?_)
          clear hK K
          try simp only [Act.put, List.getElem_toArray, List.getElem_cons_succ, List.getElem_cons_zero, List.setIfInBounds_toArray, List.set_cons_zero, List.set_cons_succ]
          refine wpAnyH_ready (rs := [9]) (by kernel_rfl) (by simp) ?_
          refine AllReadyH.cons (o := _) rfl (fun K hK => ?_) AllReadyH.nil
          go_simp
          refine hK.out _ _ (HB13.out.c1) (fun hHeld => ?_)
          clear hK K
          try simp only [Act.put, List.getElem_toArray, List.getElem_cons_succ, List.getElem_cons_zero, List.setIfInBounds_toArray, List.set_cons_zero, List.set_cons_succ]
          refine wpAnyH_done (by kernel_rfl) ?_ _
          go_wp2
          go_roundw
          case rel => exact ⟨k + 1, G2, _, T2, by have := HLT.out; omega, by go_num, HG2L.out, ⟨a11, c11, HR13.out⟩, HB13.out, HO13.out, hM2, HM13.out⟩
          case measure => have := HLT.out; simp [intOf]; omega
        · go_simp
          refine CP.out.mono ?_
          rintro e w11 ⟨⟨v11, rfl, hv11⟩, ⟨a11, c11, hR11⟩, hM11⟩
          obtain ⟨q11, k11, e11, -, -⟩ := hv11.row
          subst e11
          have hq : Below w11.heap.size w11 (w11.alloc (.cells #[.slice q11 l.length k11] 30)) := (Below.refl _ _).alloc (Nat.le_refl _) _
          have hb11 := HBD.out.mutT hM11 hb3s
          have z11 := hb11.c2
          have hb11b := hb11.ext hq
          have z11b := hb11b.c2
          have ho11 := (HOD.out.mutT hM11 (fun k e => by rw [e]; omega)).ext hq
          have hv11b := (hv11.ext hq).mono2 (b' := w5.heap.size) (by simp; omega)
          have hR11b := hR11.ext hq
          have hm11 : Mut (fun k => k = s ∨ k = g3 ∨ w5.heap.size ≤ k) w5 w11 := HMD.out.trans (hM11.mono (fun k _ e => .inl e))
          have hm11b := hm11.trans (Mut.of_below hq)
          have hne11 : ∀ g, (Value.slice q11 l.length k11).ownBlock = some g → vl.ownBlock ≠ some g := fun g h1 h2 => by
            have h3 := (hv11.blk h1).1
            have h4 := HBLK.out g h2
            simp at h3; omega
          have h011 : (w11.alloc (.cells #[.slice q11 l.length k11] 30)).cell? ⟨w11.heap.size, 0, none⟩ = some (.slice q11 l.length k11) := by simp
          have hsz11 : wr.heap.size ≤ w11.heap.size := hM11.size
          have HV11 := hid hv11b
          have HNE11 := hid hne11
          have HO11 := hid ho11
          have HR11 := hid hR11b
          have HM11 := hid hm11b
          have H011 := hid h011
          have HB11 := hid hb11
          have HB11B := hid hb11b
          clear hv11 hv11b hne11 ho11 hR11 hR11b hm11 hm11b h011 hM11 hq hb11 hb11b
          refine hK.out _ _ (HB11.out.c1) (fun hHeld => ?_)
          clear hK K
          try simp only [Act.put, List.getElem_toArray, List.getElem_cons_succ, List.getElem_cons_zero, List.setIfInBounds_toArray, List.set_cons_zero, List.set_cons_succ]
          refine wpAnyH_ready (rs := [1, 6]) (by kernel_rfl) (by simp) ?_
          refine AllReadyH.cons (o := _) rfl (fun K hK => ?_) (AllReadyH.cons (o := _) rfl (fun K hK => ?_) AllReadyH.nil)
          · go_simp
            refine hK.out _ _ (HB11.out.c1) (fun hHeld => ?_)
            clear hK K
            try simp only [Act.put, List.getElem_toArray, List.getElem_cons_succ, List.getElem_cons_zero, List.setIfInBounds_toArray, List.set_cons_zero, List.set_cons_succ]
            refine wpAnyH_ready (rs := [6]) (by kernel_rfl) (by simp) ?_
            refine AllReadyH.cons (o := _) rfl (fun K hK => ?_) AllReadyH.nil
            go_simp
            refine hK.out _ _ (HB11B.out.c1) (fun hHeld => ?_)
            clear hK K
            try simp only [Act.put, List.getElem_toArray, List.getElem_cons_succ, List.getElem_cons_zero, List.setIfInBounds_toArray, List.set_cons_zero, List.set_cons_succ]
            refine wpAnyH_ready (rs := [7]) (by kernel_rfl) (by simp) ?_
            refine AllReadyH.cons (o := _) rfl (fun K hK => ?_) AllReadyH.nil
            refine step_appendLL (by rfl) HO11.out H011.out HV11.out HNE11.out (by have := HGL.out; omega) (by simp; omega) rfl rfl rfl ?_
            intro v12 w12 hown12 hg12
            rw [HG2.out] at hown12
            obtain ⟨a12, k12, he12, -⟩ := hown12.row
            subst he12
            have hgm := grownLL_mut hg12 HO11.out
            have hb12 := HB11B.out.mutT hgm (fun e => by have e : w5.heap.size ≤ g3 := e; omega)
            have z12 := hb12.c2
            have f12 := hb12.f2
            have hR12 := HR11.out.mutT hgm (fun k e => by have e : w5.heap.size ≤ k := e; omega)
            have hm12 : Mut (fun k => k = s ∨ k = g3 ∨ w5.heap.size ≤ k) w5 w12 := HM11.out.trans (hgm.mono (fun k _ e => .inr (.inr e)))
            have hb13 := hb12.set2 (.slice a12 G2.length k12)
            have hR13 := hR12.mutT (G := fun k => k = g3) (mut1 (s := g3) (i := 2) (v := .slice a12 G2.length k12)) (fun k e => by rw [e]; exact hs2)
            have hm13 := hm12.trans ((mut1 (s := g3) (i := 2) (v := .slice a12 G2.length k12)).mono (fun k _ e => .inr (.inl e)))
            have ho13 := hown12.mutT (mut1 (s := g3) (i := 2) (v := .slice a12 G2.length k12)) (fun k e => by rw [e]; omega)
            have HB12 := hid hb12
            have HB13 := hid hb13
            have HR13 := hid hR13
            have HM13 := hid hm13
            have HO13 := hid ho13
            clear hown12 hg12 hgm hR12 hm12 hb13 hR13 hm13 ho13 hb12
            refine hK.out _ _ (HB12.out.c1) (fun hHeld => ?_)
            clear hK K
            try simp only [Act.put, List.getElem_toArray, List.getElem_cons_succ, List.getElem_cons_zero, List.setIfInBounds_toArray, List.set_cons_zero, List.set_cons_succ]
            refine wpAnyH_ready (rs := [8]) (by kernel_rfl) (by simp) ?_
            refine AllReadyH.cons (o := _) rfl (fun K hK => ?_) AllReadyH.nil
            go_simp
            refine hK.out _ _ (HB12.out.c1) (fun hHeld => ?_)
            clear hK K
            try simp only [Act.put, List.getElem_toArray, List.getElem_cons_succ, List.getElem_cons_zero, List.setIfInBounds_toArray, List.set_cons_zero, List.set_cons_succ]
            refine wpAnyH_ready (rs := [9]) (by kernel_rfl) (by simp) ?_
            refine AllReadyH.cons (o := _) rfl (fun K hK => ?_) AllReadyH.nil
            go_simp
            refine hK.out _ _ (HB13.out.c1) (fun hHeld => ?_)
            clear hK K
            try simp only [Act.put, List.getElem_toArray, List.getElem_cons_succ, List.getElem_cons_zero, List.setIfInBounds_toArray, List.set_cons_zero, List.set_cons_succ]
            refine wpAnyH_done (by kernel_rfl) ?_ _
            go_wp2
            go_roundw
            case rel => exact ⟨k + 1, G2, _, T2, by have := HLT.out; omega, by go_num, HG2L.out, ⟨a11, c11, HR13.out⟩, HB13.out, HO13.out, hM2, HM13.out⟩
            case measure => have := HLT.out; simp [intOf]; omega
          · go_simp
            refine hK.out _ _ (HB11B.out.c1) (fun hHeld => ?_)
            clear hK K
            try simp only [Act.put, List.getElem_toArray, List.getElem_cons_succ, List.getElem_cons_zero, List.setIfInBounds_toArray, List.set_cons_zero, List.set_cons_succ]
            refine wpAnyH_ready (rs := [1]) (by kernel_rfl) (by simp) ?_
            refine AllReadyH.cons (o := _) rfl (fun K hK => ?_) AllReadyH.nil
            go_simp
            refine hK.out _ _ (HB11B.out.c1) (fun hHeld => ?_)
            clear hK K
            try simp only [Act.put, List.getElem_toArray, List.getElem_cons_succ, List.getElem_cons_zero, List.setIfInBounds_toArray, List.set_cons_zero, List.set_cons_succ]
            refine wpAnyH_ready (rs := [7]) (by kernel_rfl) (by simp) ?_
            refine AllReadyH.cons (o := _) rfl (fun K hK => ?_) AllReadyH.nil
            refine step_appendLL (by rfl) HO11.out H011.out HV11.out HNE11.out (by have := HGL.out; omega) (by simp; omega) rfl rfl rfl ?_
            intro v12 w12 hown12 hg12
            rw [HG2.out] at hown12
            obtain ⟨a12, k12, he12, -⟩ := hown12.row
            subst he12
            have hgm := grownLL_mut hg12 HO11.out
            have hb12 := HB11B.out.mutT hgm (fun e => by have e : w5.heap.size ≤ g3 := e; omega)
            have z12 := hb12.c2
            have f12 := hb12.f2
            have hR12 := HR11.out.mutT hgm (fun k e => by have e : w5.heap.size ≤ k := e; omega)
            have hm12 : Mut (fun k => k = s ∨ k = g3 ∨ w5.heap.size ≤ k) w5 w12 := HM11.out.trans (hgm.mono (fun k _ e => .inr (.inr e)))
            have hb13 := hb12.set2 (.slice a12 G2.length k12)
            have hR13 := hR12.mutT (G := fun k => k = g3) (mut1 (s := g3) (i := 2) (v := .slice a12 G2.length k12)) (fun k e => by rw [e]; exact hs2)
            have hm13 := hm12.trans ((mut1 (s := g3) (i := 2) (v := .slice a12 G2.length k12)).mono (fun k _ e => .inr (.inl e)))
            have ho13 := hown12.mutT (mut1 (s := g3) (i := 2) (v := .slice a12 G2.length k12)) (fun k e => by rw [e]; omega)
            have HB12 := hid hb12
            have HB13 := hid hb13
            have HR13 := hid hR13
            have HM13 := hid hm13
            have HO13 := hid ho13
            clear hown12 hg12 hgm hR12 hm12 hb13 hR13 hm13 ho13 hb12
            refine hK.out _ _ (HB12.out.c1) (fun hHeld => ?_)
            clear hK K
            try simp only [Act.put, List.getElem_toArray, List.getElem_cons_succ, List.getElem_cons_zero, List.setIfInBounds_toArray, List.set_cons_zero, List.set_cons_succ]
            refine wpAnyH_ready (rs := [8]) (by kernel_rfl) (by simp) ?_
            refine AllReadyH.cons (o := _) rfl (fun K hK => ?_) AllReadyH.nil
            go_simp
            refine hK.out _ _ (HB12.out.c1) (fun hHeld => ?_)
            clear hK K
            try simp only [Act.put, List.getElem_toArray, List.getElem_cons_succ, List.getElem_cons_zero, List.setIfInBounds_toArray, List.set_cons_zero, List.set_cons_succ]
            refine wpAnyH_ready (rs := [9]) (by kernel_rfl) (by simp) ?_
            refine AllReadyH.cons (o := _) rfl (fun K hK => ?_) AllReadyH.nil
            go_simp
            refine hK.out _ _ (HB13.out.c1) (fun hHeld => ?_)
            clear hK K
            try simp only [Act.put, List.getElem_toArray, List.getElem_cons_succ, List.getElem_cons_zero, List.setIfInBounds_toArray, List.set_cons_zero, List.set_cons_succ]
            refine wpAnyH_done (by kernel_rfl) ?_ _
            go_wp2
            go_roundw
            case rel => exact ⟨k + 1, G2, _, T2, by have := HLT.out; omega, by go_num, HG2L.out, ⟨a11, c11, HR13.out⟩, HB13.out, HO13.out, hM2, HM13.out⟩
            case measure => have := HLT.out; simp [intOf]; omega
      · have t2 : ((T.e : Int) == 0) = false := by simp; omega
        have HEND : Hid (ls = got ∧ S4 = T) := hid (by
          have := hM.out
          rw [rLeaves_stop he] at this
          simpa using this)
        clear hRT hown hmut hgl hbx he hlt hM
        obtain ⟨y0, y1, y2, y3, -, -, -, -⟩ := HBX.out
        have C6 := hid (placesR_is (cm := cm) (hid ((HEND.out.2 ▸ H5.out : rPlaces ms T = (ds, S5)))) HRT.out HNM (by omega) (hmsr.out _ HMU.out) (fun b off h1 h2 => (hms5.out b off h1 h2).1))
        go_wp2_with fail
        clear r1
        refine C6.out.mono ?_
        rintro e w8 ⟨⟨v8, rfl, hv8⟩, ⟨a8, c8, hR8⟩, hM8⟩
        obtain ⟨q8, k8, e8, -, -⟩ := hv8.row
        subst e8
        have hb8 := HBX.out.mutT hM8 hb3s
        obtain ⟨z0, z1, z2, z3, -, -, -, fz3⟩ := id hb8
        have HB9 := hid (hb8.set3 (.slice q8 ds.length k8))
        have hR9 := hR8.mutT (G := fun k => k = g3) (mut1 (s := g3) (i := 3) (v := .slice q8 ds.length k8)) (fun k e => by rw [e]; exact hs2)
        have ho8 := HOWN.out.mutT hM8 (fun k e => by rw [e]; omega)
        rw [← HEND.out.1] at ho8
        have ho9 := ho8.mutT (mut1 (s := g3) (i := 3) (v := .slice q8 ds.length k8)) (fun k e => by rw [e]; omega)
        have hv9 := (hv8.mono2 (b' := w5.heap.size) (by omega)).mutT (mut1 (s := g3) (i := 3) (v := .slice q8 ds.length k8)) (fun k e => by rw [e]; omega)
        have hm9 := (HMU.out.trans (hM8.mono (G := fun k => k = s ∨ k = g3 ∨ w5.heap.size ≤ k) (fun k _ e => .inl e))).trans ((mut1 (s := g3) (i := 3) (v := .slice q8 ds.length k8)).mono (fun k _ e => .inr (.inl e)))
        obtain ⟨ql, kl, el, hlr⟩ := ho9.row
        subst el
        obtain ⟨q8', k8', e8', hdr, -⟩ := hv9.row
        cases e8'
        have hprow := hmsr.out _ hm9
        have hz23 := HZ23.out
        have HMW := hid (HMW5.out.trans (hm9.mono (G := fun k => k = s ∨ w.heap.size ≤ k) (fun k _ e => e.elim .inl (fun h => .inr (by rcases h with h | h <;> omega)))))
        have hx9 : BoxV (w8.setCell ⟨g3, 3, none⟩ (.slice q8 ds.length k8)) w.heap.size (.int .u64 0) (.slice none 0 0) (.slice none 0 0) (.slice none 0 0) := HX25.out.mutT hm9 (fun e => by rcases e with e | e | e <;> omega)
        have hown9 := HOWN5.out.mutN hm9 (fun g hg e => by
          have h1 := HBM.out g hg
          rcases e with e | e | e <;> omega)
        have HX9 := hid hx9
        have HOWN9 := hid hown9
        have HR9 := hid hR9
        have HO9 := hid ho9
        have HV9 := hid hv9
        have HPROW := hid hprow
        have HLR := hid hlr
        have HDR := hid hdr
        clear C6 hv8 hR8 hM8 hb8 hR9 ho8 ho9 hv9 hm9 hlr hdr hprow hx9 hown9
        obtain ⟨w9, hw9⟩ : ∃ w9, w8.setCell ⟨g3, 3, none⟩ (.slice q8 ds.length k8) = w9 := ⟨_, rfl⟩
        rw [hw9] at HB9 HX9 HOWN9 HR9 HO9 HV9 HPROW HLR HDR HMW
        have r1 := HR9.out.c1
        by_cases h5 : S5.e = 0
        · rw [h5] at r1
          have hsum : lens ls ≤ 549755813888 := by
            have := lens_le HLS.out.2
            have h2 := HLS.out.1
            have : lens ls ≤ 24 * 24 := Nat.le_trans this (Nat.mul_le_mul_right _ (by omega))
            omega
          have hV9 : ViewR w9 am ql q8 ⟨(i0 : Nat), ms, ls, ds⟩ := ⟨HPROW.out, HLR.out, HDR.out, by have := HML.out; simp only; omega, by have := HLS.out.1; simp only; omega, by have := HDL.out; simp only; omega, fun l hl => by have := HLS.out.2 l hl; omega⟩
          have H50 := hid h5
          obtain ⟨b0, b1, b2, b3, -, -, -, -⟩ := HB9.out
          cases hcb : refCheckB ⟨(i0 : Nat), ms, ls, ds⟩
          · have CK := refCheck_is (cm := cm) (cl := kl) (cd := k8) (hid hcb) hV9 hsum
            simp only at CK
            rw [HNM.out] at CK
            have HCK := hid CK
            have HRV : Hid (rView S = (zeroV, ⟨S5.b, 5⟩)) := hid (by
              unfold rView
              rw [hP.out]
              rw [if_neg (by simp [h5]), if_pos hcb])
            clear hcb h5 hV9 hsum CK
            go_wp2_with fail
            refine HCK.out.mono ?_
            rintro e w10 ⟨rfl, hb10⟩
            have hR10 := HR9.out.ext hb10
            have HR11 : Hid (RdIs (w10.setCell ⟨s, 1, none⟩ (.int .i64 5)) s _ _ ⟨S5.b, 5⟩) := hid (hR10.bad 5)
            have hx10 := HX9.out.ext hb10
            have HX11 := hid (hx10.mutT (mut1 (s := s) (i := 1) (v := .int .i64 5)) (fun e => by have e : w.heap.size = s := e; omega))
            have HMW11 := hid ((HMW.out.trans (Mut.of_below hb10)).trans ((mut1 (s := s) (i := 1) (v := .int .i64 5)).mono (fun k _ e => .inl e)))
            have q0 := hR10.c0
            have q1 := hR10.c1
            rw [H50.out] at q1
            have qf := hR10.f1
            have q51 : (w10.setCell ⟨s, 1, none⟩ (.int .i64 5)).cell? ⟨s, 1, none⟩ = some (.int .i64 5) := HR11.out.c1
            obtain ⟨d0, d1, d2, d3, df0, df1, df2, df3⟩ : BoxV (w10.setCell ⟨s, 1, none⟩ (.int .i64 5)) w.heap.size (.int .u64 0) (.slice none 0 0) (.slice none 0 0) (.slice none 0 0) := HX11.out
            clear HCK hb10 b0 b1 b2 b3 hw9 hR10 hx10 r1
            go_wp2
            obtain ⟨p0, p1, p2, p3, -, -, -, -⟩ := HX11.out.put (.int .u64 0) (.slice none 0 0) (.slice none 0 0) (.slice none 0 0)
            exact bodyPost_ret (v := .agg #[.int .u64 0, .slice none 0 0, .slice none 0 0, .slice none 0 0]) (by simp [results, Try.results136, go_sem, p0, p1, p2, p3]) rfl (by
              rw [HRV.out]
              exact ⟨_, _, _, rfl, OwnP.nil _ _, OwnLL.nil _ _, OwnP.nil _ _, ⟨_, _, HR11.out.mutT (mutV _ w.heap.size _ _ _ _) (fun k e => by rw [e]; exact hs)⟩, (HMW11.out.trans ((mutV _ w.heap.size _ _ _ _).mono (fun k _ e => .inr (by rw [e]; exact Nat.le_refl _)))).mono (fun k hk e => e.elim id (fun h => absurd h (by omega)))⟩)
          · have CK := refCheck_is (cm := cm) (cl := kl) (cd := k8) (hid hcb) hV9 hsum
            simp only at CK
            rw [HNM.out] at CK
            have HCK := hid CK
            have HRV : Hid (rView S = (⟨(i0 : Nat), ms, ls, ds⟩, S5)) := hid (by
              unfold rView
              rw [hP.out]
              rw [if_neg (by simp [h5]), if_neg (by rw [hcb]; simp)])
            clear hcb h5 hV9 hsum CK
            go_wp2_with fail
            refine HCK.out.mono ?_
            rintro e w10 ⟨rfl, hb10⟩
            have HX10 := hid (HX9.out.ext hb10)
            have HMW10 := hid (HMW.out.trans (Mut.of_below hb10))
            have HB10 := hid (HB9.out.ext hb10)
            have HR10 := hid (HR9.out.ext hb10)
            have HO10 := hid (HO9.out.ext hb10)
            have HV10 := hid (HV9.out.ext hb10)
            have HOWN10 := hid (HOWN9.out.ext hb10)
            have q1 := HR10.out.c1
            rw [H50.out] at q1
            clear HCK hb10 b0 b1 b2 b3 hw9 r1
            obtain ⟨b0, b1, b2, b3, -, -, -, -⟩ := HB10.out
            obtain ⟨d0, d1, d2, d3, df0, df1, df2, df3⟩ := HX10.out
            go_wp2
            obtain ⟨p0, p1, p2, p3, -, -, -, -⟩ := HX10.out.put (.int .u64 i0) (.slice am nm cm) (.slice ql ls.length kl) (.slice q8 ds.length k8)
            exact bodyPost_ret (v := .agg #[.int .u64 i0, .slice am nm cm, .slice ql ls.length kl, .slice q8 ds.length k8]) (by simp [results, Try.results136, go_sem, p0, p1, p2, p3]) rfl (by
              rw [HRV.out]
              have hm := mutV w10 w.heap.size (.int .u64 i0) (.slice am nm cm) (.slice ql ls.length kl) (.slice q8 ds.length k8)
              have hg5 : w.heap.size < w5.heap.size := by omega
              refine ⟨_, _, _, rfl, ?_, (HO10.out.mutT hm (fun k e => by rw [e]; omega)).mono (by omega), (HV10.out.mutT hm (fun k e => by rw [e]; omega)).mono2 (by omega), ⟨_, _, HR10.out.mutT hm (fun k e => by rw [e]; exact hs)⟩, (HMW10.out.trans (hm.mono (fun k _ e => .inr (by rw [e]; exact Nat.le_refl _)))).mono (fun k hk e => e.elim id (fun h => absurd h (by omega)))⟩
              refine OwnP.mono2 (HOWN10.out.mutN hm (fun g hg e => ?_)) ?_
              · have h1 := HBM.out g hg
                have e : g = w.heap.size := e
                omega
              · rw [HZ4.out]; have := HG3.out; omega)
        · have t9 : ((S5.e : Int) == 0) = false := by simp; omega
          have t9' : ((S5.e : Int) != 0) = true := by simp; omega
          have HRV : Hid (rView S = (zeroV, S5)) := hid (by
            unfold rView
            rw [hP.out]
            rw [if_pos h5])
          obtain ⟨d0, d1, d2, d3, df0, df1, df2, df3⟩ := HX9.out
          clear h5
          go_wp2
          obtain ⟨p0, p1, p2, p3, -, -, -, -⟩ := HX9.out.put (.int .u64 0) (.slice none 0 0) (.slice none 0 0) (.slice none 0 0)
          exact bodyPost_ret (v := .agg #[.int .u64 0, .slice none 0 0, .slice none 0 0, .slice none 0 0]) (by simp [results, Try.results136, go_sem, p0, p1, p2, p3]) rfl (by
            rw [HRV.out]
            exact ⟨_, _, _, rfl, OwnP.nil _ _, OwnLL.nil _ _, OwnP.nil _ _, ⟨_, _, HR9.out.mutT (mutV _ w.heap.size _ _ _ _) (fun k e => by rw [e]; exact hs)⟩, (HMW.out.trans ((mutV _ w.heap.size _ _ _ _).mono (fun k _ e => .inr (by rw [e]; exact Nat.le_refl _)))).mono (fun k hk e => e.elim id (fun h => absurd h (by omega)))⟩)
    · have t1 : decide ((k : Int) < (n : Int)) = false := by simpa using hlt
      have t1' : decide (k < n) = false := by simpa using hlt
      have HEND : Hid (ls = got ∧ S4 = T) := hid (by
        have := hM.out
        rw [show n - k = 0 by omega] at this
        simpa [rLeaves] using this)
      clear hRT hown hmut hgl hbx hlt hM
      obtain ⟨y0, y1, y2, y3, -, -, -, -⟩ := HBX.out
      have C6 := hid (placesR_is (cm := cm) (hid ((HEND.out.2 ▸ H5.out : rPlaces ms T = (ds, S5)))) HRT.out HNM (by omega) (hmsr.out _ HMU.out) (fun b off h1 h2 => (hms5.out b off h1 h2).1))
      go_wp2_with fail
      clear r1
      refine C6.out.mono ?_
      rintro e w8 ⟨⟨v8, rfl, hv8⟩, ⟨a8, c8, hR8⟩, hM8⟩
      obtain ⟨q8, k8, e8, -, -⟩ := hv8.row
      subst e8
      have hb8 := HBX.out.mutT hM8 hb3s
      obtain ⟨z0, z1, z2, z3, -, -, -, fz3⟩ := id hb8
      have HB9 := hid (hb8.set3 (.slice q8 ds.length k8))
      have hR9 := hR8.mutT (G := fun k => k = g3) (mut1 (s := g3) (i := 3) (v := .slice q8 ds.length k8)) (fun k e => by rw [e]; exact hs2)
      have ho8 := HOWN.out.mutT hM8 (fun k e => by rw [e]; omega)
      rw [← HEND.out.1] at ho8
      have ho9 := ho8.mutT (mut1 (s := g3) (i := 3) (v := .slice q8 ds.length k8)) (fun k e => by rw [e]; omega)
      have hv9 := (hv8.mono2 (b' := w5.heap.size) (by omega)).mutT (mut1 (s := g3) (i := 3) (v := .slice q8 ds.length k8)) (fun k e => by rw [e]; omega)
      have hm9 := (HMU.out.trans (hM8.mono (G := fun k => k = s ∨ k = g3 ∨ w5.heap.size ≤ k) (fun k _ e => .inl e))).trans ((mut1 (s := g3) (i := 3) (v := .slice q8 ds.length k8)).mono (fun k _ e => .inr (.inl e)))
      obtain ⟨ql, kl, el, hlr⟩ := ho9.row
      subst el
      obtain ⟨q8', k8', e8', hdr, -⟩ := hv9.row
      cases e8'
      have hprow := hmsr.out _ hm9
      have hz23 := HZ23.out
      have HMW := hid (HMW5.out.trans (hm9.mono (G := fun k => k = s ∨ w.heap.size ≤ k) (fun k _ e => e.elim .inl (fun h => .inr (by rcases h with h | h <;> omega)))))
      have hx9 : BoxV (w8.setCell ⟨g3, 3, none⟩ (.slice q8 ds.length k8)) w.heap.size (.int .u64 0) (.slice none 0 0) (.slice none 0 0) (.slice none 0 0) := HX25.out.mutT hm9 (fun e => by rcases e with e | e | e <;> omega)
      have hown9 := HOWN5.out.mutN hm9 (fun g hg e => by
        have h1 := HBM.out g hg
        rcases e with e | e | e <;> omega)
      have HX9 := hid hx9
      have HOWN9 := hid hown9
      have HR9 := hid hR9
      have HO9 := hid ho9
      have HV9 := hid hv9
      have HPROW := hid hprow
      have HLR := hid hlr
      have HDR := hid hdr
      clear C6 hv8 hR8 hM8 hb8 hR9 ho8 ho9 hv9 hm9 hlr hdr hprow hx9 hown9
      obtain ⟨w9, hw9⟩ : ∃ w9, w8.setCell ⟨g3, 3, none⟩ (.slice q8 ds.length k8) = w9 := ⟨_, rfl⟩
      rw [hw9] at HB9 HX9 HOWN9 HR9 HO9 HV9 HPROW HLR HDR HMW
      have r1 := HR9.out.c1
      by_cases h5 : S5.e = 0
      · rw [h5] at r1
        have hsum : lens ls ≤ 549755813888 := by
          have := lens_le HLS.out.2
          have h2 := HLS.out.1
          have : lens ls ≤ 24 * 24 := Nat.le_trans this (Nat.mul_le_mul_right _ (by omega))
          omega
        have hV9 : ViewR w9 am ql q8 ⟨(i0 : Nat), ms, ls, ds⟩ := ⟨HPROW.out, HLR.out, HDR.out, by have := HML.out; simp only; omega, by have := HLS.out.1; simp only; omega, by have := HDL.out; simp only; omega, fun l hl => by have := HLS.out.2 l hl; omega⟩
        have H50 := hid h5
        obtain ⟨b0, b1, b2, b3, -, -, -, -⟩ := HB9.out
        cases hcb : refCheckB ⟨(i0 : Nat), ms, ls, ds⟩
        · have CK := refCheck_is (cm := cm) (cl := kl) (cd := k8) (hid hcb) hV9 hsum
          simp only at CK
          rw [HNM.out] at CK
          have HCK := hid CK
          have HRV : Hid (rView S = (zeroV, ⟨S5.b, 5⟩)) := hid (by
            unfold rView
            rw [hP.out]
            rw [if_neg (by simp [h5]), if_pos hcb])
          clear hcb h5 hV9 hsum CK
          go_wp2_with fail
          refine HCK.out.mono ?_
          rintro e w10 ⟨rfl, hb10⟩
          have hR10 := HR9.out.ext hb10
          have HR11 : Hid (RdIs (w10.setCell ⟨s, 1, none⟩ (.int .i64 5)) s _ _ ⟨S5.b, 5⟩) := hid (hR10.bad 5)
          have hx10 := HX9.out.ext hb10
          have HX11 := hid (hx10.mutT (mut1 (s := s) (i := 1) (v := .int .i64 5)) (fun e => by have e : w.heap.size = s := e; omega))
          have HMW11 := hid ((HMW.out.trans (Mut.of_below hb10)).trans ((mut1 (s := s) (i := 1) (v := .int .i64 5)).mono (fun k _ e => .inl e)))
          have q0 := hR10.c0
          have q1 := hR10.c1
          rw [H50.out] at q1
          have qf := hR10.f1
          have q51 : (w10.setCell ⟨s, 1, none⟩ (.int .i64 5)).cell? ⟨s, 1, none⟩ = some (.int .i64 5) := HR11.out.c1
          obtain ⟨d0, d1, d2, d3, df0, df1, df2, df3⟩ : BoxV (w10.setCell ⟨s, 1, none⟩ (.int .i64 5)) w.heap.size (.int .u64 0) (.slice none 0 0) (.slice none 0 0) (.slice none 0 0) := HX11.out
          clear HCK hb10 b0 b1 b2 b3 hw9 hR10 hx10 r1
          go_wp2
          obtain ⟨p0, p1, p2, p3, -, -, -, -⟩ := HX11.out.put (.int .u64 0) (.slice none 0 0) (.slice none 0 0) (.slice none 0 0)
          exact bodyPost_ret (v := .agg #[.int .u64 0, .slice none 0 0, .slice none 0 0, .slice none 0 0]) (by simp [results, Try.results136, go_sem, p0, p1, p2, p3]) rfl (by
            rw [HRV.out]
            exact ⟨_, _, _, rfl, OwnP.nil _ _, OwnLL.nil _ _, OwnP.nil _ _, ⟨_, _, HR11.out.mutT (mutV _ w.heap.size _ _ _ _) (fun k e => by rw [e]; exact hs)⟩, (HMW11.out.trans ((mutV _ w.heap.size _ _ _ _).mono (fun k _ e => .inr (by rw [e]; exact Nat.le_refl _)))).mono (fun k hk e => e.elim id (fun h => absurd h (by omega)))⟩)
        · have CK := refCheck_is (cm := cm) (cl := kl) (cd := k8) (hid hcb) hV9 hsum
          simp only at CK
          rw [HNM.out] at CK
          have HCK := hid CK
          have HRV : Hid (rView S = (⟨(i0 : Nat), ms, ls, ds⟩, S5)) := hid (by
            unfold rView
            rw [hP.out]
            rw [if_neg (by simp [h5]), if_neg (by rw [hcb]; simp)])
          clear hcb h5 hV9 hsum CK
          go_wp2_with fail
          refine HCK.out.mono ?_
          rintro e w10 ⟨rfl, hb10⟩
          have HX10 := hid (HX9.out.ext hb10)
          have HMW10 := hid (HMW.out.trans (Mut.of_below hb10))
          have HB10 := hid (HB9.out.ext hb10)
          have HR10 := hid (HR9.out.ext hb10)
          have HO10 := hid (HO9.out.ext hb10)
          have HV10 := hid (HV9.out.ext hb10)
          have HOWN10 := hid (HOWN9.out.ext hb10)
          have q1 := HR10.out.c1
          rw [H50.out] at q1
          clear HCK hb10 b0 b1 b2 b3 hw9 r1
          obtain ⟨b0, b1, b2, b3, -, -, -, -⟩ := HB10.out
          obtain ⟨d0, d1, d2, d3, df0, df1, df2, df3⟩ := HX10.out
          go_wp2
          obtain ⟨p0, p1, p2, p3, -, -, -, -⟩ := HX10.out.put (.int .u64 i0) (.slice am nm cm) (.slice ql ls.length kl) (.slice q8 ds.length k8)
          exact bodyPost_ret (v := .agg #[.int .u64 i0, .slice am nm cm, .slice ql ls.length kl, .slice q8 ds.length k8]) (by simp [results, Try.results136, go_sem, p0, p1, p2, p3]) rfl (by
            rw [HRV.out]
            have hm := mutV w10 w.heap.size (.int .u64 i0) (.slice am nm cm) (.slice ql ls.length kl) (.slice q8 ds.length k8)
            have hg5 : w.heap.size < w5.heap.size := by omega
            refine ⟨_, _, _, rfl, ?_, (HO10.out.mutT hm (fun k e => by rw [e]; omega)).mono (by omega), (HV10.out.mutT hm (fun k e => by rw [e]; omega)).mono2 (by omega), ⟨_, _, HR10.out.mutT hm (fun k e => by rw [e]; exact hs)⟩, (HMW10.out.trans (hm.mono (fun k _ e => .inr (by rw [e]; exact Nat.le_refl _)))).mono (fun k hk e => e.elim id (fun h => absurd h (by omega)))⟩
            refine OwnP.mono2 (HOWN10.out.mutN hm (fun g hg e => ?_)) ?_
            · have h1 := HBM.out g hg
              have e : g = w.heap.size := e
              omega
            · rw [HZ4.out]; have := HG3.out; omega)
      · have t9 : ((S5.e : Int) == 0) = false := by simp; omega
        have t9' : ((S5.e : Int) != 0) = true := by simp; omega
        have HRV : Hid (rView S = (zeroV, S5)) := hid (by
          unfold rView
          rw [hP.out]
          rw [if_pos h5])
        obtain ⟨d0, d1, d2, d3, df0, df1, df2, df3⟩ := HX9.out
        clear h5
        go_wp2
        obtain ⟨p0, p1, p2, p3, -, -, -, -⟩ := HX9.out.put (.int .u64 0) (.slice none 0 0) (.slice none 0 0) (.slice none 0 0)
        exact bodyPost_ret (v := .agg #[.int .u64 0, .slice none 0 0, .slice none 0 0, .slice none 0 0]) (by simp [results, Try.results136, go_sem, p0, p1, p2, p3]) rfl (by
          rw [HRV.out]
          exact ⟨_, _, _, rfl, OwnP.nil _ _, OwnLL.nil _ _, OwnP.nil _ _, ⟨_, _, HR9.out.mutT (mutV _ w.heap.size _ _ _ _) (fun k e => by rw [e]; exact hs)⟩, (HMW.out.trans ((mutV _ w.heap.size _ _ _ _).mono (fun k _ e => .inr (by rw [e]; exact Nat.le_refl _)))).mono (fun k hk e => e.elim id (fun h => absurd h (by omega)))⟩)
end Go.Proofs.Ytbpfhclcjedkcaa

