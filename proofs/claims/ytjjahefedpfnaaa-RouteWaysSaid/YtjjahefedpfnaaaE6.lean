import Derived.Test.YtjjahefedpfnaaaE5
namespace Go.Proofs.Ytjjahefedpfnaaa
open Go.RowKit
theorem speakP_no {V : View} {S : Pid → Bool} {k : Int} (h : k < 0 ∨ (V.ls.length : Int) ≤ k) : speakP V S k = none := by
  unfold speakP
  by_cases h0 : k < 0
  · rw [if_pos h0]
  · rw [if_neg h0, List.getElem?_eq_none (by omega)]
theorem speakP_at {V : View} {S : Pid → Bool} {k : Nat} (h : k < V.ls.length) {l : List Pid} (hl : l = V.ls[k]) : speakP V S (k : Int) = firstP S l := by
  unfold speakP
  rw [if_neg (by omega)]
  simp [h, hl]

set_option maxRecDepth 100000 in
set_option maxHeartbeats 3200000 in
theorem speaker_any (r : Nat → Int) (V : View) (am al ad : Option Addr) (cm cl cd : Nat) (k : Int) (w : World) (hV : ViewR w am al ad V) (hf : Fine V) :
    Calls Try.prog 52 #[viewV V am al ad cm cl cd, .agg (RL r).toArray, .int .i64 k] w fun e w' => e = .returned (optV (speakP V (hasRu r) k)) ∧ Below w.heap.size w w' := by
  have hB3 : Below w.heap.size w (((w.alloc (.cells (vcells V am al ad cm cl cd) 68)).alloc (.cells (RL r).toArray 70)).alloc (.cells #[.int .u16 0, .int .u32 0] 32)) := (((Below.refl _ _).alloc (Nat.le_refl _) _).alloc (by simp) _).alloc (by simp; omega) _
  have hR3 := (RumBox.madeV (w.alloc (.cells (vcells V am al ad cm cl cd) 68)) r).ext (B := w.heap.size + 1 + 1) ((Below.refl _ _).alloc (by simp) (.cells #[.int .u16 0, .int .u32 0] 32)) (by simp)
  have hbx := Box2.made ((w.alloc (.cells (vcells V am al ad cm cl cd) 68)).alloc (.cells (RL r).toArray 70)) (v0 := .int .u16 0) (v1 := .int .u32 0) 32
  have hV3 := hV.ext hB3
  simp only [World.size_alloc] at hR3 hbx
  have hnl := hf.nl
  by_cases hneg : k < 0
  · have hneg' : decide (k < 0) = true := by simpa using hneg
    have HO := hid (speakP_no (V := V) (S := hasRu r) (.inl hneg))
    rw [HO.out]
    go_enter Try.func52, Try.ntmps52
    go_wp2
    have t0 := hbx.c0
    have t1 := hbx.c1
    exact bodyPost_ret (v := optV none) (by simp [results, Try.results52, go_sem, t0, t1, optP]) rfl ⟨rfl, hB3⟩
  · have hneg' : decide (k < 0) = false := by simpa using hneg
    obtain ⟨kk, rfl⟩ := Int.eq_ofNat_of_zero_le (by omega : 0 ≤ k)
    by_cases hge : V.ls.length ≤ kk
    · have HO := hid (speakP_no (V := V) (S := hasRu r) (k := (kk : Int)) (.inr (by omega)))
      rw [HO.out]
      go_enter Try.func52, Try.ntmps52
      go_wp2
      have t0 := hbx.c0
      have t1 := hbx.c1
      exact bodyPost_ret (v := optV none) (by simp [results, Try.results52, go_sem, t0, t1, optP]) rfl ⟨rfl, hB3⟩
    · have hlt : kk < V.ls.length := by omega
      obtain ⟨b, off, ai, ci, l, rfl, hx, d1, d2⟩ := hV3.ls.at (Below.refl _ _) rfl hlt
      have hlm : l ∈ V.ls := by rw [hx]; exact List.getElem_mem _
      have hbw : b < w.heap.size := by
        rcases hV.ls with h | ⟨b', off', e, hb', _⟩
        · rw [h] at hlt; simp at hlt
        · cases e; exact hb'
      obtain ⟨b2, off2, ai2, ci2, l2, e2, hx2, f1, f2⟩ := hV.ls.at (Below.refl _ _) rfl hlt
      cases e2
      obtain rfl : l2 = l := hx2.trans hx.symm
      have hai : ai2 = ai ∧ ci2 = ci := by
        have := (hB3.cell (p := ⟨b, off + kk, none⟩) hbw).symm.trans d1
        rw [f1] at this; simpa using this
      obtain ⟨rfl, rfl⟩ := hai
      obtain ⟨o, ho⟩ : ∃ o, firstP (hasRu r) l2 = o := ⟨_, rfl⟩
      have HO := hid (speakP_at (S := hasRu r) hlt hx)
      rw [ho] at HO
      rw [HO.out]
      have HF := hid ho
      clear ho hx hx2 HO
      have hvc : (((w.alloc (.cells (vcells V am (some ⟨b, off, none⟩) ad cm cl cd) 68)).alloc (.cells (RL r).toArray 70)).alloc (.cells #[.int .u16 0, .int .u32 0] 32)).cell? ⟨w.heap.size, 2, none⟩ = some (.slice (some ⟨b, off, none⟩) V.ls.length cl) := (((ViewBox.made (V := V) (am := am) (al := some ⟨b, off, none⟩) (ad := ad) (cm := cm) (cl := cl) (cd := cd) w).ext (B := w.heap.size + 1) ((Below.refl _ _).alloc (by simp) _) (by omega)).ext (B := w.heap.size + 1) ((Below.refl _ _).alloc (by simp) _) (by omega)).c2
      have hz3 : (((w.alloc (.cells (vcells V am (some ⟨b, off, none⟩) ad cm cl cd) 68)).alloc (.cells (RL r).toArray 70)).alloc (.cells #[.int .u16 0, .int .u32 0] 32)).heap.size = w.heap.size + 1 + 1 + 1 := by simp
      have hu70 := Try.underlying70
      have hi70 := info70L r
      have hwl := hf.wf.ls l2 hlm
      have hll := hf.ls l2 hlm
      have hd2 : PidRow w ai2 l2 := f2
      clear f1 f2 hV hV3 hf
      go_enter Try.func52, Try.ntmps52
      go_wp2
      generalize hw3 : (((w.alloc (.cells (vcells V am (some ⟨b, off, none⟩) ad cm cl cd) 68)).alloc (.cells (RL r).toArray 70)).alloc (.cells #[.int .u16 0, .int .u32 0] 32)) = w3 at hB3 hR3 hbx hvc d1 d2 hz3 ⊢
      clear hw3
      have hle3 : w.heap.size + 1 + 1 ≤ w3.heap.size := by omega
      have HZ := hid hz3
      clear hz3
      have HS : Hid (∀ W, Below (w.heap.size + 1 + 1) w3 W → Below (w.heap.size + 1 + 1) w3 W ∧ W.rangeAt (w.heap.size + 1) 0 (RL r) ∧ W.cell? ⟨w.heap.size, 2, none⟩ = some (.slice (some ⟨b, off, none⟩) V.ls.length cl) ∧ W.cell? ⟨b, off + kk, none⟩ = some (.slice ai2 l2.length ci2)) :=
        hid fun W h => ⟨h, (hR3.ext h (by omega)).range, (h.cell (by simp; omega)).trans hvc, (h.cell (by simp; omega)).trans d1⟩
      have C1 : Hid (∀ W, Below (w.heap.size + 1 + 1) w3 W → Calls Try.prog 74 #[.agg (RL r).toArray, .slice ai2 l2.length ci2] W fun e w' => e = .returned (optV o) ∧ Below W.heap.size W w') := hid fun W h => firstV_is HF hwl hll (hd2.ext (hB3.trans (h.mono (by omega))))
      have BX : Hid (∀ W, Below w3.heap.size w3 W → Box2 W (w.heap.size + 1 + 1) (.int .u16 0) (.int .u32 0)) := hid fun W h => hbx.ext h
      have H0 : Below (w.heap.size + 1 + 1) w3 w3.drew := (Below.refl _ _).drew
      have H1 : Below w3.heap.size w3 w3.drew := (Below.refl _ _).drew
      clear hR3 hbx d1 hvc d2
      go_region_held3 (fun W => Below (w.heap.size + 1 + 1) w3 W ∧ W.rangeAt (w.heap.size + 1) 0 (RL r) ∧ W.cell? ⟨w.heap.size, 2, none⟩ = some (.slice (some ⟨b, off, none⟩) V.ls.length cl) ∧ W.cell? ⟨b, off + kk, none⟩ = some (.slice ai2 l2.length ci2)) (first | exact HS.out _ H0 | exact HS.out _ (Below.mono ‹Below w3.heap.size w3 _› hle3) | exact HS.out _ (below_put (Below.mono ‹Below w3.heap.size w3 _› hle3) (Nat.le_refl _) _ _)) ((go_at_call 74; refine (C1.out _ H0).mono ?_; rintro e w' ⟨rfl, hb'⟩; have hb3' : Below w3.heap.size w3 w' := H1.trans hb'; obtain ⟨y0, y1, y2, y3⟩ := BX.out _ hb3'))
      go_wp2
      obtain ⟨t0, t1⟩ := two_cell (x := .int .u16 (optP o).1.1) (y := .int .u32 (optP o).1.2) y0 y1
      exact bodyPost_ret (v := optV o) (by simp [results, Try.results52, go_sem, t0, t1]) rfl ⟨rfl, below_put (hB3.trans (hb3'.mono hB3.size)) (by omega) _ _⟩
end Go.Proofs.Ytjjahefedpfnaaa
