/- Parts of the proof: X73. -/
import Derived.Test.YtbpfhclcjedkcaaX72
namespace Go.Proofs.Ytbpfhclcjedkcaa
open Go.RowKit
/-! ### Reader.Ballot -/
theorem rBal_skip {S : RS} (he : S.e ≠ 0) : rBal S = (zeroBal, S) := by unfold rBal; rw [if_pos he]
theorem rBal_ok {S : RS} (he : S.e = 0) : rBal S = (if (rPid (rNum 4294967295 S).2).2.e = 0 then ((rNum 4294967295 S).1, (rPid (rNum 4294967295 S).2).1) else zeroBal, wholeS S (rPid (rNum 4294967295 S).2).2) := by
  unfold rBal wholeS
  rw [if_neg (by simp [he])]
  by_cases h : (rPid (rNum 4294967295 S).2).2.e = 0
  · rw [if_neg (by simp [h]), if_pos h, if_pos h]
  · rw [if_pos h, if_neg h, if_neg h]
theorem infoBal : (Try.prog.info? 41).map (·.size) = some 3 := by kernel_rfl
theorem OutL.mutT {G : Nat → Prop} {w w' : World} {q : Nat} {L : List Value} (h : OutL w q L) (hl : 0 < L.length) (hm : Mut G w w') (hG : ¬ G q) : OutL w' q L := by
  have hlt := h.lt hl
  refine ⟨fun j v hv => ?_, fun j => (World.frozen?_of_block (w := w) (a := ⟨q, j, none⟩) (hm.block q hlt hG)).trans (h.f j)⟩
  have := h.cell hv
  rw [Nat.zero_add]
  exact cell_mut this hm hG
theorem OutL.put3 {w : World} {q : Nat} {u0 u1 u2 : Value} (h : OutL w q [u0, u1, u2]) (v0 v1 v2 : Value) : OutL (((w.setCell ⟨q, 0, none⟩ v0).setCell ⟨q, 1, none⟩ v1).setCell ⟨q, 2, none⟩ v2) q [v0, v1, v2] :=
  ((h.set (j := 0) (by simp) v0).set (j := 1) (by simp) v1).set (j := 2) (by simp) v2
theorem mut3 {w : World} {s : Nat} {x y z : Value} : Mut (fun k => k = s) w (((w.setCell ⟨s, 0, none⟩ x).setCell ⟨s, 1, none⟩ y).setCell ⟨s, 2, none⟩ z) := (mut1.trans mut1).trans mut1
set_option maxRecDepth 100000 in
set_option maxHeartbeats 3200000 in
theorem balC_any {s c g0 g2 n : Nat} {x y : Int} {u0 u1 u2 : Value} {a : Option Addr} {S S1 S2 : RS} {w : World} (hx : Hid (rNum 4294967295 S = (n, S1))) (hp : Hid (rPid S1 = ((x, y), S2))) (hR : RdIs w s a c S) (h0 : w.cell? ⟨g0, 0, none⟩ = some (.pointer (some ⟨s, 0, none⟩))) (h2 : OutL w g2 [u0, u1, u2]) (hs : s < g2) (h0s : g0 ≠ s) :
    Calls Try.prog 199 #[.pointer (some ⟨g0, 0, none⟩), .pointer (some ⟨g2, 0, none⟩)] w fun e w' => e = .returned (.tuple #[]) ∧ (∃ a' c', RdIs w' s a' c' S2) ∧ OutL w' g2 [.int .u32 n, .int .u16 x, .int .u32 y] ∧ Mut (fun k => k = s ∨ k = g2) w w' := by
  have hnl : n ≤ 4294967295 := by have := rNum_le (most := 4294967295) (S := S); rw [hx.out] at this; exact this
  have en : IntKind.u32.wrap ((n : Nat) : Int) = ((n : Nat) : Int) := by rw [IntKind.wrap_u32]; omega
  have CN : Hid (Calls Try.prog 191 #[.pointer (some ⟨s, 0, none⟩), .int .u64 4294967295] w fun e w' => e = .returned (.int .u64 n) ∧ (∃ a' c', RdIs w' s a' c' S1) ∧ Mut (fun k => k = s) w w') := hid (by
    have := rnum_any 4294967295 (by decide) hR
    rw [hx.out] at this; exact this)
  have HGS : Hid (¬ g2 = s) := hid (by omega)
  have H0 := hid h0
  have H2 := hid h2
  clear hR h2 hx
  go_enter Try.func199, Try.ntmps199
  go_wp2_with fail
  refine CN.out.mono ?_
  rintro e w1 ⟨rfl, ⟨a1, c1, hR1⟩, hM1⟩
  have h01 := cell_mut H0.out hM1 h0s
  have h21 := H2.out.mutT (by simp) hM1 HGS.out
  have CP := hid (rpid_any hp hR1)
  have HM1 := hid hM1
  have H21 := hid h21
  clear hR1 hM1 h21 CN h0 hp
  go_wp2_with fail
  (with_reducible refine CP.out.mono ?_)
  rintro e w2 ⟨rfl, ⟨a2, c2, hR2⟩, hM2⟩
  have h22 := H21.out.mutT (by simp) hM2 HGS.out
  have z0 : w2.cell? ⟨g2, 0, none⟩ = some u0 := h22.cell rfl
  have z1 : w2.cell? ⟨g2, 1, none⟩ = some u1 := h22.cell rfl
  have z2 : w2.cell? ⟨g2, 2, none⟩ = some u2 := h22.cell rfl
  have f0 := h22.f 0
  have f1 := h22.f 1
  have f2 := h22.f 2
  have HP := hid (h22.put3 (.int .u32 n) (.int .u16 x) (.int .u32 y))
  have HRF := hid (hR2.mutT (G := fun k => k = g2) (mut3 (s := g2) (x := .int .u32 n) (y := .int .u16 x) (z := .int .u32 y)) (fun k e => by rw [e]; exact hs))
  have HMF := hid (((HM1.out.trans hM2).mono (G := fun k => k = s ∨ k = g2) (fun k _ e => .inl e)).trans ((mut3 (s := g2) (x := .int .u32 n) (y := .int .u16 x) (z := .int .u32 y)).mono (fun k _ e => .inr e)))
  clear h22 hR2 hM2 CP HM1
  go_wp2
  exact bodyPost_end (results_none rfl _ _ _) rfl ⟨rfl, ⟨a2, c2, HRF.out⟩, HP.out, HMF.out⟩
set_option maxRecDepth 100000 in
set_option maxHeartbeats 3200000 in
theorem rBal_any {s c : Nat} {b : Bal} {a : Option Addr} {S S9 : RS} {w : World} (hX : Hid (rBal S = (b, S9))) (hR : RdIs w s a c S) :
    Calls Try.prog 127 #[.pointer (some ⟨s, 0, none⟩)] w fun e w' => e = .returned (.agg #[.int .u32 b.1, .int .u16 b.2.1, .int .u32 b.2.2]) ∧ (∃ a' c', RdIs w' s a' c' S9) ∧ Mut (fun k => k = s) w w' := by
  have hmf : ∀ (fn : Fn) (first cap : Array Value) (w : World), (Instr.makeFunc fn first cap).run Try.prog w = .ok (.func fn first cap) w := fun _ _ _ _ => rfl
  have hB : Below w.heap.size w ((w.alloc (.cells #[.pointer (some ⟨s, 0, none⟩)] 167)).alloc (.cells #[.int .u32 0, .int .u16 0, .int .u32 0] 41)) := ((Below.refl _ _).alloc (Nat.le_refl _) _).alloc (by simp) _
  have hR3 := hR.ext hB
  have g0 : ((w.alloc (.cells #[.pointer (some ⟨s, 0, none⟩)] 167)).alloc (.cells #[.int .u32 0, .int .u16 0, .int .u32 0] 41)).cell? ⟨w.heap.size, 0, none⟩ = some (.pointer (some ⟨s, 0, none⟩)) := by simp
  have g2 : OutL ((w.alloc (.cells #[.pointer (some ⟨s, 0, none⟩)] 167)).alloc (.cells #[.int .u32 0, .int .u16 0, .int .u32 0] 41)) (w.heap.size + 1) [.int .u32 0, .int .u16 0, .int .u32 0] := by
    have := OutL.made [.int .u32 0, .int .u16 0, .int .u32 0] (w.alloc (.cells #[.pointer (some ⟨s, 0, none⟩)] 167)) 41
    simpa using this
  obtain ⟨w3, hw3⟩ : ∃ w3, ((w.alloc (.cells #[.pointer (some ⟨s, 0, none⟩)] 167)).alloc (.cells #[.int .u32 0, .int .u16 0, .int .u32 0] 41)) = w3 := ⟨_, rfl⟩
  rw [hw3] at hB hR3 g0 g2
  have hs := hR.lt
  have hz3 := g2.lt (by simp)
  -- what comes back from the box
  have RES : Hid (∀ (W : World) (v0 v1 v2 : Value), OutL W (w.heap.size + 1) [v0, v1, v2] → ∀ tm : Array Value, tm.getD 2 undef = .pointer (some ⟨w.heap.size + 1, 0, none⟩) → (results Try.f127 tm).run Try.prog W = .ok (.agg #[v0, v1, v2]) W) := hid fun W v0 v1 v2 h tm htm => results_cell_mid (p := 2) (ty := 41) rfl tm W (w.heap.size + 1) 0 [v0, v1, v2] _ htm h.r Try.underlying41 rfl infoBal
  by_cases he : S.e = 0
  · obtain ⟨⟨n, S1⟩, hn⟩ : ∃ q, rNum 4294967295 S = q := ⟨_, rfl⟩
    obtain ⟨⟨⟨x, y⟩, S2⟩, hp⟩ : ∃ q, rPid S1 = q := ⟨_, rfl⟩
    have hsp := (rBal_ok he).symm.trans hX.out
    rw [hn] at hsp
    simp only [hp] at hsp
    obtain ⟨e1, e2⟩ := Prod.mk.inj hsp
    have H : Hid (∀ W, Below w3.heap.size w3 W → Calls Try.prog 199 #[.pointer (some ⟨w.heap.size, 0, none⟩), .pointer (some ⟨w.heap.size + 1, 0, none⟩)] W fun e W' => e = .returned (.tuple #[]) ∧ (∃ a' c', RdIs W' s a' c' S2) ∧ OutL W' (w.heap.size + 1) [.int .u32 n, .int .u16 x, .int .u32 y] ∧ Mut (fun k => k = s ∨ k = w.heap.size + 1) W W') := hid fun W h => balC_any (hid hn) (hid hp) (hR3.ext h) (cell_toB g0 h) (g2.ext h (by omega)) (by omega) (by omega)
    have CW := hid (wholeA_any (G := fun k => k = s ∨ k = w.heap.size + 1) (Q := fun W => OutL W (w.heap.size + 1) [.int .u32 n, .int .u16 x, .int .u32 y]) hR3 he (.inl rfl) (fun k hk => by rcases hk with rfl | rfl <;> omega) H (fun W W' h hm => h.mutT (by simp) hm (fun e => by have e : w.heap.size + 1 = s := e; omega)))
    have HE1 := hid e1
    have HE2 := hid e2
    have HB := hid hB
    have HSL : Hid (s < w.heap.size) := hid hs
    clear g2 hz3 hX H hn hp hsp e1 e2
    have g0' := hid g0
    by_cases hbad : S2.e = 0
    · have hb9 : Hid (b = (n, (x, y))) := hid (by rw [← HE1.out, if_pos hbad])
      have hs9 : Hid (S9 = S2) := hid (by rw [← HE2.out]; unfold wholeS; rw [if_pos hbad])
      have q1 : ((S9.e : Int) != 0) = false := by rw [hs9.out, hbad]; rfl
      have hsw : wholeS S S2 = S9 := HE2.out
      rw [hsw] at CW
      clear hbad hsw HE1 HE2 g0 he
      subst hw3
      go_enter Try.func127, Try.ntmps127
      go_wp2_with (first
        | (go_at_call 189; refine CW.out.mono ?_; rintro e w4 ⟨rfl, ⟨a4, c4, hR4⟩, hQ4, hM4⟩; have k0 := cell_mut g0'.out hM4 (by rintro (e | e) <;> (simp only at e; have := HSL.out; omega)); have z0 : w4.cell? ⟨w.heap.size + 1, 0, none⟩ = some (.int .u32 n) := hQ4.cell rfl; have z1 : w4.cell? ⟨w.heap.size + 1, 1, none⟩ = some (.int .u16 x) := hQ4.cell rfl; have z2 : w4.cell? ⟨w.heap.size + 1, 2, none⟩ = some (.int .u32 y) := hQ4.cell rfl; have f0 := hQ4.f 0; have f1 := hQ4.f 1; have f2 := hQ4.f 2; have HR4 := hid hR4; have HQ4 := hid hQ4; have HM4 := hid hM4; clear hR4 hQ4 hM4)
        | (go_at_call 194; (with_reducible refine (rErr_any HR4.out).mono ?_); rintro e w' ⟨rfl, rfl⟩))
      have hp3 := HQ4.out.put3 (.int .u32 n) (.int .u16 x) (.int .u32 y)
      have hm5 := HM4.out.trans ((mut3 (s := w.heap.size + 1) (x := .int .u32 n) (y := .int .u16 x) (z := .int .u32 y)).mono (fun k _ e => .inr e))
      exact bodyPost_ret (RES.out _ _ _ _ hp3 _ rfl) rfl ⟨by rw [hb9.out], ⟨a4, c4, HR4.out.mutT (G := fun k => k = w.heap.size + 1) mut3 (fun k e => by rw [e]; have := HSL.out; omega)⟩, hm5.weak HB.out (fun k hk e => by rcases e with e | e; exact e; omega)⟩
    · have hb9 : Hid (b = zeroBal) := hid (by rw [← HE1.out, if_neg hbad])
      have hs9 : Hid (S9.e ≠ 0) := hid (by rw [← HE2.out]; unfold wholeS; rw [if_neg hbad]; exact hbad)
      have q1 : ((S9.e : Int) != 0) = true := by have := hs9.out; simp only [bne_iff_ne, ne_eq]; omega
      have hsw : wholeS S S2 = S9 := HE2.out
      rw [hsw] at CW
      clear hbad hsw HE1 HE2 g0 he
      subst hw3
      go_enter Try.func127, Try.ntmps127
      go_wp2_with (first
        | (go_at_call 189; refine CW.out.mono ?_; rintro e w4 ⟨rfl, ⟨a4, c4, hR4⟩, hQ4, hM4⟩; have k0 := cell_mut g0'.out hM4 (by rintro (e | e) <;> (simp only at e; have := HSL.out; omega)); have z0 : w4.cell? ⟨w.heap.size + 1, 0, none⟩ = some (.int .u32 n) := hQ4.cell rfl; have z1 : w4.cell? ⟨w.heap.size + 1, 1, none⟩ = some (.int .u16 x) := hQ4.cell rfl; have z2 : w4.cell? ⟨w.heap.size + 1, 2, none⟩ = some (.int .u32 y) := hQ4.cell rfl; have f0 := hQ4.f 0; have f1 := hQ4.f 1; have f2 := hQ4.f 2; have HR4 := hid hR4; have HQ4 := hid hQ4; have HM4 := hid hM4; clear hR4 hQ4 hM4)
        | (go_at_call 194; (with_reducible refine (rErr_any HR4.out).mono ?_); rintro e w' ⟨rfl, rfl⟩))
      have hp3 := HQ4.out.put3 (.int .u32 0) (.int .u16 0) (.int .u32 0)
      have hm5 := HM4.out.trans ((mut3 (s := w.heap.size + 1) (x := .int .u32 0) (y := .int .u16 0) (z := .int .u32 0)).mono (fun k _ e => .inr e))
      exact bodyPost_ret (RES.out _ _ _ _ hp3 _ rfl) rfl ⟨by rw [hb9.out]; rfl, ⟨a4, c4, HR4.out.mutT (G := fun k => k = w.heap.size + 1) mut3 (fun k e => by rw [e]; have := HSL.out; omega)⟩, hm5.weak HB.out (fun k hk e => by rcases e with e | e; exact e; omega)⟩
  · have HK := hid (rBal_skip he)
    obtain ⟨e1, e2⟩ := Prod.mk.inj (HK.out.symm.trans hX.out)
    subst e1; subst e2
    have CW := hid (wholeA_skip (p0 := .pointer (some ⟨w.heap.size, 0, none⟩)) (p1 := .pointer (some ⟨w.heap.size + 1, 0, none⟩)) hR3 he)
    have q1 : ((S.e : Int) != 0) = true := by simp only [bne_iff_ne, ne_eq]; omega
    have HG2 := hid g2
    have HG0 := hid g0
    have HB := hid hB
    have HR3 := hid hR3
    have HSL : Hid (s < w.heap.size) := hid hs
    have HZ3 := hid hz3
    clear g2 g0 he hz3 hX
    subst hw3
    go_enter Try.func127, Try.ntmps127
    go_wp2_with (first
      | (go_at_call 189; refine CW.out.mono ?_; rintro e w4 ⟨rfl, hb4⟩; have k0 := cell_toB HG0.out hb4; have hQ4 := HG2.out.ext hb4 HZ3.out; have z0 : w4.cell? ⟨w.heap.size + 1, 0, none⟩ = some (.int .u32 0) := hQ4.cell rfl; have z1 : w4.cell? ⟨w.heap.size + 1, 1, none⟩ = some (.int .u16 0) := hQ4.cell rfl; have z2 : w4.cell? ⟨w.heap.size + 1, 2, none⟩ = some (.int .u32 0) := hQ4.cell rfl; have f0 := hQ4.f 0; have f1 := hQ4.f 1; have f2 := hQ4.f 2; have HR4 := hid (HR3.out.ext hb4); have HQ4 := hid hQ4; have HB4 := hid hb4; clear hQ4 hb4)
      | (go_at_call 194; (with_reducible refine (rErr_any HR4.out).mono ?_); rintro e w' ⟨rfl, rfl⟩))
    have hp3 := HQ4.out.put3 (.int .u32 0) (.int .u16 0) (.int .u32 0)
    have hb5 := HB.out.trans (HB4.out.mono HB.out.size)
    exact bodyPost_ret (RES.out _ _ _ _ hp3 _ rfl) rfl ⟨rfl, ⟨a, c, HR4.out.mutT (G := fun k => k = w.heap.size + 1) mut3 (fun k e => by rw [e]; have := HSL.out; omega)⟩, (mut3 (s := w.heap.size + 1)).weak hb5 (fun k hk e => by have e : k = w.heap.size + 1 := e; omega)⟩
end Go.Proofs.Ytbpfhclcjedkcaa

