import Derived.Test.YtbpfhclcjedkcaaX16
import Derived.Test.YtbpfhclcjedkcaaX6
namespace Go.Proofs.Ytbpfhclcjedkcaa
open Go.RowKit
theorem rPids_skip {most : Nat} {S : RS} (he : S.e ≠ 0) : rPids most S = ([], S) := by unfold rPids; rw [if_pos he]
theorem rPids_eq {most n : Nat} {S S1 S2 : RS} {L : List Pid} (he : S.e = 0) (h1 : rNum most S = (n, S1)) (h2 : rPidsN n S1 = (L, S2)) : rPids most S = (if S2.e = 0 then L else [], wholeS S S2) := by
  unfold rPids wholeS
  rw [if_neg (by simp [he]), h1]
  simp only
  rw [h2]
  by_cases h : S2.e = 0
  · simp [h]
  · simp [h]
theorem OwnP.mono2 {w : World} {b b' : Nat} {v : Value} {xs : List Pid} (h : OwnP w b v xs) (hb : b' ≤ b) : OwnP w b' v xs := by
  refine ⟨h.1, ?_⟩
  rcases h.2 with hn | ⟨g, cap, cur, rfl, hbb, rest⟩
  · exact .inl hn
  · exact .inr ⟨g, cap, cur, rfl, Nat.le_trans hb hbb, rest⟩
set_option maxRecDepth 100000 in
set_option maxHeartbeats 1600000 in
theorem rPids_any {s c : Nat} {a : Option Addr} {S : RS} {w : World} (most : Nat) (hm : most ≤ 1000) (hR : RdIs w s a c S) :
    Calls Try.prog 116 #[.pointer (some ⟨s, 0, none⟩), .int .i64 most] w fun e w' => (∃ v, e = .returned v ∧ OwnP w' w.heap.size v (rPids most S).1) ∧ (∃ a' c', RdIs w' s a' c' (rPids most S).2) ∧ Mut (fun k => k = s) w w' := by
  have hmf : ∀ (fn : Fn) (first cap : Array Value) (w : World), (Instr.makeFunc fn first cap).run Try.prog w = .ok (.func fn first cap) w := fun _ _ _ _ => rfl
  have hB : Below w.heap.size w (((w.alloc (.cells #[.pointer (some ⟨s, 0, none⟩)] 167)).alloc (.cells #[.int .i64 most] 3)).alloc (.cells #[.slice none 0 0] 30)) := (((Below.refl _ _).alloc (Nat.le_refl _) _).alloc (by simp) _).alloc (by simp; omega) _
  have hR3 := hR.ext hB
  have g0 : (((w.alloc (.cells #[.pointer (some ⟨s, 0, none⟩)] 167)).alloc (.cells #[.int .i64 most] 3)).alloc (.cells #[.slice none 0 0] 30)).cell? ⟨w.heap.size, 0, none⟩ = some (.pointer (some ⟨s, 0, none⟩)) := three0 _ _ _ _ (by simp)
  have g1 : (((w.alloc (.cells #[.pointer (some ⟨s, 0, none⟩)] 167)).alloc (.cells #[.int .i64 most] 3)).alloc (.cells #[.slice none 0 0] 30)).cell? ⟨w.heap.size + 1, 0, none⟩ = some (.int .i64 most) := three1 _ _ _ _ (by simp)
  have g2 : Cell1 (((w.alloc (.cells #[.pointer (some ⟨s, 0, none⟩)] 167)).alloc (.cells #[.int .i64 most] 3)).alloc (.cells #[.slice none 0 0] 30)) (w.heap.size + 1 + 1) (.slice none 0 0) := by
    have := Cell1.made ((w.alloc (.cells #[.pointer (some ⟨s, 0, none⟩)] 167)).alloc (.cells #[.int .i64 most] 3)) 30 (.slice none 0 0)
    simpa using this
  obtain ⟨w3, hw3⟩ : ∃ w3, (((w.alloc (.cells #[.pointer (some ⟨s, 0, none⟩)] 167)).alloc (.cells #[.int .i64 most] 3)).alloc (.cells #[.slice none 0 0] 30)) = w3 := ⟨_, rfl⟩
  rw [hw3] at hB hR3 g0 g1 g2
  have hs := hR.lt
  have hz3 := g2.lt
  by_cases he : S.e = 0
  · obtain ⟨⟨n, S1⟩, h1⟩ : ∃ q, rNum most S = q := ⟨_, rfl⟩
    obtain ⟨⟨L, S2⟩, h2⟩ : ∃ q, rPidsN n S1 = q := ⟨_, rfl⟩
    have HP := hid (rPids_eq he h1 h2)
    have H1 := hid h1
    have H2 := hid h2
    have H : Hid (∀ W, Below w3.heap.size w3 W → Calls Try.prog 192 #[.pointer (some ⟨w.heap.size, 0, none⟩), .pointer (some ⟨w.heap.size + 1, 0, none⟩), .pointer (some ⟨w.heap.size + 1 + 1, 0, none⟩)] W fun e W' => e = .returned (.tuple #[]) ∧ (∃ a' c', RdIs W' s a' c' S2) ∧ (∃ v', Cell1 W' (w.heap.size + 1 + 1) v' ∧ OwnP W' w3.heap.size v' L) ∧ Mut (fun k => k = s ∨ k = w.heap.size + 1 + 1) W W') := hid fun W h => ((pidsC_any H1 H2 hm (hR3.ext h) (cell_toB g0 h) (cell_toB g1 h) (g2.ext h) (by omega) (by omega) (by omega)).mono fun e W' ⟨q1, q2, ⟨v', q3, q4⟩, q5⟩ => ⟨q1, q2, ⟨v', q3, OwnP.mono2 q4 h.size⟩, q5⟩)
    have CW := hid (wholeL_any (G := fun k => k = s ∨ k = w.heap.size + 1 + 1) (Q := fun W => ∃ v', Cell1 W (w.heap.size + 1 + 1) v' ∧ OwnP W w3.heap.size v' L) hR3 he (.inl rfl) (fun k hk => by rcases hk with rfl | rfl <;> omega) H (fun W W' ⟨v', h1, h2⟩ hm => ⟨v', h1.mutT hm (fun e => by have e : w.heap.size + 1 + 1 = s := e; omega), h2.mutT hm (fun k e => by have e : k = s := e; omega)⟩))
    have HB := hid hB
    have HZ3 := hid hz3
    clear h1 h2 g1 g2 he hz3
    obtain ⟨e2, he2⟩ : ∃ e2, S2.e = e2 := ⟨_, rfl⟩
    have hwe : (wholeS S S2).e = e2 := by unfold wholeS; split <;> first | exact he2 | (simp only; exact he2)
    have HWE := hid hwe
    have HE2 := hid he2
    clear hwe he2
    by_cases hz : e2 = 0
    · subst hz
      have HP1 : Hid ((rPids most S).1 = L ∧ (rPids most S).2 = wholeS S S2) := hid (by rw [HP.out, if_pos HE2.out]; exact ⟨rfl, rfl⟩)
      have HZs : Hid (w.heap.size + 1 + 1 < w3.heap.size) := HZ3
      subst hw3
      go_enter Try.func116, Try.ntmps116
      go_wp2_with (first
        | (go_at_call 189; refine CW.out.mono ?_; rintro e w4 ⟨rfl, ⟨a4, c4, hR4⟩, ⟨v4, hq4, ho4⟩, hM4⟩; obtain ⟨q1, k1, hev, hrw, -⟩ := ho4.row; subst hev; have z0 := hq4.c; have z1 := hq4.f; have p0 := cell_mut g0 hM4 (fun e => by rcases e with e | e; exact absurd (show w.heap.size = s from e) (by omega); exact absurd (show w.heap.size = w.heap.size + 1 + 1 from e) (by omega)))
        | (go_at_call 194; (with_reducible refine (rErr_is hR4 HWE).mono ?_); rintro e w' ⟨rfl, rfl⟩))
      have y0 := World.cell?_setCell_same w4 _ (.slice q1 L.length k1) z0
      have hM5 := hM4.trans ((mut1 (s := w.heap.size + 1 + 1) (i := 0) (v := .slice q1 L.length k1)).mono (fun k _ e => .inr e))
      exact bodyPost_ret (v := .slice q1 L.length k1) (by simp [results, Try.results116, go_sem, y0]) rfl ⟨⟨_, rfl, by rw [HP1.out.1]; exact OwnP.mono2 (ho4.mutT (mut1 (s := w.heap.size + 1 + 1)) (fun k e => by rw [e]; exact HZs.out)) (by have := HZs.out; omega)⟩, ⟨a4, c4, by rw [HP1.out.2]; exact hR4.mutT (G := fun k => k = w.heap.size + 1 + 1) mut1 (fun k e => by rw [e]; omega)⟩, hM5.weak HB.out (fun k hk e => by rcases e with e | e; exact e; omega)⟩
    · have HP1 : Hid ((rPids most S).1 = [] ∧ (rPids most S).2 = wholeS S S2) := hid (by rw [HP.out, if_neg (by rw [HE2.out]; exact hz)]; exact ⟨rfl, rfl⟩)
      have t1 : decide (e2 = 0) = false := by simpa using hz
      have t2 : decide ((e2 : Int) = 0) = false := by simp; omega
      have t3 : ((e2 : Int) == 0) = false := by simp; omega
      have t4 : ((e2 : Int) != 0) = true := by simp; omega
      clear hz
      subst hw3
      go_enter Try.func116, Try.ntmps116
      go_wp2_with (first
        | (go_at_call 189; refine CW.out.mono ?_; rintro e w4 ⟨rfl, ⟨a4, c4, hR4⟩, ⟨v4, hq4, ho4⟩, hM4⟩; have z0 := hq4.c; have z1 := hq4.f; have p0 := cell_mut g0 hM4 (fun e => by rcases e with e | e; exact absurd (show w.heap.size = s from e) (by omega); exact absurd (show w.heap.size = w.heap.size + 1 + 1 from e) (by omega)))
        | (go_at_call 194; (with_reducible refine (rErr_is hR4 HWE).mono ?_); rintro e w' ⟨rfl, rfl⟩))
      have y0 := World.cell?_setCell_same w4 _ (.slice none 0 0) z0
      have hM5 := hM4.trans ((mut1 (s := w.heap.size + 1 + 1) (i := 0) (v := .slice none 0 0)).mono (fun k _ e => .inr e))
      exact bodyPost_ret (v := .slice none 0 0) (by simp [results, Try.results116, go_sem, y0]) rfl ⟨⟨_, rfl, by rw [HP1.out.1]; exact OwnP.nil _ _⟩, ⟨a4, c4, by rw [HP1.out.2]; exact hR4.mutT (G := fun k => k = w.heap.size + 1 + 1) mut1 (fun k e => by rw [e]; omega)⟩, hM5.weak HB.out (fun k hk e => by rcases e with e | e; exact e; omega)⟩
  · have HK := hid (rPids_skip (most := most) he)
    obtain ⟨e2, he2⟩ : ∃ e2, S.e = e2 := ⟨_, rfl⟩
    have HE2 := hid he2
    rw [he2] at he
    have t1 : decide (e2 = 0) = false := by simpa using he
    have t2 : decide ((e2 : Int) = 0) = false := by simp; omega
    have t3 : ((e2 : Int) == 0) = false := by simp; omega
    have t4 : ((e2 : Int) != 0) = true := by simp; omega
    have CW := hid (wholeL_skip (p0 := .pointer (some ⟨w.heap.size, 0, none⟩)) (p1 := .pointer (some ⟨w.heap.size + 1, 0, none⟩)) (p2 := .pointer (some ⟨w.heap.size + 1 + 1, 0, none⟩)) hR3 (by rw [he2]; exact he))
    have HG2 := hid g2
    have HB := hid hB
    clear g1 g2 he he2 hz3
    subst hw3
    go_enter Try.func116, Try.ntmps116
    go_wp2_with (first
      | (go_at_call 189; refine CW.out.mono ?_; rintro e w4 ⟨rfl, hb4⟩; have hq4 := HG2.out.ext hb4; have z0 := hq4.c; have z1 := hq4.f; have p0 := cell_toB g0 hb4; have hR4 := hR3.ext hb4)
      | (go_at_call 194; (with_reducible refine (rErr_is hR4 HE2).mono ?_); rintro e w' ⟨rfl, rfl⟩))
    have y0 := World.cell?_setCell_same w4 _ (.slice none 0 0) z0
    have hb5 := HB.out.trans (hb4.mono HB.out.size)
    exact bodyPost_ret (v := .slice none 0 0) (by simp [results, Try.results116, go_sem, y0]) rfl ⟨⟨_, rfl, by rw [HK.out]; exact OwnP.nil _ _⟩, ⟨a, c, by rw [HK.out]; exact hR4.mutT (G := fun k => k = w.heap.size + 1 + 1) mut1 (fun k e => by rw [e]; omega)⟩, (mut1 (s := w.heap.size + 1 + 1)).weak hb5 (fun k hk e => by have e : k = w.heap.size + 1 + 1 := e; omega)⟩
set_option maxRecDepth 100000 in
set_option maxHeartbeats 800000 in
theorem rEnd_any {s c : Nat} {a : Option Addr} {S : RS} {w : World} (h : RdIs w s a c S) :
    Calls Try.prog 117 #[.pointer (some ⟨s, 0, none⟩)] w fun e w' => e = .returned (.int .i64 (rEnd S)) ∧ w = w' := by
  obtain ⟨R, hR⟩ : ∃ R, rEnd S = R := ⟨_, rfl⟩
  have HR : Hid (R = if S.e = 0 ∧ 0 < S.b.length then 5 else S.e) := hid hR.symm
  rw [hR]
  clear hR
  have c0 := h.c0
  obtain ⟨e2, he2⟩ : ∃ e2, S.e = e2 := ⟨_, rfl⟩
  obtain ⟨n, hn⟩ : ∃ n, S.b.length = n := ⟨_, rfl⟩
  rw [hn] at c0
  have HE2 := hid he2
  rw [he2, hn] at HR
  clear he2 hn
  by_cases hz : e2 = 0
  · subst hz
    by_cases hl : 0 < n
    · have t1 : decide (0 < n) = true := by simpa using hl
      have t2 : decide ((0 : Int) < n) = true := by simp; omega
      go_enter Try.func117, Try.ntmps117
      go_wp2_with (go_at_call 194; (with_reducible refine (rErr_is h HE2).mono ?_); rintro e w' ⟨rfl, rfl⟩)
      go_ret
      exact ⟨by rw [HR.out]; simp [hl], rfl⟩
    · have t1 : decide (0 < n) = false := by simpa using hl
      have t2 : decide ((0 : Int) < n) = false := by simp; omega
      go_enter Try.func117, Try.ntmps117
      go_wp2_with (go_at_call 194; (with_reducible refine (rErr_is h HE2).mono ?_); rintro e w' ⟨rfl, rfl⟩)
      go_ret
      exact ⟨by rw [HR.out]; simp [hl], rfl⟩
  · have t1 : decide (e2 = 0) = false := by simpa using hz
    have t2 : decide ((e2 : Int) = 0) = false := by simp; omega
    have t3 : ((e2 : Int) == 0) = false := by simp; omega
    have t4 : ((e2 : Int) != 0) = true := by simp; omega
    have HZ := hid hz
    clear hz
    go_enter Try.func117, Try.ntmps117
    go_wp2_with (go_at_call 194; (with_reducible refine (rErr_is h HE2).mono ?_); rintro e w' ⟨rfl, rfl⟩)
    go_ret
    exact ⟨by rw [HR.out]; simp [HZ.out], rfl⟩
set_option maxRecDepth 100000 in
set_option maxHeartbeats 800000 in
theorem read_any {a : Option Addr} {c n : Nat} {bs : List Nat} {w : World} (hn : Hid (bs.length = n)) (hl : n ≤ 549755813888) (hby : ∀ b ∈ bs, b < 256) (hrow : ByteRow w a bs) :
    Calls Try.prog 114 #[.slice a n c] w fun e w' => ∃ s, e = .returned (.pointer (some ⟨s, 0, none⟩)) ∧ w.heap.size ≤ s ∧ (∃ a' c', RdIs w' s a' c' ⟨bs, 0⟩) ∧ Below w.heap.size w w' := by
  have HBY := hid hby
  clear hby
  go_enter Try.func114, Try.ntmps114
  go_wp2_with (go_at_call 184; refine (cloneB_any hn hl hrow).mono ?_; rintro e w1 ⟨v1, rfl, hown1, hb1⟩; have hcap := OwnB.cap hown1; have HCAP := hid hcap; clear hcap; obtain ⟨a1, k1, he1, hr1, -⟩ := hown1.row; subst he1)
  have hlt : ∀ b off, a1 = some ⟨b, off, none⟩ → bs ≠ [] → b < w1.heap.size := fun b off e hne => by
    rcases hr1 with h | ⟨b', o', e', h, _⟩
    · exact absurd h hne
    · rw [e] at e'; cases e'; exact h
  have hlen : bs.length ≤ 70368744177664 := by rw [hn.out]; omega
  go_ret
  exact ⟨w1.heap.size, rfl, hb1.size, ⟨a1, k1, ⟨by simp, by simp, by simp, by simp, hr1.alloc _, hlt, HCAP.out _ _ _ rfl, HBY.out, hlen⟩⟩, hb1.alloc hb1.size _⟩
end Go.Proofs.Ytbpfhclcjedkcaa
