/- Parts of the proof: X18 X25 X26 X27 X31 XL. -/
import Derived.Test.YtbpfhclcjedkcaaSm6
import Derived.Test.YtbpfhclcjedkcaaX16
import Derived.Test.YtbpfhclcjedkcaaX24
namespace Go.Proofs.Ytbpfhclcjedkcaa
open Go.RowKit
theorem rPids_skip {most : Nat} {S : RS} (he : S.e ≠ 0) : rPids most S = ([], S) := by unfold rPids; rw [if_pos he]
theorem rPids_eq {most n : Nat} {S S1 S2 : RS} {L : List Pid} (he : S.e = 0) (h1 : rNum most S = (n, S1)) (h2 : rPidsN n S1 = (L, S2)) : rPids most S = (if S2.e = 0 then L else [], wholeS S S2) := by
  unfold rPids wholeS
  rw [if_neg (by simp [he]), h1]
  simp only
  rw [h2]
  by_cases h : S2.e = 0
  · simp [h]
  · simp [h]
theorem OwnP.mono2 {w : World} {b b' : Nat} {v : Value} {xs : List Pid} (h : OwnP w b v xs) (hb : b' ≤ b) : OwnP w b' v xs := by
  refine ⟨h.1, ?_⟩
  rcases h.2 with hn | ⟨g, cap, cur, rfl, hbb, rest⟩
  · exact .inl hn
  · exact .inr ⟨g, cap, cur, rfl, Nat.le_trans hb hbb, rest⟩
set_option maxRecDepth 100000 in
set_option maxHeartbeats 1600000 in
theorem rPids_any {s c : Nat} {a : Option Addr} {S : RS} {w : World} (most : Nat) (hm : most ≤ 1000) (hR : RdIs w s a c S) :
    Calls Try.prog 116 #[.pointer (some ⟨s, 0, none⟩), .int .i64 most] w fun e w' => (∃ v, e = .returned v ∧ OwnP w' w.heap.size v (rPids most S).1) ∧ (∃ a' c', RdIs w' s a' c' (rPids most S).2) ∧ Mut (fun k => k = s) w w' := by
  have hmf : ∀ (fn : Fn) (first cap : Array Value) (w : World), (Instr.makeFunc fn first cap).run Try.prog w = .ok (.func fn first cap) w := fun _ _ _ _ => rfl
  have hB : Below w.heap.size w (((w.alloc (.cells #[.pointer (some ⟨s, 0, none⟩)] 167)).alloc (.cells #[.int .i64 most] 3)).alloc (.cells #[.slice none 0 0] 30)) := (((Below.refl _ _).alloc (Nat.le_refl _) _).alloc (by simp) _).alloc (by simp; omega) _
  have hR3 := hR.ext hB
  have g0 : (((w.alloc (.cells #[.pointer (some ⟨s, 0, none⟩)] 167)).alloc (.cells #[.int .i64 most] 3)).alloc (.cells #[.slice none 0 0] 30)).cell? ⟨w.heap.size, 0, none⟩ = some (.pointer (some ⟨s, 0, none⟩)) := three0 _ _ _ _ (by simp)
  have g1 : (((w.alloc (.cells #[.pointer (some ⟨s, 0, none⟩)] 167)).alloc (.cells #[.int .i64 most] 3)).alloc (.cells #[.slice none 0 0] 30)).cell? ⟨w.heap.size + 1, 0, none⟩ = some (.int .i64 most) := three1 _ _ _ _ (by simp)
  have g2 : Cell1 (((w.alloc (.cells #[.pointer (some ⟨s, 0, none⟩)] 167)).alloc (.cells #[.int .i64 most] 3)).alloc (.cells #[.slice none 0 0] 30)) (w.heap.size + 1 + 1) (.slice none 0 0) := by
    have := Cell1.made ((w.alloc (.cells #[.pointer (some ⟨s, 0, none⟩)] 167)).alloc (.cells #[.int .i64 most] 3)) 30 (.slice none 0 0)
    simpa using this
  obtain ⟨w3, hw3⟩ : ∃ w3, (((w.alloc (.cells #[.pointer (some ⟨s, 0, none⟩)] 167)).alloc (.cells #[.int .i64 most] 3)).alloc (.cells #[.slice none 0 0] 30)) = w3 := ⟨_, rfl⟩
  rw [hw3] at hB hR3 g0 g1 g2
  have hs := hR.lt
  have hz3 := g2.lt
  by_cases he : S.e = 0
  · obtain ⟨⟨n, S1⟩, h1⟩ : ∃ q, rNum most S = q := ⟨_, rfl⟩
    obtain ⟨⟨L, S2⟩, h2⟩ : ∃ q, rPidsN n S1 = q := ⟨_, rfl⟩
    have HP := hid (rPids_eq he h1 h2)
    have H1 := hid h1
    have H2 := hid h2
    have H : Hid (∀ W, Below w3.heap.size w3 W → Calls Try.prog 192 #[.pointer (some ⟨w.heap.size, 0, none⟩), .pointer (some ⟨w.heap.size + 1, 0, none⟩), .pointer (some ⟨w.heap.size + 1 + 1, 0, none⟩)] W fun e W' => e = .returned (.tuple #[]) ∧ (∃ a' c', RdIs W' s a' c' S2) ∧ (∃ v', Cell1 W' (w.heap.size + 1 + 1) v' ∧ OwnP W' w3.heap.size v' L) ∧ Mut (fun k => k = s ∨ k = w.heap.size + 1 + 1) W W') := hid fun W h => ((pidsC_any H1 H2 hm (hR3.ext h) (cell_toB g0 h) (cell_toB g1 h) (g2.ext h) (by omega) (by omega) (by omega)).mono fun e W' ⟨q1, q2, ⟨v', q3, q4⟩, q5⟩ => ⟨q1, q2, ⟨v', q3, OwnP.mono2 q4 h.size⟩, q5⟩)
    have CW := hid (wholeL_any (G := fun k => k = s ∨ k = w.heap.size + 1 + 1) (Q := fun W => ∃ v', Cell1 W (w.heap.size + 1 + 1) v' ∧ OwnP W w3.heap.size v' L) hR3 he (.inl rfl) (fun k hk => by rcases hk with rfl | rfl <;> omega) H (fun W W' ⟨v', h1, h2⟩ hm => ⟨v', h1.mutT hm (fun e => by have e : w.heap.size + 1 + 1 = s := e; omega), h2.mutT hm (fun k e => by have e : k = s := e; omega)⟩))
    have HB := hid hB
    have HZ3 := hid hz3
    clear h1 h2 g1 g2 he hz3
    obtain ⟨e2, he2⟩ : ∃ e2, S2.e = e2 := ⟨_, rfl⟩
    have hwe : (wholeS S S2).e = e2 := by unfold wholeS; split <;> first | exact he2 | (simp only; exact he2)
    have HWE := hid hwe
    have HE2 := hid he2
    clear hwe he2
    by_cases hz : e2 = 0
    · subst hz
      have HP1 : Hid ((rPids most S).1 = L ∧ (rPids most S).2 = wholeS S S2) := hid (by rw [HP.out, if_pos HE2.out]; exact ⟨rfl, rfl⟩)
      have HZs : Hid (w.heap.size + 1 + 1 < w3.heap.size) := HZ3
      subst hw3
      go_enter Try.func116, Try.ntmps116
      go_wp2_with (first
        | (go_at_call 189; refine CW.out.mono ?_; rintro e w4 ⟨rfl, ⟨a4, c4, hR4⟩, ⟨v4, hq4, ho4⟩, hM4⟩; obtain ⟨q1, k1, hev, hrw, -⟩ := ho4.row; subst hev; have z0 := hq4.c; have z1 := hq4.f; have p0 := cell_mut g0 hM4 (fun e => by rcases e with e | e; exact absurd (show w.heap.size = s from e) (by omega); exact absurd (show w.heap.size = w.heap.size + 1 + 1 from e) (by omega)))
        | (go_at_call 194; (with_reducible refine (rErr_is hR4 HWE).mono ?_); rintro e w' ⟨rfl, rfl⟩))
      have y0 := World.cell?_setCell_same w4 _ (.slice q1 L.length k1) z0
      have hM5 := hM4.trans ((mut1 (s := w.heap.size + 1 + 1) (i := 0) (v := .slice q1 L.length k1)).mono (fun k _ e => .inr e))
      exact bodyPost_ret (v := .slice q1 L.length k1) (by simp [results, Try.results116, go_sem, y0]) rfl ⟨⟨_, rfl, by rw [HP1.out.1]; exact OwnP.mono2 (ho4.mutT (mut1 (s := w.heap.size + 1 + 1)) (fun k e => by rw [e]; exact HZs.out)) (by have := HZs.out; omega)⟩, ⟨a4, c4, by rw [HP1.out.2]; exact hR4.mutT (G := fun k => k = w.heap.size + 1 + 1) mut1 (fun k e => by rw [e]; omega)⟩, hM5.weak HB.out (fun k hk e => by rcases e with e | e; exact e; omega)⟩
    · have HP1 : Hid ((rPids most S).1 = [] ∧ (rPids most S).2 = wholeS S S2) := hid (by rw [HP.out, if_neg (by rw [HE2.out]; exact hz)]; exact ⟨rfl, rfl⟩)
      have t1 : decide (e2 = 0) = false := by simpa using hz
      have t2 : decide ((e2 : Int) = 0) = false := by simp; omega
      have t3 : ((e2 : Int) == 0) = false := by simp; omega
      have t4 : ((e2 : Int) != 0) = true := by simp; omega
      clear hz
      subst hw3
      go_enter Try.func116, Try.ntmps116
      go_wp2_with (first
        | (go_at_call 189; refine CW.out.mono ?_; rintro e w4 ⟨rfl, ⟨a4, c4, hR4⟩, ⟨v4, hq4, ho4⟩, hM4⟩; have z0 := hq4.c; have z1 := hq4.f; have p0 := cell_mut g0 hM4 (fun e => by rcases e with e | e; exact absurd (show w.heap.size = s from e) (by omega); exact absurd (show w.heap.size = w.heap.size + 1 + 1 from e) (by omega)))
        | (go_at_call 194; (with_reducible refine (rErr_is hR4 HWE).mono ?_); rintro e w' ⟨rfl, rfl⟩))
      have y0 := World.cell?_setCell_same w4 _ (.slice none 0 0) z0
      have hM5 := hM4.trans ((mut1 (s := w.heap.size + 1 + 1) (i := 0) (v := .slice none 0 0)).mono (fun k _ e => .inr e))
      exact bodyPost_ret (v := .slice none 0 0) (by simp [results, Try.results116, go_sem, y0]) rfl ⟨⟨_, rfl, by rw [HP1.out.1]; exact OwnP.nil _ _⟩, ⟨a4, c4, by rw [HP1.out.2]; exact hR4.mutT (G := fun k => k = w.heap.size + 1 + 1) mut1 (fun k e => by rw [e]; omega)⟩, hM5.weak HB.out (fun k hk e => by rcases e with e | e; exact e; omega)⟩
  · have HK := hid (rPids_skip (most := most) he)
    obtain ⟨e2, he2⟩ : ∃ e2, S.e = e2 := ⟨_, rfl⟩
    have HE2 := hid he2
    rw [he2] at he
    have t1 : decide (e2 = 0) = false := by simpa using he
    have t2 : decide ((e2 : Int) = 0) = false := by simp; omega
    have t3 : ((e2 : Int) == 0) = false := by simp; omega
    have t4 : ((e2 : Int) != 0) = true := by simp; omega
    have CW := hid (wholeL_skip (p0 := .pointer (some ⟨w.heap.size, 0, none⟩)) (p1 := .pointer (some ⟨w.heap.size + 1, 0, none⟩)) (p2 := .pointer (some ⟨w.heap.size + 1 + 1, 0, none⟩)) hR3 (by rw [he2]; exact he))
    have HG2 := hid g2
    have HB := hid hB
    clear g1 g2 he he2 hz3
    subst hw3
    go_enter Try.func116, Try.ntmps116
    go_wp2_with (first
      | (go_at_call 189; refine CW.out.mono ?_; rintro e w4 ⟨rfl, hb4⟩; have hq4 := HG2.out.ext hb4; have z0 := hq4.c; have z1 := hq4.f; have p0 := cell_toB g0 hb4; have hR4 := hR3.ext hb4)
      | (go_at_call 194; (with_reducible refine (rErr_is hR4 HE2).mono ?_); rintro e w' ⟨rfl, rfl⟩))
    have y0 := World.cell?_setCell_same w4 _ (.slice none 0 0) z0
    have hb5 := HB.out.trans (hb4.mono HB.out.size)
    exact bodyPost_ret (v := .slice none 0 0) (by simp [results, Try.results116, go_sem, y0]) rfl ⟨⟨_, rfl, by rw [HK.out]; exact OwnP.nil _ _⟩, ⟨a, c, by rw [HK.out]; exact hR4.mutT (G := fun k => k = w.heap.size + 1 + 1) mut1 (fun k e => by rw [e]; omega)⟩, (mut1 (s := w.heap.size + 1 + 1)).weak hb5 (fun k hk e => by have e : k = w.heap.size + 1 + 1 := e; omega)⟩
set_option maxRecDepth 100000 in
set_option maxHeartbeats 800000 in
theorem rEnd_any {s c : Nat} {a : Option Addr} {S : RS} {w : World} (h : RdIs w s a c S) :
    Calls Try.prog 117 #[.pointer (some ⟨s, 0, none⟩)] w fun e w' => e = .returned (.int .i64 (rEnd S)) ∧ w = w' := by
  obtain ⟨R, hR⟩ : ∃ R, rEnd S = R := ⟨_, rfl⟩
  have HR : Hid (R = if S.e = 0 ∧ 0 < S.b.length then 5 else S.e) := hid hR.symm
  rw [hR]
  clear hR
  have c0 := h.c0
  obtain ⟨e2, he2⟩ : ∃ e2, S.e = e2 := ⟨_, rfl⟩
  obtain ⟨n, hn⟩ : ∃ n, S.b.length = n := ⟨_, rfl⟩
  rw [hn] at c0
  have HE2 := hid he2
  rw [he2, hn] at HR
  clear he2 hn
  by_cases hz : e2 = 0
  · subst hz
    by_cases hl : 0 < n
    · have t1 : decide (0 < n) = true := by simpa using hl
      have t2 : decide ((0 : Int) < n) = true := by simp; omega
      go_enter Try.func117, Try.ntmps117
      go_wp2_with (go_at_call 194; (with_reducible refine (rErr_is h HE2).mono ?_); rintro e w' ⟨rfl, rfl⟩)
      go_ret
      exact ⟨by rw [HR.out]; simp [hl], rfl⟩
    · have t1 : decide (0 < n) = false := by simpa using hl
      have t2 : decide ((0 : Int) < n) = false := by simp; omega
      go_enter Try.func117, Try.ntmps117
      go_wp2_with (go_at_call 194; (with_reducible refine (rErr_is h HE2).mono ?_); rintro e w' ⟨rfl, rfl⟩)
      go_ret
      exact ⟨by rw [HR.out]; simp [hl], rfl⟩
  · have t1 : decide (e2 = 0) = false := by simpa using hz
    have t2 : decide ((e2 : Int) = 0) = false := by simp; omega
    have t3 : ((e2 : Int) == 0) = false := by simp; omega
    have t4 : ((e2 : Int) != 0) = true := by simp; omega
    have HZ := hid hz
    clear hz
    go_enter Try.func117, Try.ntmps117
    go_wp2_with (go_at_call 194; (with_reducible refine (rErr_is h HE2).mono ?_); rintro e w' ⟨rfl, rfl⟩)
    go_ret
    exact ⟨by rw [HR.out]; simp [HZ.out], rfl⟩
set_option maxRecDepth 100000 in
set_option maxHeartbeats 800000 in
theorem read_any {a : Option Addr} {c n : Nat} {bs : List Nat} {w : World} (hn : Hid (bs.length = n)) (hl : n ≤ 549755813888) (hby : ∀ b ∈ bs, b < 256) (hrow : ByteRow w a bs) :
    Calls Try.prog 114 #[.slice a n c] w fun e w' => ∃ s, e = .returned (.pointer (some ⟨s, 0, none⟩)) ∧ w.heap.size ≤ s ∧ (∃ a' c', RdIs w' s a' c' ⟨bs, 0⟩) ∧ Below w.heap.size w w' := by
  have HBY := hid hby
  clear hby
  go_enter Try.func114, Try.ntmps114
  go_wp2_with (go_at_call 184; refine (cloneB_any hn hl hrow).mono ?_; rintro e w1 ⟨v1, rfl, hown1, hb1⟩; have hcap := OwnB.cap hown1; have HCAP := hid hcap; clear hcap; obtain ⟨a1, k1, he1, hr1, -⟩ := hown1.row; subst he1)
  have hlt : ∀ b off, a1 = some ⟨b, off, none⟩ → bs ≠ [] → b < w1.heap.size := fun b off e hne => by
    rcases hr1 with h | ⟨b', o', e', h, _⟩
    · exact absurd h hne
    · rw [e] at e'; cases e'; exact h
  have hlen : bs.length ≤ 70368744177664 := by rw [hn.out]; omega
  go_ret
  exact ⟨w1.heap.size, rfl, hb1.size, ⟨a1, k1, ⟨by simp, by simp, by simp, by simp, hr1.alloc _, hlt, HCAP.out _ _ _ rfl, HBY.out, hlen⟩⟩, hb1.alloc hb1.size _⟩
end Go.Proofs.Ytbpfhclcjedkcaa

namespace Go.Proofs.Ytbpfhclcjedkcaa
open Go.RowKit

/-! ### view.Put's closure: a row as places -/
def rankS (S : List (Pid × Int)) (p : Pid) : List Nat := short ((look p S).getD 0).toNat
theorem take_flatS {S : List (Pid × Int)} {l : List Pid} {k : Nat} (h : k < l.length) {p : Pid} (hp : p = l[k]) : (l.take (k + 1)).flatMap (rankS S) = (l.take k).flatMap (rankS S) ++ rankS S p := by
  rw [List.take_succ_eq_append_getElem h, List.flatMap_append, hp]; simp
theorem flat_rankS_len {S : List (Pid × Int)} (hS : ∀ p, 0 ≤ (look p S).getD 0 ∧ (look p S).getD 0 < 4611686018427387904) : ∀ (l : List Pid), (l.flatMap (rankS S)).length ≤ l.length * 10
  | [] => by simp
  | p :: l => by
    have h1 := flat_rankS_len hS l
    have h2 : (rankS S p).length ≤ 10 := short_len10 (by have := (hS p).2; have := (hS p).1; omega)
    rw [List.flatMap_cons, List.length_append, List.length_cons]; omega
set_option maxRecDepth 100000 in
set_option maxHeartbeats 3200000 in
theorem putC_any {s g1 g2 r : Nat} {v : Value} {bs : List Nat} {S : List (Pid × Int)} {a : Option Addr} {c n : Nat} {l : List Pid} {w : World} (hW : WrIs w s v bs) (hl : bs.length ≤ 34359738368) (hn : Hid (l.length = n)) (hnl : n ≤ 1073741824)
    (hS : ∀ p, 0 ≤ (look p S).getD 0 ∧ (look p S).getD 0 < 4611686018427387904) (hrow : PidRow w a l) (hne : ∀ b off, a = some ⟨b, off, none⟩ → l ≠ [] → b ≠ s)
    (hp1 : w.cell? ⟨g1, 0, none⟩ = some (.pointer (some ⟨s, 0, none⟩))) (hp2 : w.cell? ⟨g2, 0, none⟩ = some (.map (some r))) (hM : MapIs w r pidV eI S) (h1 : g1 ≠ s) (h2 : g2 ≠ s) (hr : r ≠ s) :
    Calls Try.prog 183 #[.slice a n c, .pointer (some ⟨g1, 0, none⟩), .pointer (some ⟨g2, 0, none⟩)] w fun e w' => e = .returned (.tuple #[]) ∧ ∃ v', Wrote w w' s v' (bs ++ (short n ++ l.flatMap (rankS S))) := by
  have hln := short_len10 (n := n) (by omega)
  have C1 : Hid (Calls Try.prog 91 #[.pointer (some ⟨s, 0, none⟩), .int .u64 n] w fun e w' => e = .returned (.tuple #[]) ∧ ∃ v', Wrote w w' s v' (bs ++ short n)) := hid (wNum_any n hW (by omega) (by omega))
  have hs := hW.lt
  have hfl := flat_rankS_len hS
  have HFL := hid hfl
  have HSS := hid hS
  have HROW := hid hrow
  have HNE := hid hne
  have H1 := hid h1
  have H2 := hid h2
  have HRS := hid hr
  obtain ⟨B, hB⟩ : ∃ B, bs ++ short n = B := ⟨_, rfl⟩
  have hBl : B.length ≤ 34359738378 := by rw [← hB, List.length_append]; omega
  have HE : Hid (bs ++ (short n ++ l.flatMap (rankS S)) = B ++ l.flatMap (rankS S)) := hid (by rw [← hB, List.append_assoc])
  rw [hB] at C1
  have HM := hid hM
  have HP1 := hid hp1
  have HP2 := hid hp2
  have ewn : IntKind.u64.wrap ((n : Nat) : Int) = ((n : Nat) : Int) := by rw [IntKind.wrap_u64]; omega
  clear hrow hne hB hfl hS h1 h2 hr hM
  go_enter Try.func183, Try.ntmps183
  go_wp2_with (go_at_call 91; refine C1.out.mono ?_; rintro e w1 ⟨rfl, v1, hw1⟩)
  have HW1 := hid hw1
  clear hw1 ewn
  go_loopw [13] (fun i wr => ∃ (k : Nat) (vk : Value), k ≤ n ∧ i = .int .i64 k ∧ Hid (Wrote w wr s vk (B ++ (l.take k).flatMap (rankS S)))) (fun i _ => n - (intOf i).toNat)
  case atStart => exact ⟨0, v1, Nat.zero_le _, rfl, hid (by simpa using HW1.out)⟩
  case round =>
    obtain ⟨k, vk, hk, rfl, hWk⟩ := hrel
    by_cases hlt : k < n
    · have hlt' : decide (k < n) = true := by simpa using hlt
      have hkl : k < l.length := by rw [hn.out]; exact hlt
      obtain ⟨pb, po, x, y, rfl, hx, d1, d2⟩ := (HROW.out.mutT hWk.out.mt (fun b off h1 h2 => HNE.out b off h1 h2)).at (Below.refl _ _) rfl hkl
      obtain ⟨q, hq⟩ : ∃ q : Nat, (look (x, y) S).getD 0 = (q : Int) := ⟨((look (x, y) S).getD 0).toNat, by have := (HSS.out (x, y)).1; omega⟩
      have hq62 : q < 4611686018427387904 := by have := (HSS.out (x, y)).2; omega
      have HT : Hid (B ++ (l.take (k + 1)).flatMap (rankS S) = (B ++ (l.take k).flatMap (rankS S)) ++ short q) := hid (by rw [take_flatS hkl hx, rankS, hq]; simp)
      have hlen : (B ++ (l.take k).flatMap (rankS S)).length ≤ 68719476736 := by
        have h1 := HFL.out (l.take k)
        rw [List.length_take] at h1
        rw [List.length_append]; omega
      have hqq : Below wr.heap.size wr (wr.alloc (.cells #[.int .u16 x, .int .u32 y] 26)) := (Below.refl _ _).alloc (Nat.le_refl _) _
      have HQD := hid hqq.drew
      have C2 : Hid (Calls Try.prog 91 #[.pointer (some ⟨s, 0, none⟩), .int .u64 q] (wr.alloc (.cells #[.int .u16 x, .int .u32 y] 26)).drew fun e w' => e = .returned (.tuple #[]) ∧ ∃ v', Wrote (wr.alloc (.cells #[.int .u16 x, .int .u32 y] 26)).drew w' s v' (B ++ (l.take (k + 1)).flatMap (rankS S))) := hid (by rw [HT.out]; exact wNum_any q (hWk.out.wr.ext hqq.drew) (by omega) (by omega))
      have hsw : s < wr.heap.size := hWk.out.wr.lt
      have hMr : MapIs wr r pidV eI S := HM.out.same (hWk.out.mt.block r HM.out.lt HRS.out)
      have hc1 : wr.cell? ⟨g1, 0, none⟩ = some (.pointer (some ⟨s, 0, none⟩)) := cell_mut HP1.out hWk.out.mt H1.out
      have hc2 : wr.cell? ⟨g2, 0, none⟩ = some (.map (some r)) := cell_mut HP2.out hWk.out.mt H2.out
      have hne9 : wr.heap.size ≠ s := by omega
      have HS : Hid (∀ W, Mut (fun k => k = s) (wr.alloc (.cells #[.int .u16 x, .int .u32 y] 26)) W → W.cell? ⟨g1, 0, none⟩ = some (.pointer (some ⟨s, 0, none⟩)) ∧ W.cell? ⟨g2, 0, none⟩ = some (.map (some r)) ∧ W.cell? ⟨wr.heap.size, 0, none⟩ = some (.int .u16 x) ∧ W.cell? ⟨wr.heap.size, 1, none⟩ = some (.int .u32 y) ∧ MapIs W r pidV eI S) := hid fun W h =>
        ⟨cell_mut (cell_toB hc1 hqq) h H1.out, cell_mut (cell_toB hc2 hqq) h H2.out, cell_mut (by simp) h hne9, cell_mut (by simp) h hne9, (hMr.ext hqq).same (h.block r (hMr.ext hqq).lt HRS.out)⟩
      have hlk : ∀ W, MapIs W r pidV eI S → (Instr.lookup 134 (.map (some r)) (.agg #[.int .u16 x, .int .u32 y]) false).run Try.prog W = .ok (.int .i64 (q : Nat)) W := fun W h => by
        have := h.lookup_no keyPid Try.underlying134 (zero3 W) (x, y)
        rw [look_int, hq] at this
        exact this
      have ew : IntKind.u64.wrap ((q : Nat) : Int) = ((q : Nat) : Int) := by rw [IntKind.wrap_u64]; omega
      have HMD := hid ((Mut.refl (fun k => k = s) (wr.alloc (.cells #[.int .u16 x, .int .u32 y] 26))).drew)
      have HX := hid hx
      have HQ := hid hq
      clear hx hlen hMr hc1 hc2 hqq hq hq62
      go_wp2_with fail
      go_region_held3 (fun W => W.cell? ⟨g1, 0, none⟩ = some (.pointer (some ⟨s, 0, none⟩)) ∧ W.cell? ⟨g2, 0, none⟩ = some (.map (some r)) ∧ W.cell? ⟨wr.heap.size, 0, none⟩ = some (.int .u16 x) ∧ W.cell? ⟨wr.heap.size, 1, none⟩ = some (.int .u32 y) ∧ MapIs W r pidV eI S) (first | exact HS.out _ HMD.out | exact HS.out _ (by assumption)) (first
        | ((go_at_call 91; (with_reducible refine C2.out.mono ?_); rintro e w2 ⟨rfl, v2, hw2⟩; have hm2 := HMD.out.trans hw2.mt; have hw3 := hid (hWk.out.trans HQD.out hw2); clear hw2)))
      all_goals (
        clear ew hlk
        go_wp2
        go_roundw
        case rel => exact ⟨k + 1, v2, by omega, by go_num, hw3⟩
        case measure => simp [intOf]; omega)
    · have hlt' : decide (k < n) = false := by simpa using hlt
      have hend := hWk.out
      rw [List.take_of_length_le (by rw [hn.out]; omega), ← HE.out] at hend
      have HEND := hid hend
      clear hend
      go_wp2
      exact bodyPost_end (results_none rfl _ _ _) rfl ⟨rfl, _, HEND.out⟩
end Go.Proofs.Ytbpfhclcjedkcaa

namespace Go.Proofs.Ytbpfhclcjedkcaa
open Go.RowKit

/-! ### view.Put -/
theorem atIx_neg {ms : List Pid} {p : Pid} (h : p ∉ ms) : atIx ms p < 0 := atFrom_neg.2 h
theorem rankS_F (ms : List Pid) (p : Pid) : rankS (ranksL ms) p = rankF ms p := by
  unfold rankS rankF
  rw [look_ranksL]
  unfold rankO
  by_cases h : atIx ms p < 0
  · rw [if_pos h]
    have : (atIx ms p).toNat = 0 := by omega
    rw [this]; rfl
  · rw [if_neg h]; rfl
theorem flat_rankS_F (ms l : List Pid) : l.flatMap (rankS (ranksL ms)) = l.flatMap (rankF ms) := by
  rw [show rankS (ranksL ms) = rankF ms from funext (rankS_F ms)]
theorem rankS_bound {ms : List Pid} (h : ms.length ≤ 1000) (p : Pid) : 0 ≤ (look p (ranksL ms)).getD 0 ∧ (look p (ranksL ms)).getD 0 < 4611686018427387904 := by
  rw [look_ranksL]
  unfold rankO
  by_cases hp : p ∈ ms
  · obtain ⟨h1, h2, -⟩ := atIx_get hp
    rw [if_neg (by omega)]
    show 0 ≤ atIx ms p ∧ atIx ms p < 4611686018427387904
    omega
  · rw [if_pos (atIx_neg hp)]
    exact ⟨by decide, by decide⟩
/-- a row of an earlier world is no block of a later one -/
theorem PidRow.far {w : World} {a : Option Addr} {l : List Pid} (h : PidRow w a l) {s : Nat} (hs : w.heap.size ≤ s) : ∀ b off, a = some ⟨b, off, none⟩ → l ≠ [] → b ≠ s := by
  rintro b off rfl hl
  rcases h with rfl | ⟨b', off', e, hlt, -⟩
  · exact absurd rfl hl
  · cases e; omega
theorem placesF_len {ms l : List Pid} (hm : ms.length ≤ 1000) (hl : l.length ≤ 1000) : (placesF ms l).length ≤ 10010 := by
  unfold placesF
  have h1 := short_len10 (n := l.length) (by omega)
  have h2 := flat_rankS_len (S := ranksL ms) (rankS_bound hm) l
  rw [flat_rankS_F] at h2
  rw [List.length_append]; omega
theorem flat_places_len {ms : List Pid} (hm : ms.length ≤ 1000) : ∀ (ls : List (List Pid)), (∀ l ∈ ls, l.length ≤ 1000) → (ls.flatMap (placesF ms)).length ≤ ls.length * 10010
  | [], _ => by simp
  | l :: ls, h => by
    have h1 := flat_places_len hm ls (fun x hx => h x (by simp [hx]))
    have h2 := placesF_len hm (h l (by simp))
    rw [List.flatMap_cons, List.length_append, List.length_cons]; omega
theorem take_places {ms : List Pid} {ls : List (List Pid)} {k : Nat} (h : k < ls.length) {l : List Pid} (hl : l = ls[k]) : (ls.take (k + 1)).flatMap (placesF ms) = (ls.take k).flatMap (placesF ms) ++ placesF ms l := by
  rw [List.take_succ_eq_append_getElem h, List.flatMap_append, hl]; simp
theorem putC_F {s g1 g2 r : Nat} {v : Value} {bs : List Nat} {ms : List Pid} {a : Option Addr} {c : Nat} {l : List Pid} {w w0 : World} (hW : WrIs w s v bs) (hl : bs.length ≤ 34359738368) (hnl : l.length ≤ 1000) (hm : ms.length ≤ 1000) (hrow : PidRow w0 a l) (h0 : Below w0.heap.size w0 w) (hs0 : w0.heap.size ≤ s)
    (hp1 : w.cell? ⟨g1, 0, none⟩ = some (.pointer (some ⟨s, 0, none⟩))) (hp2 : w.cell? ⟨g2, 0, none⟩ = some (.map (some r))) (hM : MapIs w r pidV eI (ranksL ms)) (h1 : g1 ≠ s) (h2 : g2 ≠ s) (hr : r ≠ s) :
    Calls Try.prog 183 #[.slice a l.length c, .pointer (some ⟨g1, 0, none⟩), .pointer (some ⟨g2, 0, none⟩)] w fun e w' => e = .returned (.tuple #[]) ∧ ∃ v', Wrote w w' s v' (bs ++ placesF ms l) := by
  have := putC_any (c := c) hW hl (hid rfl) (by omega) (rankS_bound hm) (hrow.ext h0) (hrow.far hs0) hp1 hp2 hM h1 h2 hr
  rw [flat_rankS_F] at this
  exact this
end Go.Proofs.Ytbpfhclcjedkcaa

namespace Go.Proofs.Ytbpfhclcjedkcaa
open Go.RowKit

/-! ### view.Put, where the view may be -/
theorem Wrote.step {w w1 w2 : World} {s : Nat} {v1 v2 : Value} {b1 b2 : List Nat} (h : Wrote w w1 s v1 b1) (h2 : Wrote w1 w2 s v2 b2) : Wrote w w2 s v2 b2 := h.trans (Below.refl _ _) h2
theorem ranks_is {V : View} {am al ad : Option Addr} {cm cl cd : Nat} {w : World} (hV : ViewR w am al ad V) :
   Calls Try.prog 83 #[.agg #[.int .u64 V.id, .slice am V.ms.length cm, .slice al V.ls.length cl, .slice ad V.ds.length cd]] w fun e w' => ∃ r, e = .returned (.map (some r)) ∧ w.heap.size ≤ r ∧ Below w.heap.size w w' ∧ MapIs w' r pidV eI (ranksL V.ms) := ranks_any V am al ad cm cl cd w hV

theorem Wrote.pre {w w1 w2 : World} {s : Nat} {v : Value} {bs : List Nat} (hb : Below w.heap.size w w1) (h : Wrote w1 w2 s v bs) : Wrote w w2 s v bs :=
  ⟨h.wr, h.own.mono hb.size, (Mut.of_below hb).trans h.mt⟩
/-- what the rest of view.Put leans on -/
structure PutS (w0 W : World) (s g1 g2 r b i : Nat) (V : View) (am al ad : Option Addr) (cm cl cd : Nat) : Prop where
  c1 : W.cell? ⟨g1, 0, none⟩ = some (.pointer (some ⟨s, 0, none⟩))
  c2 : W.cell? ⟨g2, 0, none⟩ = some (.map (some r))
  y0 : W.cell? ⟨b, 0, none⟩ = some (.int .u64 i)
  y1 : W.cell? ⟨b, 1, none⟩ = some (.slice am V.ms.length cm)
  y2 : W.cell? ⟨b, 2, none⟩ = some (.slice al V.ls.length cl)
  y3 : W.cell? ⟨b, 3, none⟩ = some (.slice ad V.ds.length cd)
  M : MapIs W r pidV eI (ranksL V.ms)
  n1 : g1 ≠ s
  n2 : g2 ≠ s
  nr : r ≠ s
  nb : b ≠ s
  b0 : Below w0.heap.size w0 W
  hs : w0.heap.size ≤ s
theorem PutS.mut {w0 W W' : World} {s g1 g2 r b i : Nat} {V : View} {am al ad : Option Addr} {cm cl cd : Nat} (h : PutS w0 W s g1 g2 r b i V am al ad cm cl cd) (hm : Mut (fun k => k = s) W W') : PutS w0 W' s g1 g2 r b i V am al ad cm cl cd :=
  ⟨cell_mut h.c1 hm h.n1, cell_mut h.c2 hm h.n2, cell_mut h.y0 hm h.nb, cell_mut h.y1 hm h.nb, cell_mut h.y2 hm h.nb, cell_mut h.y3 hm h.nb, h.M.same (hm.block r h.M.lt h.nr), h.n1, h.n2, h.nr, h.nb, h.b0.trans (hm.below h.b0.size (fun _k e => e ▸ h.hs)), h.hs⟩

set_option maxRecDepth 100000 in
set_option maxHeartbeats 6400000 in
theorem viewPut_any {s : Nat} {v : Value} {bs : List Nat} {V : View} {i : Nat} {am al ad : Option Addr} {cm cl cd : Nat} {w0 w : World} (hi : V.id = (i : Int)) (hi64 : i < 18446744073709551616) (hW : WrIs w s v bs) (hl : bs.length ≤ 1000000)
    (hV : ViewR w0 am al ad V) (h0 : Below w0.heap.size w0 w) (hs0 : w0.heap.size ≤ s) (hok : ∀ p ∈ V.ms, okP p) (hlm : V.ms.length ≤ 1000) (hll : V.ls.length ≤ 1000) (hld : V.ds.length ≤ 1000) (hle : ∀ l ∈ V.ls, l.length ≤ 1000) (hsum : lens V.ls ≤ 549755813888) (hc : checkB V = true) :
   Calls Try.prog 97 #[.pointer (some ⟨s, 0, none⟩), .agg #[.int .u64 i, .slice am V.ms.length cm, .slice al V.ls.length cl, .slice ad V.ds.length cd]] w fun e w' => e = .returned (.tuple #[]) ∧ ∃ v', Wrote w w' s v' (bs ++ viewF V) := by
  have hs := hW.lt
  obtain ⟨W2, hW2⟩ : ∃ W2, ((w.alloc (.cells #[.pointer (some ⟨s, 0, none⟩)] 144)).alloc (.cells #[.int .u64 i, .slice am V.ms.length cm, .slice al V.ls.length cl, .slice ad V.ds.length cd] 33)) = W2 := ⟨_, rfl⟩
  have hB2 : Below w.heap.size w W2 := by rw [← hW2]; exact ((Below.refl _ _).alloc (Nat.le_refl _) _).alloc (by simp) _
  have xg : W2.cell? ⟨w.heap.size, 0, none⟩ = some (.pointer (some ⟨s, 0, none⟩)) := by rw [← hW2]; simp
  have xv : ViewBox W2 (w.heap.size + 1) V am al ad cm cl cd := by
    rw [← hW2]
    have := ViewBox.made (V := V) (am := am) (al := al) (ad := ad) (cm := cm) (cl := cl) (cd := cd) (w.alloc (.cells #[.pointer (some ⟨s, 0, none⟩)] 144))
    rw [hi] at this
    simpa using this
  have hz2 : W2.heap.size = w.heap.size + 1 + 1 := by rw [← hW2]; simp
  have hb2 : Below w0.heap.size w0 W2 := h0.trans (hB2.mono h0.size)
  have HB02 := hid hb2
  have hV2 : ViewR W2 am al ad V := hV.ext hb2
  have HC := hid hc
  have CK : Hid (Calls Try.prog 22 #[.agg #[.int .u64 i, .slice am V.ms.length cm, .slice al V.ls.length cl, .slice ad V.ds.length cd]] W2 fun e w' => e = .returned (.int .i64 0) ∧ Below W2.heap.size W2 w') := hid (by
    have := check_is (k := 0) (cm := cm) (cl := cl) (cd := cd) HC rfl hV2 hsum
    rw [hi] at this; exact this)
  have CR : Hid (∀ W, Below W2.heap.size W2 W → Calls Try.prog 83 #[.agg #[.int .u64 i, .slice am V.ms.length cm, .slice al V.ls.length cl, .slice ad V.ds.length cd]] W fun e w' => ∃ r, e = .returned (.map (some r)) ∧ W.heap.size ≤ r ∧ Below W.heap.size W w' ∧ MapIs w' r pidV eI (ranksL V.ms)) := hid (fun W h => by
    have := ranks_is (cm := cm) (cl := cl) (cd := cd) (hV2.ext h)
    rw [hi] at this; exact this)
  have HB2 := hid hB2
  have HXV := hid xv
  have HZ2 := hid hz2
  have HV := hid hV
  have H0 := hid h0
  have HWR := hid hW
  have HOK := hid hok
  have ewl : IntKind.u64.wrap ((V.ls.length : Nat) : Int) = ((V.ls.length : Nat) : Int) := by rw [IntKind.wrap_u64]; omega
  obtain ⟨y0, y1, y2, y3⟩ := id xv
  rw [hi] at y0
  have HXG := hid xg
  have HS := hid hs
  have HS0 := hid hs0
  have HLE := hid hle
  have HI := hid hi
  clear hc hV2 hB2 xv hz2 hV h0 hW hok xg hs0 hle hsum hs hb2 hi
  go_enter Try.func97, Try.ntmps97
  go_wp2_with fail
  (with_reducible refine CK.out.mono ?_)
  rintro e w3 ⟨rfl, hb3⟩
  have z0 := cell_toB y0 hb3
  have z1 := cell_toB y1 hb3
  have z2 := cell_toB y2 hb3
  have z3 := cell_toB y3 hb3
  clear y0 y1 y2 y3
  go_wp2_with fail
  (with_reducible refine (CR.out _ hb3).mono ?_)
  rintro e w4 ⟨r, rfl, hr4, hb4, hM4⟩
  clear z0 z1 z2 z3 hW2
  obtain ⟨w5, hw5⟩ : ∃ w5, w4.alloc (.cells #[.map (some r)] 134) = w5 := ⟨_, rfl⟩
  have hb45 : Below w4.heap.size w4 w5 := by rw [← hw5]; exact (Below.refl _ _).alloc (Nat.le_refl _) _
  have hb25 : Below W2.heap.size W2 w5 := hb3.trans ((hb4.trans (hb45.mono hb4.size)).mono hb3.size)
  have hz := HZ2.out
  have hsw := HS.out
  have h34 := hb4.size
  have h23 := hb3.size
  obtain ⟨y0, y1, y2, y3⟩ := HXV.out.ext hb25 (by omega)
  rw [HI.out] at y0
  have P5 : PutS w0 w5 s w.heap.size w4.heap.size r (w.heap.size + 1) i V am al ad cm cl cd :=
    ⟨cell_toB HXG.out hb25, by rw [← hw5]; simp, y0, y1, y2, y3, hM4.ext hb45, by omega, by omega, by omega, by omega, HB02.out.trans (hb25.mono HB02.out.size), HS0.out⟩
  have hbw5 : Below w.heap.size w w5 := HB2.out.trans (hb25.mono HB2.out.size)
  have HBW5 := hid hbw5
  have P5' := hid P5
  have N1 := hid (wNum_any i (HWR.out.ext hbw5) (by omega) hi64)
  clear hb3 hb4 hM4 hr4 CK CR hb45 hb25 hz hsw h34 h23 hbw5
  generalize w.heap.size + 1 = b at y0 y1 y2 y3 P5 P5' ⊢
  generalize hg1 : w.heap.size = g1 at P5 P5' ⊢
  have x1 := P5.c1
  clear P5
  have hp1 := flat_pidF_len HOK.out
  have ln1 := short_len10 (n := i) (by omega)
  have ln2 := short_len10 (n := V.ms.length) (by omega)
  have ln3 := short_len10 (n := V.ls.length) (by omega)
  have hpl : (pidsF V.ms).length ≤ 20010 := by unfold pidsF; rw [List.length_append]; omega
  go_wp2_with fail
  refine N1.out.mono ?_
  rintro e w6 ⟨rfl, v6, hw6⟩
  have P6 := hid (P5'.out.mut hw6.mt)
  have N2 := hid (wPids_any (n := V.ms.length) (c := cm) hw6.wr (by rw [List.length_append]; omega) (hid rfl) (by omega) HOK.out (HV.out.ms.ext P6.out.b0) (HV.out.ms.far HS0.out))
  have HW6 := hid hw6
  clear hw6 N1 y0 y1 y2 y3 x1 hw5
  have x1 := P6.out.c1
  have y1 := P6.out.y1
  go_wp2_with fail
  refine N2.out.mono ?_
  rintro e w7 ⟨rfl, v7, hw7⟩
  have P7 := hid (P6.out.mut hw7.mt)
  have N3 := hid (wNum_any V.ls.length hw7.wr (by simp only [List.length_append]; omega) (by omega))
  have HW7 := hid (HW6.out.step hw7)
  clear hw7 N2 x1 y1 P6 HW6
  have x1 := P7.out.c1
  have y2 := P7.out.y2
  go_wp2_with fail
  refine N3.out.mono ?_
  rintro e w8 ⟨rfl, v8, hw8⟩
  have P8 := hid (P7.out.mut hw8.mt)
  have HW8 := hid (HW7.out.step hw8)
  clear hw8 N3 x1 y2 P7 HW7
  have y2 := P8.out.y2
  have y3 := P8.out.y3
  obtain ⟨B, hB⟩ : ∃ B, ((bs ++ short i) ++ pidsF V.ms) ++ short V.ls.length = B := ⟨_, rfl⟩
  have hBl : B.length ≤ 1100000 := by rw [← hB]; simp only [List.length_append]; omega
  have hfl := flat_places_len (ms := V.ms) (by omega) V.ls HLE.out
  have HE : Hid (bs ++ viewF V = (B ++ V.ls.flatMap (placesF V.ms)) ++ placesF V.ms V.ds) := hid (by
    unfold viewF; rw [← hB, HI.out]; simp)
  rw [hB] at HW8
  have HTL : Hid (∀ k, (B ++ (V.ls.take k).flatMap (placesF V.ms)).length ≤ 34359738368) := hid (fun k => by
    have h1 := flat_places_len (ms := V.ms) (by omega) (V.ls.take k) (fun l hl => HLE.out l (List.mem_of_mem_take hl))
    rw [List.length_take] at h1
    rw [List.length_append]
    omega)
  clear hB hp1 hpl ln1 ln2 ln3 hfl ewl
  generalize hg2 : w4.heap.size = g2 at P8 P5' ⊢
  clear hg2
  go_wp2_with fail
  go_loopw [31] (fun i wr => ∃ (k : Nat) (vk : Value), k ≤ V.ls.length ∧ i = .int .i64 k ∧ Hid (Wrote w5 wr s vk (B ++ (V.ls.take k).flatMap (placesF V.ms)))) (fun i _ => V.ls.length - (intOf i).toNat)
  case atStart => exact ⟨0, v8, Nat.zero_le _, rfl, hid (by simpa using HW8.out)⟩
  case round =>
    obtain ⟨k, vk, hk, rfl, hWk⟩ := hrel
    have Pr := hid (P5'.out.mut hWk.out.mt)
    by_cases hlt : k < V.ls.length
    · have hlt' : decide (k < V.ls.length) = true := by simpa using hlt
      obtain ⟨bl, ofl, ai, ci, l, rfl, hx, f1, f2⟩ := HV.out.ls.at (Below.refl _ _) rfl hlt
      have d1 := cell_toB f1 Pr.out.b0
      have hll1 : l.length ≤ 1000 := HLE.out l (by rw [hx]; exact List.getElem_mem _)
      have HT : Hid (B ++ (V.ls.take (k + 1)).flatMap (placesF V.ms) = (B ++ (V.ls.take k).flatMap (placesF V.ms)) ++ placesF V.ms l) := hid (by rw [take_places hlt hx]; simp)
      have C2 : Hid (Calls Try.prog 183 #[.slice ai l.length ci, .pointer (some ⟨g1, 0, none⟩), .pointer (some ⟨g2, 0, none⟩)] wr fun e w' => e = .returned (.tuple #[]) ∧ ∃ v', Wrote wr w' s v' (B ++ (V.ls.take (k + 1)).flatMap (placesF V.ms))) := hid (by
        rw [HT.out]
        exact putC_F hWk.out.wr (HTL.out k) hll1 hlm f2 Pr.out.b0 HS0.out Pr.out.c1 Pr.out.c2 Pr.out.M Pr.out.n1 Pr.out.n2 Pr.out.nr)
      clear hx f1 f2 y2 y3
      go_wp2_with (go_at_call 183; (with_reducible refine C2.out.mono ?_); rintro e w9 ⟨rfl, v9, hw9⟩; have hw10 := hid (hWk.out.step hw9); clear hw9)
      go_roundw
      case rel => exact ⟨k + 1, v9, by omega, by go_num, hw10⟩
      case measure => simp [intOf]; omega
    · have hlt' : decide (k < V.ls.length) = false := by simpa using hlt
      have hend := hWk.out
      rw [List.take_of_length_le (by omega)] at hend
      have hH := HTL.out k
      rw [List.take_of_length_le (by omega)] at hH
      have C3 : Hid (Calls Try.prog 183 #[.slice ad V.ds.length cd, .pointer (some ⟨g1, 0, none⟩), .pointer (some ⟨g2, 0, none⟩)] wr fun e w' => e = .returned (.tuple #[]) ∧ ∃ v', Wrote wr w' s v' (bs ++ viewF V)) := hid (by
        rw [HE.out]
        exact putC_F hend.wr hH hld hlm HV.out.ds (Pr.out.b0) HS0.out Pr.out.c1 Pr.out.c2 Pr.out.M Pr.out.n1 Pr.out.n2 Pr.out.nr)
      have HEND := hid hend
      have d3 := Pr.out.y3
      clear hend y2 y3 hH
      go_wp2_with (go_at_call 183; (with_reducible refine C3.out.mono ?_); rintro e w9 ⟨rfl, v9, hw9⟩)
      exact bodyPost_end (results_none rfl _ _ _) rfl ⟨rfl, _, (HEND.out.step hw9).pre HBW5.out⟩
end Go.Proofs.Ytbpfhclcjedkcaa

namespace Go.Proofs.Ytbpfhclcjedkcaa
open Go.RowKit

/-! ### Reader.Stop; view.places -/
theorem rNum_is {s c most x : Nat} {z : Int} {a : Option Addr} {S S1 : RS} {w : World} (hz : z = (most : Int)) (hx : Hid (rNum most S = (x, S1))) (hm : most < 18446744073709551616) (hR : RdIs w s a c S) :
    Calls Try.prog 115 #[.pointer (some ⟨s, 0, none⟩), .int .u64 z] w fun e w' => e = .returned (.int .u64 x) ∧ (∃ a' c', RdIs w' s a' c' S1) ∧ Mut (fun k => k = s) w w' := by
  subst hz
  have := rNum_any most hm hR
  rw [hx.out] at this; exact this
theorem rErr_0 {s c : Nat} {a : Option Addr} {S : RS} {w : World} (h : RdIs w s a c S) (he : S.e = 0) :
    Calls Try.prog 194 #[.pointer (some ⟨s, 0, none⟩)] w fun e' w' => e' = .returned (.int .i64 0) ∧ w = w' := by
  have := rErr_any h
  rw [he] at this; exact this
theorem neq_rptr_nil (a : Addr) (w : World) : (binOp .neq 167 (.pointer (some a)) (.pointer none)).run Try.prog w = .ok (.bool true) w := by
  simp [go_sem]
set_option maxRecDepth 100000 in
set_option maxHeartbeats 800000 in
theorem stop_any {s c : Nat} {a : Option Addr} {S : RS} {w : World} (e0 : Nat) {z : Int} (hz : z = (e0 : Int)) (h0 : e0 ≠ 0) (he : S.e = 0) (h : RdIs w s a c S) :
    Calls Try.prog 125 #[.pointer (some ⟨s, 0, none⟩), .int .i64 z] w fun e w' => e = .returned (.tuple #[]) ∧ RdIs w' s a c ⟨S.b, e0⟩ ∧ Mut (fun k => k = s) w w' := by
  have C := hid (fail_any e0 h)
  have HF : Hid (failS S e0 = ⟨S.b, e0⟩) := hid (by unfold failS; rw [if_pos he])
  rw [HF.out] at C
  subst hz
  have t1 : ((e0 : Int) != 0) = true := by simp; omega
  have hnn := neq_rptr_nil ⟨s, 0, none⟩
  clear he
  go_enter Try.func125, Try.ntmps125
  go_wp2_with fail
  refine C.out.mono ?_
  rintro e w1 ⟨rfl, hR1, hM1⟩
  go_wp2
  exact bodyPost_end (results_none rfl _ _ _) rfl ⟨rfl, hR1, hM1⟩
theorem rPlacesN_stop {ms : List Pid} {n : Nat} {S : RS} (he : S.e ≠ 0) : rPlacesN ms n S = ([], S) := by
  cases n with
  | zero => rfl
  | succ n => unfold rPlacesN; rw [if_pos he]
theorem rPlacesN_nil {n : Nat} {S : RS} (he : S.e = 0) : rPlacesN [] (n + 1) S = ([], ⟨S.b, 3⟩) := by
  unfold rPlacesN; rw [if_neg (by simp [he]), if_pos rfl]
theorem rPlacesN_step {ms : List Pid} {n q : Nat} {S S2 : RS} (he : S.e = 0) (hm : ms ≠ []) (hp : rNum (ms.length - 1) S = (q, S2)) : rPlacesN ms (n + 1) S = (ms.getD q (0, 0) :: (rPlacesN ms n S2).1, (rPlacesN ms n S2).2) := by
  have h2 : rPlacesN ms (n + 1) S = if S.e ≠ 0 then ([], S) else if ms = [] then ([], ⟨S.b, 3⟩) else (ms.getD (rNum (ms.length - 1) S).1 (0, 0) :: (rPlacesN ms n (rNum (ms.length - 1) S).2).1, (rPlacesN ms n (rNum (ms.length - 1) S).2).2) := rfl
  rw [h2, if_neg (by simp [he]), if_neg hm, hp]
set_option maxRecDepth 100000 in
set_option maxHeartbeats 3200000 in
theorem places_any {s c cm nm : Nat} {a am : Option Addr} {S : RS} {ms : List Pid} {w : World} (hR : RdIs w s a c S) (hnm : Hid (ms.length = nm)) (hml : nm ≤ 1000) (hrow : PidRow w am ms) (hne : ∀ b off, am = some ⟨b, off, none⟩ → ms ≠ [] → b ≠ s) :
    Calls Try.prog 201 #[.pointer (some ⟨s, 0, none⟩), .slice am nm cm] w fun e w' => (∃ v, e = .returned v ∧ OwnP w' w.heap.size v (rPlaces ms S).1) ∧ (∃ a' c', RdIs w' s a' c' (rPlaces ms S).2) ∧ Mut (fun k => k = s) w w' := by
  obtain ⟨⟨n, S1⟩, hn⟩ : ∃ q, rNum 24 S = q := ⟨_, rfl⟩
  obtain ⟨⟨L, S2⟩, hL⟩ : ∃ q, rPlaces ms S = q := ⟨_, rfl⟩
  have HL0 : Hid (rPlacesN ms n S1 = (L, S2)) := hid (by rw [← hL]; unfold rPlaces; rw [hn])
  have hn24 : n ≤ 24 := by have := rNum_le (most := 24) (S := S); rw [hn] at this; exact this
  rw [hL]
  have HN := hid hn
  have C1 := hid (rNum_is (most := 24) (z := 24) rfl HN (by decide) hR)
  have hsw := hR.lt
  have HROW := hid hrow
  have HNE := hid hne
  clear hn hL hrow hne
  go_enter Try.func201, Try.ntmps201
  go_wp2_with fail
  refine C1.out.mono ?_
  rintro e w1 ⟨rfl, hR1, hM1⟩
  clear C1
  go_wp2_with fail
  go_loopw [5, 7] (fun v i wr => ∃ (k : Nat) (got : List Pid) (T : RS), k ≤ n ∧ i = .int .u64 k ∧ got.length = k ∧ (∃ a' c', RdIs wr s a' c' T) ∧ OwnP wr w.heap.size v got ∧ Hid (L = got ++ (rPlacesN ms (n - k) T).1 ∧ S2 = (rPlacesN ms (n - k) T).2) ∧ Mut (fun k => k = s) w wr) (fun _ i _ => n - (intOf i).toNat)
  case atStart =>
    exact ⟨0, [], S1, Nat.zero_le _, rfl, rfl, hR1, OwnP.nil _ _, hid (by rw [Nat.sub_zero, HL0.out]; simp), hM1⟩
  case round =>
    obtain ⟨k, got, T, hk, rfl, hgl, ⟨a2, c2, hRT⟩, hown, hM, hmut⟩ := hrel
    have hsz : w.heap.size ≤ wr.heap.size := hmut.size
    have HRT := hid hRT
    have HOWN := hid hown
    have HMU := hid hmut
    have HGL := hid hgl
    by_cases hlt : k < n
    · have t1 : decide ((k : Int) < (n : Int)) = true := by simpa using hlt
      have t1' : decide (k < n) = true := by simpa using hlt
      by_cases he : T.e = 0
      · have CE := hid (rErr_0 hRT he)
        have HE := hid he
        by_cases hms : ms = []
        · have hn0 : nm = 0 := by have := hnm.out; rw [hms] at this; exact this.symm
          have HMS := hid hms
          have CS := hid (stop_any 3 (z := 3) rfl (by decide) he hRT)
          have HEND : Hid (L = got ∧ S2 = ⟨T.b, 3⟩) := hid (by
            have := hM.out
            rw [show n - k = (n - (k + 1)) + 1 by omega, hms, rPlacesN_nil he] at this
            simpa using this)
          subst hn0
          clear hRT hown hmut hgl he hms hlt hM
          go_wp2_with fail
          refine CE.out.mono ?_
          rintro e w2 ⟨rfl, rfl⟩
          go_wp2_with fail
          refine CS.out.mono ?_
          rintro e w3 ⟨rfl, hR3, hM3⟩
          go_wp2
          go_ret
          exact ⟨⟨_, rfl, by rw [HEND.out.1]; exact HOWN.out.mutT hM3 (fun k e => by rw [e]; exact hsw)⟩, ⟨a2, c2, by rw [HEND.out.2]; exact hR3⟩, HMU.out.trans hM3⟩
        · have hn1 : 0 < nm := by rw [← hnm.out]; exact List.length_pos_iff.2 hms
          have t2 : ((nm : Int) == 0) = false := by simp; omega
          obtain ⟨⟨q, T2⟩, hq⟩ : ∃ p, rNum (ms.length - 1) T = p := ⟨_, rfl⟩
          have hql : q < nm := by have := rNum_le (most := ms.length - 1) (S := T); rw [hq] at this; simp only at this; rw [hnm.out] at this; omega
          have hqm : q < ms.length := by rw [hnm.out]; exact hql
          have hsub : ((nm : Int) - 1) = ((ms.length - 1 : Nat) : Int) := by rw [hnm.out]; omega
          have CN := hid (rNum_is hsub (hid hq) (by rw [hnm.out]; omega) hRT)
          have ew : IntKind.u64.wrap ((nm : Nat) : Int) = ((nm : Nat) : Int) := by rw [IntKind.wrap_u64]; omega
          have ew2 : IntKind.u64.wrap ((nm : Int) - 1) = (nm : Int) - 1 := by rw [IntKind.wrap_u64]; omega
          have HQ := hid hq
          have HQM := hid hqm
          have HM2 : Hid (L = (got ++ [ms.getD q (0, 0)]) ++ (rPlacesN ms (n - (k + 1)) T2).1 ∧ S2 = (rPlacesN ms (n - (k + 1)) T2).2) := hid (by
            have := hM.out
            rw [show n - k = (n - (k + 1)) + 1 by omega, rPlacesN_step he hms hq] at this
            exact ⟨by rw [this.1]; simp, this.2⟩)
          have HLT := hid hlt
          clear hRT hown hmut hgl he hms hM hq hqm hsub hlt
          go_wp2_with fail
          refine CE.out.mono ?_
          rintro e w2 ⟨rfl, rfl⟩
          go_wp2_with fail
          refine CN.out.mono ?_
          rintro e w3 ⟨rfl, ⟨a3, c3, hR3⟩, hM3⟩
          obtain ⟨pb, po, x, y, rfl, hx, d1, d2⟩ := (HROW.out.mutT (HMU.out.trans hM3) (fun b off h1 h2 => HNE.out b off h1 h2)).at (Below.refl _ _) rfl HQM.out
          have hxx : Hid ((x, y) = ms.getD q (0, 0)) := hid (by rw [hx, List.getD_eq_getElem?_getD, List.getElem?_eq_getElem HQM.out]; rfl)
          have hq4 : Below w3.heap.size w3 (w3.alloc (.cells #[.int .u16 x, .int .u32 y] 26)) := (Below.refl _ _).alloc (Nat.le_refl _) _
          have ho4 := ((HOWN.out.mutT hM3 (fun k e => by rw [e]; exact hsw))).ext hq4
          have HM4 := hid ((HMU.out.trans hM3).trans (Mut.of_below hq4))
          have HR4 := hid (hR3.ext hq4)
          clear hx CE CN hR3 hM3 hq4
          go_wp2_with (at_builtin; refine wpList_appendP ho4 (PidRow.one w3 x y) (by have := HGL.out; simp; omega) HM4.out.size rfl rfl rfl rfl ?_; intro v5 w5 hown5 hg5 hiff5; clear hiff5)
          go_roundw
          case rel =>
            have hgm := grown_mut hg5 ho4
            refine ⟨k + 1, got ++ [(x, y)], T2, by have := HLT.out; omega, by go_num, by rw [List.length_append, HGL.out]; rfl, ⟨a3, c3, HR4.out.mutT hgm (fun k e => by have e : w.heap.size ≤ k := e; omega)⟩, hown5, by rw [hxx.out]; exact HM2, ?_⟩
            exact mut_grown HM4.out hg5 ho4 (Nat.le_refl _)
          case measure => have := HLT.out; simp [intOf]; omega
      · have CE := hid (rErr_is hRT (hid rfl))
        have t2 : ((T.e : Int) == 0) = false := by simp; omega
        have HEND : Hid (L = got ∧ S2 = T) := hid (by
          have := hM.out
          rw [rPlacesN_stop he] at this
          simpa using this)
        clear hRT hown hmut hgl he hlt hM
        go_wp2_with fail
        refine CE.out.mono ?_
        rintro e w2 ⟨rfl, rfl⟩
        go_wp2
        go_ret
        exact ⟨⟨_, rfl, by rw [HEND.out.1]; exact HOWN.out⟩, ⟨a2, c2, by rw [HEND.out.2]; exact HRT.out⟩, HMU.out⟩
    · have t1 : decide ((k : Int) < (n : Int)) = false := by simpa using hlt
      have t1' : decide (k < n) = false := by simpa using hlt
      have HEND : Hid (L = got ∧ S2 = T) := hid (by
        have := hM.out
        rw [show n - k = 0 by omega] at this
        simpa [rPlacesN] using this)
      clear hRT hown hmut hgl hlt hM
      go_wp2
      go_ret
      exact ⟨⟨_, rfl, by rw [HEND.out.1]; exact HOWN.out⟩, ⟨a2, c2, by rw [HEND.out.2]; exact HRT.out⟩, HMU.out⟩
end Go.Proofs.Ytbpfhclcjedkcaa

namespace Go.Proofs.Ytbpfhclcjedkcaa
open Go.RowKit

/-! ### what a view that may be is bounded by; great of a command -/
theorem laid_of_check {V : View} (hw : WfPids V.ms) (h : checkB V = true) : Laid V := by
  unfold checkB at h
  simp only [Bool.and_eq_true, decide_eq_true_eq, chkFrom_iff, chkEnd, ris_same, List.nil_append, Nat.zero_add] at h
  obtain ⟨a, b, c, d, e, f, g, h, i⟩ := h
  have hl := lens_flatten V.ls
  unfold membersB at c
  rw [memFrom_iff] at c
  have hls := lens_ge (fun l hl => (d l hl).1)
  have hc := c.1.2
  refine ⟨by omega, b, hw, hc, by omega, fun l hl => ⟨risR_mem (d l hl).2, ?_⟩, ⟨risR_mem i, ?_⟩⟩
  · have := nodup_len (risR_nodup (d l hl).2) (risR_mem (d l hl).2); omega
  · have := nodup_len (risR_nodup i) (risR_mem i); omega
theorem lens_leC {n : Nat} : ∀ {ls : List (List Pid)}, (∀ l ∈ ls, l.length ≤ n) → lens ls ≤ ls.length * n
  | [], _ => by simp [lens]
  | l :: ls, h => by
    have h1 := h l (by simp)
    have h2 := lens_leC (ls := ls) (fun x hx => h x (by simp [hx]))
    simp only [lens, List.map_cons, List.sum_cons, List.length_cons] at *
    rw [Nat.add_mul]; omega
theorem great_noC {V : View} (h : greatB V = false) : V.ms.length ≤ 40 ∧ V.ls.length ≤ 40 ∧ V.ds.length ≤ 40 ∧ (∀ l ∈ V.ls, l.length ≤ 40) ∧ lens V.ls ≤ 1600 := by
  unfold greatB at h
  simp only [Bool.or_eq_false_iff, decide_eq_false_iff_not, List.any_eq_false] at h
  obtain ⟨a, b, c, d⟩ := h
  have d' : ∀ l ∈ V.ls, l.length ≤ 40 := fun l hl => by have := d l hl; simp at this; omega
  have := lens_leC d'
  exact ⟨by omega, by omega, by omega, d', by omega⟩
def greatC (A : CmdD) : Bool := decide (400 < A.data.length) || greatB A.v
set_option maxRecDepth 100000 in
set_option maxHeartbeats 1600000 in
theorem cmdGreat_any {A : CmdD} {da am al ad : Option Addr} {dc cm cl cd : Nat} {w : World} (hV : ViewR w am al ad A.v) :
   Calls Try.prog 89 #[.agg (cmdL da am al ad dc cm cl cd A)] w fun e w' => e = .returned (.bool (greatC A)) ∧ Below w.heap.size w w' := by
  have xA : CmdBox (w.alloc (.cells (cmdL da am al ad dc cm cl cd A) 44)) w.heap.size A da am al ad dc cm cl cd := CmdBox.made (c := A) w
  have hB1 : Below w.heap.size w (w.alloc (.cells (cmdL da am al ad dc cm cl cd A) 44)) := (Below.refl _ _).alloc (Nat.le_refl _) _
  have hl : ∀ (x : CmdD) (da am al ad : Option Addr) (dc cm cl cd : Nat), cmdL da am al ad dc cm cl cd x = #[.int .i64 x.kind, .int .u16 x.fr.1, .int .u32 x.fr.2, .int .u64 x.num, .int .u64 x.vw, .slice da x.data.length dc, .int .u64 x.v.id, .slice am x.v.ms.length cm, .slice al x.v.ls.length cl, .slice ad x.v.ds.length cd] := fun _ _ _ _ _ _ _ _ _ => rfl
  simp only [hl] at *
  have hV1 := hV.ext hB1
  obtain ⟨a0, a1, a2, a3, a4, a5, a6, a7, a8, a9⟩ := id xA
  obtain ⟨r, hr⟩ : ∃ r, greatB A.v = r := ⟨_, rfl⟩
  have HR := hid hr
  by_cases h : 400 < A.data.length
  · have hd : decide ((A.data.length : Int) > 400) = true := by simp; omega
    have hd' : decide ((400 : Int) < (A.data.length : Int)) = true := by simp; omega
    have HC : Hid (greatC A = true) := hid (by unfold greatC; rw [decide_eq_true h]; rfl)
    clear h
    go_enter Try.func89, Try.ntmps89
    go_wp2
    go_ret
    exact ⟨by rw [HC.out]; rfl, hB1⟩
  · have hd : decide ((A.data.length : Int) > 400) = false := by simp; omega
    have hd' : decide ((400 : Int) < (A.data.length : Int)) = false := by simp; omega
    have HC : Hid (greatC A = r) := hid (by unfold greatC; rw [decide_eq_false h, hr]; rfl)
    clear h hr
    go_enter Try.func89, Try.ntmps89
    go_wp2_with (go_at_call 18; (with_reducible refine (great_is HR hV1).mono ?_); rintro e w3 ⟨rfl, hb3⟩)
    go_ret
    exact ⟨by rw [HC.out]; rfl, hB1.trans (hb3.mono hB1.size)⟩
theorem cmdGreat_is {A : CmdD} {da am al ad : Option Addr} {dc cm cl cd : Nat} {w : World} {r : Bool} (h : Hid (greatC A = r)) (hV : ViewR w am al ad A.v) :
   Calls Try.prog 89 #[.agg (cmdL da am al ad dc cm cl cd A)] w fun e w' => e = .returned (.bool r) ∧ Below w.heap.size w w' := by
  have := cmdGreat_any (da := da) (dc := dc) (cm := cm) (cl := cl) (cd := cd) hV
  rw [h.out] at this; exact this
theorem greatC_no {A : CmdD} (h : greatC A = false) : A.data.length ≤ 400 ∧ lens A.v.ls ≤ 1600 := by
  unfold greatC at h
  simp only [Bool.or_eq_false_iff, decide_eq_false_iff_not] at h
  exact ⟨by omega, (great_noC h.2).2.2.2.2⟩
theorem viewF_small {V : View} (h : Laid V) : (viewF V).length ≤ 290000 := by
  have h1 := short_len10 (n := V.id.toNat) (by have := h.id1; omega)
  have h2 := short_len10 (n := V.ms.length) (by have := h.lm; omega)
  have h3 := flat_pidF_len h.wf
  have h4 := short_len10 (n := V.ls.length) (by have := h.ll; omega)
  have h5 := flat_places_len (ms := V.ms) (by have := h.lm; omega) V.ls (fun l hl => by have := (h.le l hl).2; omega)
  have h6 := placesF_len (ms := V.ms) (l := V.ds) (by have := h.lm; omega) (by have := h.ld.2; omega)
  have h7 := h.lm
  have h8 := h.ll
  unfold viewF pidsF
  simp only [List.length_append]
  omega
theorem short_byteA : ∀ (n : Nat), ∀ b ∈ short n, b < 256 := by
  intro n
  induction n using Nat.strongRecOn with
  | _ n ih =>
    intro b hb
    by_cases h : n < 128
    · rw [short_lt h] at hb
      have : b = n := by simpa using hb
      omega
    · rw [short_ge h] at hb
      rcases List.mem_cons.1 hb with h1 | h1
      · omega
      · exact ih (n / 128) (by omega) b h1
theorem pidF_byte {p : Pid} : ∀ b ∈ pidF p, b < 256 := by
  unfold pidF
  intro b hb
  rcases List.mem_append.1 hb with h | h
  · exact short_byteA _ b h
  · exact short_byteA _ b h
theorem placesF_byte {ms l : List Pid} : ∀ b ∈ placesF ms l, b < 256 := by
  unfold placesF
  intro b hb
  rcases List.mem_append.1 hb with h | h
  · exact short_byteA _ b h
  · obtain ⟨p, -, h⟩ := List.mem_flatMap.1 h
    exact short_byteA _ b h
theorem pidsF_byte {l : List Pid} : ∀ b ∈ pidsF l, b < 256 := by
  unfold pidsF
  intro b hb
  rcases List.mem_append.1 hb with h | h
  · exact short_byteA _ b h
  · obtain ⟨p, -, h⟩ := List.mem_flatMap.1 h
    exact pidF_byte b h
theorem viewF_byte {V : View} : ∀ b ∈ viewF V, b < 256 := by
  unfold viewF
  intro b hb
  simp only [List.mem_append] at hb
  rcases hb with h | h | h | h | h
  · exact short_byteA _ b h
  · exact pidsF_byte b h
  · exact short_byteA _ b h
  · obtain ⟨p, -, h⟩ := List.mem_flatMap.1 h
    exact placesF_byte b h
  · exact placesF_byte b h
end Go.Proofs.Ytbpfhclcjedkcaa

