import Derived.Test.YteodaakdjnjhmaaX12
namespace Go.Proofs.Yteodaakdjnjhmaa
open Go.RowKit
theorem wholeS_num {most : Nat} {S : RS} (he : S.e = 0) : wholeS S (rNum most S).2 = (rNum most S).2 := by
  unfold wholeS rNum
  simp only [he, ne_eq, not_true_eq_false, if_false]
  by_cases h1 : (getS S.b).2.2 = 0
  · simp only [h1, not_true_eq_false, if_false]
    by_cases h2 : most < (getS S.b).1
    · simp [h2]
    · simp [h2]
  · simp [h1]
theorem three0 (w : World) (x y z : Obj) {v : Value} (h : (w.alloc x).cell? ⟨w.heap.size, 0, none⟩ = some v) : (((w.alloc x).alloc y).alloc z).cell? ⟨w.heap.size, 0, none⟩ = some v :=
  cell_toB h (((Below.refl _ _).alloc (Nat.le_refl _) _).alloc (by simp) _)
theorem three1 (w : World) (x y z : Obj) {v : Value} (h : ((w.alloc x).alloc y).cell? ⟨w.heap.size + 1, 0, none⟩ = some v) : (((w.alloc x).alloc y).alloc z).cell? ⟨w.heap.size + 1, 0, none⟩ = some v :=
  cell_toB h ((Below.refl _ _).alloc (Nat.le_refl _) _)
theorem rNum_skip {most : Nat} {S : RS} (he : S.e ≠ 0) : rNum most S = (0, S) := by unfold rNum; rw [if_pos he]
theorem Mut.weak {F G : Nat → Prop} {w w1 w2 : World} (hb : Below w.heap.size w w1) (h : Mut F w1 w2) (hFG : ∀ k, k < w.heap.size → F k → G k) : Mut G w w2 :=
  ((Mut.of_below (F := F) hb).trans h).mono hFG
/-- the place of a result: one cell -/
structure Cell1 (w : World) (g : Nat) (v : Value) : Prop where
  c : w.cell? ⟨g, 0, none⟩ = some v
  f : w.frozen? ⟨g, 0, none⟩ = false
theorem Cell1.made (w : World) (t : TypeId) (v : Value) : Cell1 (w.alloc (.cells #[v] t)) w.heap.size v := ⟨by simp, by simp⟩
theorem Cell1.lt {w : World} {g : Nat} {v : Value} (h : Cell1 w g v) : g < w.heap.size := World.block_lt_of_cell? w _ h.c
theorem Cell1.ext {w w' : World} {g : Nat} {v : Value} (h : Cell1 w g v) (hb : Below w.heap.size w w') : Cell1 w' g v := ⟨cell_toB h.c hb, (hb.frozen (by exact h.lt)).trans h.f⟩
theorem Cell1.mutT {G : Nat → Prop} {w w' : World} {g : Nat} {v : Value} (h : Cell1 w g v) (hm : Mut G w w') (hG : ¬ G g) : Cell1 w' g v :=
  ⟨cell_mut h.c hm hG, (World.frozen?_of_block (w := w) (a := ⟨g, 0, none⟩) (hm.block g h.lt hG)).trans h.f⟩
set_option maxRecDepth 100000 in
set_option maxHeartbeats 1600000 in
theorem numC_any {s c g0 g1 g2 most x : Nat} {a : Option Addr} {S S1 : RS} {w : World} {v0 : Value} (hx : Hid (rNum most S = (x, S1))) (hm : most < 18446744073709551616) (hR : RdIs w s a c S) (h0 : w.cell? ⟨g0, 0, none⟩ = some (.pointer (some ⟨s, 0, none⟩))) (h1 : w.cell? ⟨g1, 0, none⟩ = some (.int .u64 most)) (h2 : Cell1 w g2 v0) (hs : s < g2) :
    Calls Try.prog 140 #[.pointer (some ⟨g0, 0, none⟩), .pointer (some ⟨g1, 0, none⟩), .pointer (some ⟨g2, 0, none⟩)] w fun e w' => e = .returned (.tuple #[]) ∧ (∃ a' c', RdIs w' s a' c' S1) ∧ Cell1 w' g2 (.int .u64 x) ∧ Mut (fun k => k = s ∨ k = g2) w w' := by
  have CN : Hid (Calls Try.prog 141 #[.pointer (some ⟨s, 0, none⟩), .int .u64 most] w fun e w' => e = .returned (.int .u64 x) ∧ (∃ a' c', RdIs w' s a' c' S1) ∧ Mut (fun k => k = s) w w') := hid (by
    have := rnum_any most hm hR
    rw [hx.out] at this; exact this)
  have hgs : ¬ (fun k => k = s) g2 := fun e => by have e : g2 = s := e; omega
  have HG := hid hgs
  clear hgs
  go_enter Try.func140, Try.ntmps140
  go_wp2_with (go_at_call 141; refine CN.out.mono ?_; rintro e w1 ⟨rfl, ⟨a1, c1, hR1⟩, hM1⟩; have hz := h2.mutT hM1 HG.out; have z0 := hz.c; have z1 := hz.f)
  have hM2 : Mut (fun k => k = s ∨ k = g2) w1 (w1.setCell ⟨g2, 0, none⟩ (.int .u64 x)) := mut1.mono (fun k _ e => .inr e)
  exact bodyPost_end (results_none rfl _ _ _) rfl ⟨rfl, ⟨a1, c1, hR1.mutT (G := fun k => k = g2) mut1 (fun k e => by rw [e]; exact hs)⟩, ⟨World.cell?_setCell_same _ _ _ z0, by simp [z1]⟩, (hM1.mono (fun k _ e => .inl e)).trans hM2⟩
set_option maxRecDepth 100000 in
set_option maxHeartbeats 1600000 in
theorem rNum_any {s c : Nat} {a : Option Addr} {S : RS} {w : World} (most : Nat) (hm : most < 18446744073709551616) (hR : RdIs w s a c S) :
    Calls Try.prog 89 #[.pointer (some ⟨s, 0, none⟩), .int .u64 most] w fun e w' => e = .returned (.int .u64 (rNum most S).1) ∧ (∃ a' c', RdIs w' s a' c' (rNum most S).2) ∧ Mut (fun k => k = s) w w' := by
  have hmf : ∀ (fn : Fn) (first cap : Array Value) (w : World), (Instr.makeFunc fn first cap).run Try.prog w = .ok (.func fn first cap) w := fun _ _ _ _ => rfl
  have hB : Below w.heap.size w (((w.alloc (.cells #[.pointer (some ⟨s, 0, none⟩)] 54)).alloc (.cells #[.int .u64 most] 29)).alloc (.cells #[.int .u64 0] 29)) := (((Below.refl _ _).alloc (Nat.le_refl _) _).alloc (by simp) _).alloc (by simp; omega) _
  have hR3 := hR.ext hB
  have g0 : (((w.alloc (.cells #[.pointer (some ⟨s, 0, none⟩)] 54)).alloc (.cells #[.int .u64 most] 29)).alloc (.cells #[.int .u64 0] 29)).cell? ⟨w.heap.size, 0, none⟩ = some (.pointer (some ⟨s, 0, none⟩)) := three0 _ _ _ _ (by simp)
  have g1 : (((w.alloc (.cells #[.pointer (some ⟨s, 0, none⟩)] 54)).alloc (.cells #[.int .u64 most] 29)).alloc (.cells #[.int .u64 0] 29)).cell? ⟨w.heap.size + 1, 0, none⟩ = some (.int .u64 most) := three1 _ _ _ _ (by simp)
  have g2 : Cell1 (((w.alloc (.cells #[.pointer (some ⟨s, 0, none⟩)] 54)).alloc (.cells #[.int .u64 most] 29)).alloc (.cells #[.int .u64 0] 29)) (w.heap.size + 1 + 1) (.int .u64 0) := by
    have := Cell1.made ((w.alloc (.cells #[.pointer (some ⟨s, 0, none⟩)] 54)).alloc (.cells #[.int .u64 most] 29)) 29 (.int .u64 0)
    simpa using this
  obtain ⟨w3, hw3⟩ : ∃ w3, (((w.alloc (.cells #[.pointer (some ⟨s, 0, none⟩)] 54)).alloc (.cells #[.int .u64 most] 29)).alloc (.cells #[.int .u64 0] 29)) = w3 := ⟨_, rfl⟩
  rw [hw3] at hB hR3 g0 g1 g2
  have hs := hR.lt
  have hz3 := g2.lt
  obtain ⟨⟨x, S1⟩, hx⟩ : ∃ q, rNum most S = q := ⟨_, rfl⟩
  have HX := hid hx
  by_cases he : S.e = 0
  · have hW1 : wholeS S S1 = S1 := by have := wholeS_num (most := most) he; rw [hx] at this; exact this
    have H : Hid (∀ W, Below w3.heap.size w3 W → Calls Try.prog 140 #[.pointer (some ⟨w.heap.size, 0, none⟩), .pointer (some ⟨w.heap.size + 1, 0, none⟩), .pointer (some ⟨w.heap.size + 1 + 1, 0, none⟩)] W fun e W' => e = .returned (.tuple #[]) ∧ (∃ a' c', RdIs W' s a' c' S1) ∧ Cell1 W' (w.heap.size + 1 + 1) (.int .u64 x) ∧ Mut (fun k => k = s ∨ k = w.heap.size + 1 + 1) W W') := hid fun W h => numC_any HX hm (hR3.ext h) (cell_toB g0 h) (cell_toB g1 h) (g2.ext h) (by omega)
    have CW := hid (wholeN_any (G := fun k => k = s ∨ k = w.heap.size + 1 + 1) (Q := fun W => Cell1 W (w.heap.size + 1 + 1) (.int .u64 x)) hR3 he (.inl rfl) (fun k hk => by rcases hk with rfl | rfl <;> omega) H (fun W W' h hm => h.mutT hm (fun e => by have e : w.heap.size + 1 + 1 = s := e; omega)))
    have HW1 := hid hW1
    clear hx hW1 g1 g2 he hz3
    subst hw3
    go_enter Try.func89, Try.ntmps89
    go_wp2_with (go_at_call 139; refine CW.out.mono ?_; rintro e w4 ⟨rfl, ⟨a4, c4, hR4⟩, hQ4, hM4⟩; have z0 := hQ4.c)
    go_ret
    exact ⟨by rw [HX.out]; rfl, ⟨a4, c4, by rw [HX.out]; rw [HW1.out] at hR4; exact hR4⟩, hM4.weak hB (fun k hk e => by rcases e with e | e; exact e; omega)⟩
  · have HK := hid (rNum_skip (most := most) he)
    have hx0 : x = 0 ∧ S1 = S := by have := rNum_skip (most := most) he; rw [hx] at this; exact Prod.mk.inj this
    have CW := hid (wholeN_skip (p0 := .pointer (some ⟨w.heap.size, 0, none⟩)) (p1 := .pointer (some ⟨w.heap.size + 1, 0, none⟩)) (p2 := .pointer (some ⟨w.heap.size + 1 + 1, 0, none⟩)) hR3 he)
    have HG2 := hid g2
    clear hx g1 g2 he hx0 hz3
    subst hw3
    go_enter Try.func89, Try.ntmps89
    go_wp2_with (go_at_call 139; refine CW.out.mono ?_; rintro e w4 ⟨rfl, hb4⟩; have z0 := (HG2.out.ext hb4).c)
    go_ret
    exact ⟨by rw [HK.out]; rfl, ⟨a, c, by rw [HK.out]; exact hR3.ext hb4⟩, Mut.of_below (hB.trans (hb4.mono hB.size))⟩
end Go.Proofs.Yteodaakdjnjhmaa
