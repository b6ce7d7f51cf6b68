import Derived.Test.YteodaakdjnjhmaaX13
namespace Go.Proofs.Yteodaakdjnjhmaa
open Go.RowKit
/-- a box of two cells -/
structure BoxP (w : World) (b : Nat) (v0 v1 : Value) : Prop where
  c0 : w.cell? ⟨b, 0, none⟩ = some v0
  c1 : w.cell? ⟨b, 1, none⟩ = some v1
  f0 : w.frozen? ⟨b, 0, none⟩ = false
  f1 : w.frozen? ⟨b, 1, none⟩ = false
theorem BoxP.lt {w : World} {b : Nat} {v0 v1 : Value} (h : BoxP w b v0 v1) : b < w.heap.size := World.block_lt_of_cell? w _ h.c0
theorem BoxP.ext {w w' : World} {b : Nat} {v0 v1 : Value} (h : BoxP w b v0 v1) (hb : Below w.heap.size w w') : BoxP w' b v0 v1 :=
  ⟨cell_toB h.c0 hb, cell_toB h.c1 hb, (hb.frozen (by exact h.lt)).trans h.f0, (hb.frozen (by exact h.lt)).trans h.f1⟩
theorem BoxP.made (w : World) (t : TypeId) (v0 v1 : Value) : BoxP (w.alloc (.cells #[v0, v1] t)) w.heap.size v0 v1 := ⟨by simp, by simp, by simp, by simp⟩
theorem BoxP.mutT {G : Nat → Prop} {w w' : World} {b : Nat} {v0 v1 : Value} (h : BoxP w b v0 v1) (hm : Mut G w w') (hG : ¬ G b) : BoxP w' b v0 v1 :=
  ⟨cell_mut h.c0 hm hG, cell_mut h.c1 hm hG, (World.frozen?_of_block (w := w) (a := ⟨b, 0, none⟩) (hm.block b h.lt hG)).trans h.f0, (World.frozen?_of_block (w := w) (a := ⟨b, 1, none⟩) (hm.block b h.lt hG)).trans h.f1⟩
theorem BoxP.put {w : World} {b : Nat} {v0 v1 : Value} (h : BoxP w b v0 v1) (x y : Value) : BoxP ((w.setCell ⟨b, 0, none⟩ x).setCell ⟨b, 1, none⟩ y) b x y := by
  refine ⟨?_, ?_, by simp [h.f0], by simp [h.f1]⟩
  · rw [World.cell?_setCell_other _ _ _ _ (by simp)]
    exact World.cell?_setCell_same _ _ _ h.c0
  · refine World.cell?_setCell_same _ _ _ (u := v1) ?_
    rw [World.cell?_setCell_other _ _ _ _ (by simp)]
    exact h.c1
theorem mut2 {w : World} {s : Nat} {x y : Value} : Mut (fun k => k = s) w ((w.setCell ⟨s, 0, none⟩ x).setCell ⟨s, 1, none⟩ y) := mut1.trans mut1
theorem pidGet_is {a : Option Addr} {c n : Nat} {bs : List Nat} {w : World} {x y : Int} {u e : Nat} (h : Hid (getP bs = ((x, y), u, e))) (hn : Hid (bs.length = n)) (hc : n ≤ c) (hl : n ≤ 70368744177664) (hby : ∀ b ∈ bs, b < 256) (hrow : ByteRow w a bs) :
    Calls Try.prog 163 #[.slice a n c] w fun e' w' => e' = .returned (.tuple #[.agg #[.int .u16 x, .int .u32 y], .int .i64 u, .int .i64 e]) ∧ Below w.heap.size w w' := by
  have := pidGet_any (w := w) hn hc hl hby hrow
  rw [h.out] at this; exact this
theorem getS_ok {bs : List Nat} (h : (getS bs).2.2 = 0) : (getS bs).1 < 18446744073709551616 ∧ (getS bs).2.1 ≤ bs.length ∧ 0 < (getS bs).2.1 := by
  obtain ⟨h1, h2, h3, _⟩ := getFrom_ok bs 0 0 (by decide) (by decide) h
  exact ⟨h1, by unfold getS; omega, h2⟩
theorem getP_ok {bs : List Nat} (h : (getP bs).2.2 = 0) : (getP bs).2.1 ≤ bs.length ∧ okP (getP bs).1 := by
  unfold getP at h ⊢
  by_cases h1 : (getS bs).2.2 = 0
  · rw [if_neg (by simp [h1])] at h ⊢
    by_cases h2 : (getS (bs.drop (getS bs).2.1)).2.2 = 0
    · rw [if_neg (by simp [h2])] at h ⊢
      by_cases h3 : 65535 < (getS bs).1 ∨ 4294967295 < (getS (bs.drop (getS bs).2.1)).1
      · rw [if_pos h3] at h; simp at h
      · rw [if_neg h3]
        obtain ⟨_, g2, _⟩ := getS_ok h1
        obtain ⟨_, g4, _⟩ := getS_ok h2
        rw [List.length_drop] at g4
        exact ⟨by simp only; omega, by simp only [okP]; omega⟩
    · rw [if_pos h2] at h; exact absurd h h2
  · rw [if_pos h1] at h; exact absurd h h1
theorem rPid_ok (S : RS) : okP (rPid S).1 := by
  unfold rPid
  split
  · exact ⟨by simp, by simp, by simp, by simp⟩
  · split
    · exact ⟨by simp, by simp, by simp, by simp⟩
    · next h => exact (getP_ok (by simpa using h)).2
set_option maxRecDepth 100000 in
set_option maxHeartbeats 3200000 in
theorem rpid_any {s c : Nat} {a : Option Addr} {S S1 : RS} {w : World} {x y : Int} (hx : Hid (rPid S = ((x, y), S1))) (hR : RdIs w s a c S) :
    Calls Try.prog 143 #[.pointer (some ⟨s, 0, none⟩)] w fun e w' => e = .returned (.agg #[.int .u16 x, .int .u32 y]) ∧ (∃ a' c', RdIs w' s a' c' S1) ∧ Mut (fun k => k = s) w w' := by
  have hB : Below w.heap.size w (w.alloc (.cells #[.int .u16 0, .int .u32 0] 26)) := (Below.refl _ _).alloc (Nat.le_refl _) _
  have hR1 := hR.ext hB
  have hbx := BoxP.made w 26 (.int .u16 0) (.int .u32 0)
  have hs := hR.lt
  have hsn : ¬ w.heap.size = s := by omega
  have c0 := hR1.c0
  have c1 := hR1.c1
  have f0 := hR1.f0
  obtain ⟨n, hn⟩ : ∃ n, S.b.length = n := ⟨_, rfl⟩
  have hlen := hR.len
  have hcap := hR.cap
  rw [hn] at c0 hlen hcap
  have HN := hid hn
  have HBY := hid hR.byt
  have hrow := hR1.row
  have HR := hid hR
  obtain ⟨w1, hw1⟩ : ∃ w1, w.alloc (.cells #[.int .u16 0, .int .u32 0] 26) = w1 := ⟨_, rfl⟩
  rw [hw1] at hB hR1 hbx c0 c1 f0 hrow
  have hres : ∀ (W : World) (X Y : Int), BoxP W w.heap.size (.int .u16 X) (.int .u32 Y) → (W.cell? ⟨w.heap.size, 0, none⟩ = some (.int .u16 X) ∧ W.cell? ⟨w.heap.size, 1, none⟩ = some (.int .u32 Y)) := fun W X Y h => ⟨h.c0, h.c1⟩
  have HRES := hid hres
  clear hn hR hres
  by_cases he : S.e = 0
  · rw [he] at c1
    obtain ⟨⟨⟨px, py⟩, u, e⟩, hG⟩ : ∃ q, getP S.b = q := ⟨_, rfl⟩
    have hok := getP_ok (bs := S.b)
    rw [hG] at hok
    simp only at hok
    have HG := hid hG
    have HE := hid he
    clear hG he
    by_cases he2 : e = 0
    · subst he2
      have hu := (hok rfl).1
      rw [HN.out] at hu
      clear hok
      have HQ : Hid ((x, y) = (px, py) ∧ S1 = ⟨S.b.drop u, 0⟩) := hid (by
        have := hx.out
        unfold rPid at this
        rw [if_neg (by simp [HE.out]), if_neg (by rw [HG.out]; simp), HG.out] at this
        obtain ⟨h1, h2⟩ := Prod.mk.inj this
        exact ⟨h1.symm, h2.symm⟩)
      obtain ⟨e1, e2⟩ := Prod.mk.inj HQ.out.1
      subst e1; subst e2
      obtain ⟨A1, hA1⟩ : ∃ A, (if c = u then a else a.map (·.add (u * 1))) = A := ⟨_, rfl⟩
      have hrun := fun W => run_fromB (a := a) (c := c) hu W
      have hr2 := hrow.cut (k := u) (c := c) (by rw [HN.out]; exact hcap)
      have hf2 := hrow.cutA (k := u) (c := c) hR1.far
      rw [hA1] at hr2 hf2
      simp only [hA1] at hrun
      obtain ⟨n2, hn2⟩ : ∃ n2, n - u = n2 := ⟨_, rfl⟩
      obtain ⟨c2, hc2⟩ : ∃ c2, c - u = c2 := ⟨_, rfl⟩
      simp only [hn2, hc2] at hrun
      have hdl : (S.b.drop u).length = n2 := by rw [List.length_drop, HN.out, hn2]
      have HP : Hid (∀ W, RdIs W s a c S → ByteRow W A1 (S.b.drop u) → RdIs (W.setCell ⟨s, 0, none⟩ (.slice A1 n2 c2)) s A1 c2 ⟨S.b.drop u, S.e⟩) := hid (fun W hW hr => hW.put hdl.symm hr hf2 (by omega) (fun b hb => HBY.out b (List.mem_of_mem_drop hb)) (by omega))
      have HR2 := hid hr2
      clear hA1 hn2 hc2 hr2 hf2 hdl
      go_enter Try.func143, Try.ntmps143
      go_wp2_with (go_at_call 163; (with_reducible refine (pidGet_is HG HN hcap hlen HBY.out hrow).mono ?_); rintro e w2 ⟨rfl, hb2⟩; have hq2 := (Below.refl w2.heap.size w2).alloc (Nat.le_refl _) (.cells #[.int .u16 x, .int .u32 y] 26); have d0 := cell_toB (cell_toB c0 hb2) hq2; have d1 := ((hR1.ext hb2).ext hq2).f0; have hz2 := hb2.size; have hx2 := (((hbx.ext hb2).ext hq2).mutT (mut1 (s := s) (i := 0) (v := .slice A1 n2 c2)) (by exact hsn)); have hy2 := ((BoxP.made w2 26 (.int .u16 x) (.int .u32 y)).mutT (mut1 (s := s) (i := 0) (v := .slice A1 n2 c2)) (fun e => by have e : w2.heap.size = s := e; have := hB.size; omega)); obtain ⟨x0, x1, x2, x3⟩ := id hx2; obtain ⟨y0, y1, y2, y3⟩ := hy2)
      obtain ⟨p0, p1, p2, p3⟩ := hx2.put (.int .u16 x) (.int .u32 y)
      have p4 := World.cell?_setCell_same _ _ (.int .u16 x) x0
      have hbq := (hB.trans (hb2.mono hB.size)).alloc (hB.trans (hb2.mono hB.size)).size (.cells #[.int .u16 x, .int .u32 y] 26)
      have hRp := HP.out _ ((hR1.ext hb2).ext hq2) ((HR2.out.ext hb2).ext hq2)
      have hMt : Mut (fun k => k = s ∨ k = w.heap.size) (w2.alloc (.cells #[.int .u16 x, .int .u32 y] 26)) ((((w2.alloc (.cells #[.int .u16 x, .int .u32 y] 26)).setCell ⟨s, 0, none⟩ (.slice A1 n2 c2)).setCell ⟨w.heap.size, 0, none⟩ (.int .u16 x)).setCell ⟨w.heap.size, 1, none⟩ (.int .u32 y)) := ((mut1 (s := s)).mono (fun k _ e => .inl e)).trans (mut2.mono (fun k _ e => .inr e))
      exact bodyPost_ret (v := .agg #[.int .u16 x, .int .u32 y]) (by simp [results, Try.results143, go_sem, p0, p1, p4]) rfl ⟨rfl, ⟨A1, c2, by rw [HQ.out.2]; rw [HE.out] at hRp; exact hRp.mutT (G := fun k => k = w.heap.size) mut2 (fun k e => by rw [e]; exact hs)⟩, hMt.weak hbq (fun k hk e => by rcases e with e | e; exact e; omega)⟩
    · have HQ : Hid ((x, y) = (0, 0) ∧ S1 = ⟨S.b, e⟩) := hid (by
        have := hx.out
        unfold rPid at this
        rw [if_neg (by simp [HE.out]), if_pos (by rw [HG.out]; exact he2), HG.out] at this
        obtain ⟨h1, h2⟩ := Prod.mk.inj this
        exact ⟨h1.symm, h2.symm⟩)
      obtain ⟨e1, e2⟩ := Prod.mk.inj HQ.out.1
      subst e1; subst e2
      have hF : Hid (failS S e = ⟨S.b, e⟩) := hid (by unfold failS; rw [if_pos HE.out])
      have t1 : decide (e = 0) = false := by simpa using he2
      have t2 : decide ((e : Int) = 0) = false := by simp; omega
      have t3 : ((e : Int) == 0) = false := by simp; omega
      have t4 : ((e : Int) != 0) = true := by simp; omega
      clear hok
      go_enter Try.func143, Try.ntmps143
      go_wp2_with (first
        | (go_at_call 163; (with_reducible refine (pidGet_is HG HN hcap hlen HBY.out hrow).mono ?_); rintro e w2 ⟨rfl, hb2⟩; have hq2 := (Below.refl w2.heap.size w2).alloc (Nat.le_refl _) (.cells #[.int .u16 px, .int .u32 py] 26); have hR2 := hid ((hR1.ext hb2).ext hq2); have hx2 := hid ((hbx.ext hb2).ext hq2))
        | (go_at_call 144; (with_reducible refine (fail_any e hR2.out).mono ?_); rintro e w3 ⟨rfl, hR3, hM3⟩; have hx3 := hid (hx2.out.mutT hM3 (by exact hsn)); obtain ⟨x0, x1, x2, x3⟩ := hx3.out))
      obtain ⟨p0, p1, p2, p3⟩ := hx3.out.put (.int .u16 0) (.int .u32 0)
      have p4 := World.cell?_setCell_same w3 _ (.int .u16 0) x0
      have hbq := (hB.trans (hb2.mono hB.size)).alloc (hB.trans (hb2.mono hB.size)).size (.cells #[.int .u16 px, .int .u32 py] 26)
      have hMt : Mut (fun k => k = s ∨ k = w.heap.size) (w2.alloc (.cells #[.int .u16 px, .int .u32 py] 26)) ((w3.setCell ⟨w.heap.size, 0, none⟩ (.int .u16 0)).setCell ⟨w.heap.size, 1, none⟩ (.int .u32 0)) := (hM3.mono (fun k _ e => .inl e)).trans (mut2.mono (fun k _ e => .inr e))
      exact bodyPost_ret (v := .agg #[.int .u16 0, .int .u32 0]) (by simp [results, Try.results143, go_sem, p0, p1, p4]) rfl ⟨rfl, ⟨a, c, by rw [HQ.out.2, ← hF.out]; exact hR3.mutT (G := fun k => k = w.heap.size) mut2 (fun k e => by rw [e]; exact hs)⟩, hMt.weak hbq (fun k hk e => by rcases e with e | e; exact e; omega)⟩
  · have HQ : Hid ((x, y) = (0, 0) ∧ S1 = S) := hid (by
      have := hx.out
      unfold rPid at this
      rw [if_pos he] at this
      obtain ⟨h1, h2⟩ := Prod.mk.inj this
      exact ⟨h1.symm, h2.symm⟩)
    obtain ⟨e1, e2⟩ := Prod.mk.inj HQ.out.1
    subst e1; subst e2
    have t1 : decide (S.e = 0) = false := by simpa using he
    have t2 : decide ((S.e : Int) = 0) = false := by simp; omega
    have t3 : ((S.e : Int) == 0) = false := by simp; omega
    have t4 : ((S.e : Int) != 0) = true := by simp; omega
    obtain ⟨x0, x1, x2, x3⟩ := id hbx
    obtain ⟨p0, p1, p2, p3⟩ := hbx.put (.int .u16 0) (.int .u32 0)
    have p4 := World.cell?_setCell_same w1 _ (.int .u16 0) x0
    clear he
    go_enter Try.func143, Try.ntmps143
    go_wp2
    exact bodyPost_ret (v := .agg #[.int .u16 0, .int .u32 0]) (by simp [results, Try.results143, go_sem, p0, p1, p4]) rfl ⟨rfl, ⟨a, c, by rw [HQ.out.2]; exact hR1.mutT (G := fun k => k = w.heap.size) mut2 (fun k e => by rw [e]; exact hs)⟩, (mut2 (s := w.heap.size)).weak hB (fun k hk e => by have e : k = w.heap.size := e; omega)⟩
end Go.Proofs.Yteodaakdjnjhmaa
