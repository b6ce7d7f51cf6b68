import Derived.Test.YteodaakdjnjhmaaX37
import Derived.Test.YteodaakdjnjhmaaX32
import Derived.Test.YteodaakdjnjhmaaX38
namespace Go.Proofs.Yteodaakdjnjhmaa
open Go.RowKit

/-! ### the reference's reader -/
set_option maxRecDepth 100000 in
set_option maxHeartbeats 1600000 in
theorem rNumR_any {s c : Nat} {a : Option Addr} {S : RS} {w : World} (most : Nat) (h : RdIs w s a c S) :
    Calls Try.prog 111 #[.pointer (some ⟨s, 0, none⟩), .int .u64 most] w fun e w' => e = .returned (.int .u64 (rNum most S).1) ∧ (∃ a' c', RdIs w' s a' c' (rNum most S).2) ∧ Mut (fun k => k = s) w w' := by
  have c0 := h.c0
  have c1 := h.c1
  have f0 := h.f0
  have f1 := h.f1
  obtain ⟨n, hn⟩ : ∃ n, S.b.length = n := ⟨_, rfl⟩
  have hlen := h.len
  have hcap := h.cap
  rw [hn] at c0 hlen hcap
  have HN := hid hn
  have HBY := hid h.byt
  have hrow := h.row
  clear hn
  by_cases he : S.e = 0
  · rw [he] at c1
    obtain ⟨⟨x, u, e⟩, hG⟩ : ∃ q, getS S.b = q := ⟨_, rfl⟩
    have hok := getFrom_ok S.b 0 0 (by decide) (by decide)
    rw [show getFrom 0 0 S.b = getS S.b from rfl, hG] at hok
    simp only at hok
    have HG := hid hG
    have HE := hid he
    have GS := hid (getShortR_is (c := c) HG HN hlen HBY.out hrow)
    clear hG he
    by_cases he2 : e = 0
    · subst he2
      obtain ⟨q1, q2, q3, q4⟩ := hok rfl
      rw [HN.out] at q3
      have hu : u ≤ n := by omega
      clear hok
      by_cases hx : most < x
      · have HR : Hid (rNum most S = (0, ⟨S.b, 3⟩)) := hid (by unfold rNum; simp only [HG.out]; rw [if_neg (by simp [HE.out]), if_neg (by simp), if_pos hx])
        have t1 : decide (most < x) = true := by simpa using hx
        have t1' : decide ((most : Int) < (x : Int)) = true := by simpa using hx
        have t1'' : decide ((x : Int) > (most : Int)) = true := by simpa using hx
        have HB : Hid (RdIs (w.setCell ⟨s, 1, none⟩ (.int .i64 3)) s a c ⟨S.b, 3⟩) := hid (h.bad 3)
        go_enter Try.func111, Try.ntmps111
        go_wp2_with fail
        refine GS.out.mono ?_
        rintro e w' ⟨rfl, rfl⟩
        go_wp2
        go_ret
        exact ⟨by rw [HR.out]; rfl, ⟨a, c, by rw [HR.out]; exact HB.out⟩, mut1⟩
      · have t1 : decide (most < x) = false := by simpa using hx
        have t1' : decide ((most : Int) < (x : Int)) = false := by simpa using hx
        have t1'' : decide ((x : Int) > (most : Int)) = false := by simpa using hx
        obtain ⟨A1, hA1⟩ : ∃ A, (if c = u then a else a.map (·.add (u * 1))) = A := ⟨_, rfl⟩
        have hrun := fun W => run_fromB (a := a) (c := c) hu W
        have hr2 := hrow.cut (k := u) (c := c) (by rw [HN.out]; exact hcap)
        have hf2 := hrow.cutA (k := u) (c := c) h.far
        rw [hA1] at hr2 hf2
        simp only [hA1] at hrun
        obtain ⟨n2, hn2⟩ : ∃ n2, n - u = n2 := ⟨_, rfl⟩
        obtain ⟨c2, hc2⟩ : ∃ c2, c - u = c2 := ⟨_, rfl⟩
        simp only [hn2, hc2] at hrun
        have hdl : (S.b.drop u).length = n2 := by rw [List.length_drop, HN.out, hn2]
        have HR : Hid (rNum most S = (x, ⟨S.b.drop u, 0⟩)) := hid (by unfold rNum; simp only [HG.out]; rw [if_neg (by simp [HE.out]), if_neg (by simp), if_neg hx])
        have HP : Hid (RdIs (w.setCell ⟨s, 0, none⟩ (.slice A1 n2 c2)) s A1 c2 ⟨S.b.drop u, S.e⟩) := hid (h.put hdl.symm hr2 hf2 (by omega) (fun b hb => HBY.out b (List.mem_of_mem_drop hb)) (by omega))
        clear hA1 hn2 hc2 hr2 hf2 hdl
        go_enter Try.func111, Try.ntmps111
        go_wp2_with fail
        refine GS.out.mono ?_
        rintro e w' ⟨rfl, rfl⟩
        go_wp2
        go_ret
        exact ⟨by rw [HR.out]; rfl, ⟨A1, c2, by rw [HR.out]; have := HP.out; rw [HE.out] at this; exact this⟩, mut1⟩
    · have HR : Hid (rNum most S = (0, ⟨S.b, e⟩)) := hid (by unfold rNum; simp only [HG.out]; rw [if_neg (by simp [HE.out]), if_pos he2])
      have t2 : ((e : Int) == 0) = false := by simp; omega
      have t4 : ((e : Int) != 0) = true := by simp; omega
      have HB : Hid (RdIs (w.setCell ⟨s, 1, none⟩ (.int .i64 e)) s a c ⟨S.b, e⟩) := hid (h.bad e)
      clear hok he2
      go_enter Try.func111, Try.ntmps111
      go_wp2_with fail
      refine GS.out.mono ?_
      rintro e w' ⟨rfl, rfl⟩
      go_wp2
      go_ret
      exact ⟨by rw [HR.out]; rfl, ⟨a, c, by rw [HR.out]; exact HB.out⟩, mut1⟩
  · have HR : Hid (rNum most S = (0, S)) := hid (by unfold rNum; rw [if_pos he])
    have t4 : ((S.e : Int) != 0) = true := by simp; omega
    clear he
    go_enter Try.func111, Try.ntmps111
    go_wp2
    go_ret
    exact ⟨by rw [HR.out]; rfl, ⟨a, c, by rw [HR.out]; exact h⟩, Mut.refl _ _⟩
theorem rNumR_is {s c most x : Nat} {z : Int} {a : Option Addr} {S S1 : RS} {w : World} (hz : z = (most : Int)) (hx : Hid (rNum most S = (x, S1))) (hR : RdIs w s a c S) :
    Calls Try.prog 111 #[.pointer (some ⟨s, 0, none⟩), .int .u64 z] w fun e w' => e = .returned (.int .u64 x) ∧ (∃ a' c', RdIs w' s a' c' S1) ∧ Mut (fun k => k = s) w w' := by
  subst hz
  have := rNumR_any most hR
  rw [hx.out] at this; exact this
theorem pidGetR_it {a : Option Addr} {c n : Nat} {bs : List Nat} {w : World} {x y : Int} {u e : Nat} (h : Hid (getP bs = ((x, y), u, e))) (hn : Hid (bs.length = n)) (hc : n ≤ c) (hl : n ≤ 70368744177664) (hby : ∀ b ∈ bs, b < 256) (hrow : ByteRow w a bs) :
    Calls Try.prog 150 #[.slice a n c] w fun e' w' => e' = .returned (.tuple #[.agg #[.int .u16 x, .int .u32 y], .int .i64 u, .int .i64 e]) ∧ Below w.heap.size w w' := by
  have := pidGetR_any (w := w) hn hc hl hby hrow
  rw [h.out] at this; exact this
set_option maxRecDepth 100000 in
set_option maxHeartbeats 3200000 in
theorem rPidR_any {s c : Nat} {a : Option Addr} {S S1 : RS} {w : World} {x y : Int} (hX : Hid (rPid S = ((x, y), S1))) (h : RdIs w s a c S) :
    Calls Try.prog 112 #[.pointer (some ⟨s, 0, none⟩)] w fun e w' => e = .returned (.agg #[.int .u16 x, .int .u32 y]) ∧ (∃ a' c', RdIs w' s a' c' S1) ∧ Mut (fun k => k = s) w w' := by
  have hB : Below w.heap.size w (w.alloc (.cells #[.int .u16 0, .int .u32 0] 26)) := (Below.refl _ _).alloc (Nat.le_refl _) _
  have h1 := h.ext hB
  have g2 := BoxP.made w 26 (.int .u16 0) (.int .u32 0)
  have hs := h.lt
  have c0 := h1.c0
  have c1 := h1.c1
  have f0 := h1.f0
  have f1 := h1.f1
  obtain ⟨n, hn⟩ : ∃ n, S.b.length = n := ⟨_, rfl⟩
  have hlen := h1.len
  have hcap := h1.cap
  rw [hn] at c0 hlen hcap
  have HN := hid hn
  have HBY := hid h1.byt
  have hrow := h1.row
  have HB := hid hB
  have H1 := hid h1
  have HG2 := hid g2
  by_cases he : S.e = 0
  · rw [he] at c1
    obtain ⟨⟨⟨gx, gy⟩, u, e⟩, hG⟩ : ∃ q, getP S.b = q := ⟨_, rfl⟩
    have hok := getP_ok (bs := S.b)
    rw [hG] at hok
    simp only at hok
    have HG := hid hG
    have HE := hid he
    have GS := hid (pidGetR_it (c := c) HG HN hcap hlen HBY.out hrow)
    clear hG he hn g2
    by_cases he2 : e = 0
    · subst he2
      have hu : u ≤ n := by have := (hok rfl).1; rw [HN.out] at this; exact this
      have HR : Hid (((gx, gy), (⟨S.b.drop u, 0⟩ : RS)) = ((x, y), S1)) := hid (by rw [← hX.out]; unfold rPid; simp only [HG.out]; rw [if_neg (by simp [HE.out]), if_neg (by simp)])
      obtain ⟨e1, e2⟩ := Prod.mk.inj HR.out
      obtain ⟨e3, e4⟩ := Prod.mk.inj e1
      subst e3; subst e4; subst e2
      obtain ⟨A1, hA1⟩ : ∃ A, (if c = u then a else a.map (·.add (u * 1))) = A := ⟨_, rfl⟩
      have hrun := fun W => run_fromB (a := a) (c := c) hu W
      simp only [hA1] at hrun
      obtain ⟨n2, hn2⟩ : ∃ n2, n - u = n2 := ⟨_, rfl⟩
      obtain ⟨c2, hc2⟩ : ∃ c2, c - u = c2 := ⟨_, rfl⟩
      simp only [hn2, hc2] at hrun
      have hdl : (S.b.drop u).length = n2 := by rw [List.length_drop, HN.out, hn2]
      have HD := hid hdl
      have HA1 := hid hA1
      have HN2 := hid (And.intro hn2 hc2)
      clear hok hA1 hn2 hc2 hdl e1
      go_enter Try.func112, Try.ntmps112
      go_wp2_with fail
      refine GS.out.mono ?_
      rintro e w4 ⟨rfl, hb4⟩
      have hq : Below w4.heap.size w4 (w4.alloc (.cells #[.int .u16 gx, .int .u32 gy] 26)) := (Below.refl _ _).alloc (Nat.le_refl _) _
      have h4 := (H1.out.ext hb4).ext hq
      have g4 := (HG2.out.ext hb4).ext hq
      have r0 := h4.c0
      have r1 := h4.c1
      rw [HN.out] at r0
      rw [HE.out] at r1
      have rf := h4.f0
      obtain ⟨z0, z1, z2, z3⟩ := id g4
      have hr2 := h4.row.cut (k := u) (c := c) (by rw [HN.out]; exact hcap)
      have hf2 := h4.row.cutA (k := u) (c := c) h4.far
      rw [HA1.out] at hr2 hf2
      have hn2 := HN2.out
      have hP : RdIs ((w4.alloc (.cells #[.int .u16 gx, .int .u32 gy] 26)).setCell ⟨s, 0, none⟩ (.slice A1 n2 c2)) s A1 c2 ⟨S.b.drop u, S.e⟩ := h4.put HD.out.symm hr2 hf2 (by rw [HD.out]; omega) (fun b hb => HBY.out b (List.mem_of_mem_drop hb)) (by rw [HD.out]; omega)
      rw [HE.out] at hP
      have hgs : s < w.heap.size := hs
      have g5 := g4.mutT (mut1 (s := s) (i := 0) (v := .slice A1 n2 c2)) (fun e => by have e : w.heap.size = s := e; omega)
      have HP := hid hP
      have HG5 := hid g5
      have hsw : w.heap.size + 1 ≤ w4.heap.size := by have := hb4.size; simp at this; exact this
      have hbp := BoxP.made w4 26 (.int .u16 gx) (.int .u32 gy)
      have hbp5 := hbp.mutT (mut1 (s := s) (i := 0) (v := .slice A1 n2 c2)) (fun e => by have e : w4.heap.size = s := e; omega)
      have HM : Hid (Mut (fun k => k = s ∨ k = w.heap.size) w ((w4.alloc (.cells #[.int .u16 gx, .int .u32 gy] 26)).setCell ⟨s, 0, none⟩ (.slice A1 n2 c2))) := hid (((Mut.of_below (HB.out.trans (hb4.mono HB.out.size))).trans (Mut.of_below hq)).trans (mut1.mono (fun k _ e => .inl e)))
      obtain ⟨y0, y1, y2, y3⟩ := g5
      obtain ⟨v0, v1, -, -⟩ := hbp5
      have HGS : Hid (s ≠ w.heap.size ∧ s < w.heap.size) := hid ⟨by omega, hs⟩
      clear h4 g4 hP hbp hq hb4 hr2 hf2
      go_wp2
      obtain ⟨p0, p1, p2, p3⟩ := HG5.out.put (.int .u16 gx) (.int .u32 gy)
      have p4 := World.cell?_setCell_same _ _ (.int .u16 gx) y0
      exact bodyPost_ret (v := .agg #[.int .u16 gx, .int .u32 gy]) (by simp [results, Try.results112, go_sem, p0, p1, p4]) rfl ⟨rfl, ⟨A1, c2, HP.out.mutT (G := fun k => k = w.heap.size) mut2 (fun k e => by rw [e]; exact HGS.out.2)⟩, (HM.out.trans ((mut2 (s := w.heap.size) (x := .int .u16 gx) (y := .int .u32 gy)).mono (fun k _ e => .inr e))).mono (fun k hk e => e.elim id (fun h => absurd h (by omega)))⟩
    · have HR : Hid (((0, 0), (⟨S.b, e⟩ : RS)) = ((x, y), S1)) := hid (by rw [← hX.out]; unfold rPid; simp only [HG.out]; rw [if_neg (by simp [HE.out]), if_pos he2])
      obtain ⟨e1, e2⟩ := Prod.mk.inj HR.out
      obtain ⟨e3, e4⟩ := Prod.mk.inj e1
      subst e3; subst e4; subst e2
      have t4 : ((e : Int) != 0) = true := by simp; omega
      clear hok he2 e1
      go_enter Try.func112, Try.ntmps112
      go_wp2_with fail
      refine GS.out.mono ?_
      rintro e' w4 ⟨rfl, hb4⟩
      have hq : Below w4.heap.size w4 (w4.alloc (.cells #[.int .u16 gx, .int .u32 gy] 26)) := (Below.refl _ _).alloc (Nat.le_refl _) _
      have h4 := (H1.out.ext hb4).ext hq
      have g4 := (HG2.out.ext hb4).ext hq
      have r1 := h4.c1
      rw [HE.out] at r1
      have rf := h4.f1
      have HBD := hid (h4.bad e)
      have g5 := g4.mutT (mut1 (s := s) (i := 1) (v := .int .i64 e)) (fun e => by have e : w.heap.size = s := e; omega)
      have HG5 := hid g5
      obtain ⟨z0, z1, z2, z3⟩ := id g4
      obtain ⟨y0, y1, y2, y3⟩ := g5
      have HM : Hid (Mut (fun k => k = s ∨ k = w.heap.size) w ((w4.alloc (.cells #[.int .u16 gx, .int .u32 gy] 26)).setCell ⟨s, 1, none⟩ (.int .i64 e))) := hid (((Mut.of_below (HB.out.trans (hb4.mono HB.out.size))).trans (Mut.of_below hq)).trans (mut1.mono (fun k _ e => .inl e)))
      have HGS : Hid (s < w.heap.size) := hid hs
      clear h4 g4 hq hb4
      go_wp2
      obtain ⟨p0, p1, p2, p3⟩ := HG5.out.put (.int .u16 0) (.int .u32 0)
      have p4 := World.cell?_setCell_same _ _ (.int .u16 0) y0
      exact bodyPost_ret (v := .agg #[.int .u16 0, .int .u32 0]) (by simp [results, Try.results112, go_sem, p0, p1, p4]) rfl ⟨rfl, ⟨a, c, HBD.out.mutT (G := fun k => k = w.heap.size) mut2 (fun k e => by rw [e]; exact HGS.out)⟩, (HM.out.trans ((mut2 (s := w.heap.size) (x := .int .u16 0) (y := .int .u32 0)).mono (fun k _ e => .inr e))).mono (fun k hk e => e.elim id (fun h => absurd h (by omega)))⟩
  · have HR : Hid (((0, 0), S) = ((x, y), S1)) := hid (by rw [← hX.out, rPid_skip he])
    obtain ⟨e1, e2⟩ := Prod.mk.inj HR.out
    obtain ⟨e3, e4⟩ := Prod.mk.inj e1
    subst e3; subst e4; subst e2
    have t4 : ((S.e : Int) != 0) = true := by simp; omega
    obtain ⟨z0, z1, z2, z3⟩ := id g2
    clear he e1
    go_enter Try.func112, Try.ntmps112
    go_wp2
    exact bodyPost_ret (v := .agg #[.int .u16 0, .int .u32 0]) (by simp [results, Try.results112, go_sem]) rfl ⟨rfl, ⟨a, c, H1.out⟩, Mut.of_below HB.out⟩
end Go.Proofs.Yteodaakdjnjhmaa
namespace Go.Proofs.Yteodaakdjnjhmaa
open Go.RowKit

/-! ### the reference's Bytes, Pids, places -/
theorem OwnB.made0 (w : World) : OwnB (w.alloc (.cells #[] 5)) w.heap.size (.slice (some ⟨w.heap.size, 0, none⟩) 0 0) [] := World.ownsRow_made (w := w) #[] 0 (Nat.le_refl _) (by unfold maxLen; omega) (by simp)
theorem grownB_mut {w w' : World} {base : Nat} {v : Value} {xs : List Nat} (hg : w.grownBy w' v.ownBlock) (hown : OwnB w base v xs) : Mut (fun k => base ≤ k) w w' :=
  ⟨hg.os, hg.tape, hg.output, hg.size, fun k hk hf => hg.block k hk (fun e => hf (World.ownsRow.lt hown k e.symm).1)⟩
set_option maxRecDepth 100000 in
set_option maxHeartbeats 6400000 in
theorem rBytesR_any {s c : Nat} {a : Option Addr} {S S9 : RS} {L : List Nat} {w : World} {z : Int} (most : Nat) (hz : z = (most : Int)) (hx : Hid (rBytes most S = (L, S9))) (hm : most ≤ 1000) (hR : RdIs w s a c S) :
    Calls Try.prog 113 #[.pointer (some ⟨s, 0, none⟩), .int .i64 z] w fun e w' => (∃ v, e = .returned v ∧ OwnB w' w.heap.size v L) ∧ (∃ a' c', RdIs w' s a' c' S9) ∧ Mut (fun k => k = s) w w' := by
  subst hz
  have c0 := hR.c0
  obtain ⟨n0, hn0⟩ : ∃ n, S.b.length = n := ⟨_, rfl⟩
  rw [hn0] at c0
  have HN0 := hid hn0
  obtain ⟨⟨n, S1⟩, h1⟩ : ∃ q, rNum most S = q := ⟨_, rfl⟩
  have hn : n ≤ 1000 := by have := rNum_le (most := most) (S := S); rw [h1] at this; simp only at this; omega
  have hmax : max ((most : Nat) : Int) 0 = most := by omega
  have ewm : IntKind.u64.wrap ((most : Nat) : Int) = ((most : Nat) : Int) := by rw [IntKind.wrap_u64]; omega
  have CN := hid (rNumR_is rfl (hid h1) hR)
  have H1 := hid h1
  have HR := hid hR
  clear h1 hn0
  go_enter Try.func113, Try.ntmps113
  go_wp2_with fail
  refine CN.out.mono ?_
  rintro e w1 ⟨rfl, ⟨a1, c1, hR1⟩, hM1⟩
  obtain ⟨ln, hln⟩ : ∃ k, S1.b.length = k := ⟨_, rfl⟩
  have r0 := hR1.c0
  have r1 := hR1.c1
  have rf0 := hR1.f0
  have rf1 := hR1.f1
  have hcap := hR1.cap
  have hlen := hR1.len
  rw [hln] at r0 hcap hlen
  have HLN := hid hln
  have ewl : IntKind.u64.wrap ((ln : Nat) : Int) = ((ln : Nat) : Int) := by rw [IntKind.wrap_u64]; omega
  have HM1 := hid hM1
  have HR1 := hid hR1
  clear CN hmax ewm hM1 hln hR1 c0
  by_cases he : S1.e = 0
  · have he0 : S.e = 0 := by
      by_cases h : S.e = 0
      · exact h
      · have := H1.out
        rw [rNum_skip h] at this
        cases this; exact he
    rw [he] at r1
    by_cases hl : ln < n
    · have t1 : decide ((n : Int) > (ln : Int)) = true := by simp <;> omega
      have t2 : decide ((ln : Int) < (n : Int)) = true := by simp <;> omega
      have t3 : decide (ln < n) = true := by simpa using hl
      have HB2 := hid (HR1.out.bad 2)
      have hrow1 : ByteRow w1 a S.b := HR.out.row.mutT HM1.out (fun b off e hne hk => by have := HR.out.far b off e hne; have hk : b = s := hk; omega)
      have hrow2 : ByteRow (w1.setCell ⟨s, 1, none⟩ (.int .i64 2)) a S.b := hrow1.setFar HR.out.far
      have HP := hid ((HR1.out.bad 2).put HN0.out.symm hrow2 HR.out.far HR.out.cap HR.out.byt HR.out.len)
      have HEND : Hid (([], (⟨S.b, 2⟩ : RS)) = (L, S9)) := hid (by
        rw [← hx.out]; unfold rBytes
        rw [if_neg (by simp [he0]), H1.out]; simp only
        rw [if_neg (by simp [he]), if_pos (by rw [HLN.out]; exact hl)])
      obtain ⟨q0, q1⟩ := And.intro HB2.out.c0 HB2.out.f0
      have HW : (w1.setCell ⟨s, 1, none⟩ (.int .i64 ((2 : Nat) : Int))).cell? ⟨s, 1, none⟩ = some (.int .i64 2) := HB2.out.c1
      clear he hl hrow1 hrow2
      go_wp2
      go_ret
      obtain ⟨e1, e2⟩ := Prod.mk.inj HEND.out
      subst e1; subst e2
      exact ⟨⟨_, rfl, OwnB.nil _ _⟩, ⟨a, c, HP.out⟩, HM1.out.trans (mut1.trans mut1)⟩
    · have t1 : decide ((n : Int) > (ln : Int)) = false := by simp <;> omega
      have t2 : decide ((ln : Int) < (n : Int)) = false := by simp <;> omega
      have t3 : decide (ln < n) = false := by simpa using hl
      have HEND : Hid ((S1.b.take n, (⟨S1.b.drop n, 0⟩ : RS)) = (L, S9)) := hid (by
        rw [← hx.out]; unfold rBytes
        rw [if_neg (by simp [he0]), H1.out]; simp only
        rw [if_neg (by simp [he]), if_neg (by rw [HLN.out]; exact hl)])
      have hup := fun W => run_uptoBu (a := a1) (n := ln) (c := c1) (k := n) (by omega) W
      simp only [uptoA, Nat.sub_zero] at hup
      obtain ⟨A1, hA1⟩ : ∃ A, (if c1 = n then a1 else a1.map (·.add (n * 1))) = A := ⟨_, rfl⟩
      have hfr := fun W => run_fromBu (a := a1) (n := ln) (c := c1) (k := n) (by omega) W
      simp only [hA1] at hfr
      obtain ⟨n2, hn2⟩ : ∃ n2, ln - n = n2 := ⟨_, rfl⟩
      obtain ⟨k2, hk2⟩ : ∃ k2, c1 - n = k2 := ⟨_, rfl⟩
      simp only [hn2, hk2] at hfr
      have hq : Below w1.heap.size w1 (w1.alloc (.cells #[] 5)) := (Below.refl _ _).alloc (Nat.le_refl _) _
      have hrt := (HR1.out.row.upto n).ext hq
      have HTL : Hid ((S1.b.take n).length = n) := hid (by rw [List.length_take, HLN.out]; omega)
      have h2 := HR1.out.ext hq
      have r20 := h2.c0
      rw [HLN.out] at r20
      have hown := OwnB.made0 w1
      have HHE := hid he
      have HA1 := hid hA1
      have HN2 := hid (And.intro hn2 hk2)
      have H2 := hid h2
      have hs1 := HR1.out.lt
      clear he hl hA1 hn2 hk2 h2
      go_wp2_with (at_builtin; refine wpList_appendB hown hrt HTL (by simp; omega) (by simp) rfl rfl rfl rfl ?_; intro v4 w4 hown4 hg4 hat4; obtain ⟨q4, k4, e4, -, -⟩ := hown4.row; subst e4; have hgm := grownB_mut hg4 hown; have h4 := H2.out.mutT hgm (fun k e => by have e : w1.heap.size ≤ k := e; omega); have r40 := h4.c0; rw [HLN.out] at r40; have f40 := h4.f0; have HOWN4 := hid hown4; have HGM := hid hgm; have H4 := hid h4; clear hat4 hg4 hown4 hgm h4)
      go_ret
      have h4 := H4.out
      have hr2 := h4.row.cut (k := n) (c := c1) (by rw [HLN.out]; exact hcap)
      have hf2 := h4.row.cutA (k := n) (c := c1) h4.far
      rw [HA1.out] at hr2 hf2
      have hdl : (S1.b.drop n).length = n2 := by rw [List.length_drop, HLN.out, HN2.out.1]
      have hk2 := HN2.out
      have hP : RdIs (w4.setCell ⟨s, 0, none⟩ (.slice A1 n2 k2)) s A1 k2 ⟨S1.b.drop n, S1.e⟩ := h4.put hdl.symm hr2 hf2 (by omega) (fun b hb => HR1.out.byt b (List.mem_of_mem_drop hb)) (by omega)
      rw [HHE.out] at hP
      obtain ⟨e1, e2⟩ := Prod.mk.inj HEND.out
      subst e1; subst e2
      have hM : Mut (fun k => k = s ∨ w1.heap.size ≤ k) w (w4.setCell ⟨s, 0, none⟩ (.slice A1 n2 k2)) :=
        (((HM1.out.mono (fun k _ e => .inl e)).trans (Mut.of_below hq)).trans (HGM.out.mono (fun k _ e => .inr e))).trans (mut1.mono (fun k _ e => .inl e))
      have hws := HM1.out.size
      have ho := (HOWN4.out.mono (b' := w.heap.size) hws).mutT (mut1 (s := s) (i := 0) (v := .slice A1 n2 k2)) (fun k e => by rw [e]; exact HR.out.lt)
      refine ⟨⟨_, rfl, ?_⟩, ⟨A1, k2, hP⟩, hM.mono (fun k hk e => e.elim id (fun h => absurd h (by omega)))⟩
      simpa using ho
  · have t4 : ((S1.e : Int) == 0) = false := by simp; omega
    have t5 : ((S1.e : Int) != 0) = true := by simp; omega
    have hrow1 : ByteRow w1 a S.b := HR.out.row.mutT HM1.out (fun b off e hne hk => by have := HR.out.far b off e hne; have hk : b = s := hk; omega)
    have HP := hid (HR1.out.put HN0.out.symm hrow1 HR.out.far HR.out.cap HR.out.byt HR.out.len)
    have HEND : Hid (([], (⟨S.b, S1.e⟩ : RS)) = (L, S9)) := hid (by
      rw [← hx.out]
      by_cases h0 : S.e = 0
      · unfold rBytes
        rw [if_neg (by simp [h0]), H1.out]; simp only
        rw [if_pos he]
      · have := H1.out
        rw [rNum_skip h0] at this
        cases this
        rw [rBytes_skip h0])
    clear he hrow1
    go_wp2
    go_ret
    obtain ⟨e1, e2⟩ := Prod.mk.inj HEND.out
    subst e1; subst e2
    exact ⟨⟨_, rfl, OwnB.nil _ _⟩, ⟨a, c, HP.out⟩, HM1.out.trans mut1⟩
set_option maxRecDepth 100000 in
set_option maxHeartbeats 3200000 in
theorem rPidsR_any {s c : Nat} {a : Option Addr} {S S9 : RS} {L9 : List Pid} {w : World} {z : Int} (most : Nat) (hz : z = (most : Int)) (hx : Hid (rPids most S = (L9, S9))) (hm : most ≤ 1000) (hR : RdIs w s a c S) :
    Calls Try.prog 117 #[.pointer (some ⟨s, 0, none⟩), .int .i64 z] w fun e w' => (∃ v, e = .returned v ∧ OwnP w' w.heap.size v L9) ∧ (∃ a' c', RdIs w' s a' c' S9) ∧ Mut (fun k => k = s) w w' := by
  subst hz
  have c0 := hR.c0
  obtain ⟨n0, hn0⟩ : ∃ n, S.b.length = n := ⟨_, rfl⟩
  rw [hn0] at c0
  have HN0 := hid hn0
  obtain ⟨⟨n, S1⟩, h1⟩ : ∃ q, rNum most S = q := ⟨_, rfl⟩
  obtain ⟨⟨L, S2⟩, h2⟩ : ∃ q, rPidsN n S1 = q := ⟨_, rfl⟩
  have hn : n ≤ 1000 := by have := rNum_le (most := most) (S := S); rw [h1] at this; simp only at this; omega
  have hmax : max ((most : Nat) : Int) 0 = most := by omega
  have ewm : IntKind.u64.wrap ((most : Nat) : Int) = ((most : Nat) : Int) := by rw [IntKind.wrap_u64]; omega
  have CN := hid (rNumR_is rfl (hid h1) hR)
  have HEND : Hid (((if S2.e = 0 then L else []), (if S2.e = 0 then S2 else ⟨S.b, S2.e⟩)) = (L9, S9)) := hid (by
    rw [← hx.out]
    by_cases h0 : S.e = 0
    · rw [rPids_eq h0 h1 h2]; rfl
    · rw [rNum_skip h0] at h1
      cases h1
      rw [rPidsN_stop h0] at h2
      cases h2
      rw [rPids_skip h0, if_neg h0, if_neg h0])
  have H2 := hid h2
  have HR := hid hR
  have hsw := hR.lt
  clear h1 h2 hn0
  go_enter Try.func117, Try.ntmps117
  go_wp2_with fail
  refine CN.out.mono ?_
  rintro e w1 ⟨rfl, hR1, hM1⟩
  clear CN hmax ewm c0
  go_wp2_with fail
  go_loopw [7, 8] (fun v i wr => ∃ (k : Nat) (got : List Pid) (T : RS), k ≤ n ∧ i = .int .u64 k ∧ got.length = k ∧ (∃ a' c', RdIs wr s a' c' T) ∧ OwnP wr w.heap.size v got ∧ Hid (L = got ++ (rPidsN (n - k) T).1 ∧ S2 = (rPidsN (n - k) T).2) ∧ Mut (fun k => k = s) w wr) (fun _ i _ => n - (intOf i).toNat)
  case atStart =>
    exact ⟨0, [], S1, Nat.zero_le _, rfl, rfl, hR1, OwnP.nil _ _, hid (by rw [Nat.sub_zero, H2.out]; simp), hM1⟩
  case round =>
    obtain ⟨k, got, T, hk, rfl, hgl, ⟨a2, c2, hRT⟩, hown, hM, hmut⟩ := hrel
    have HRT := hid hRT
    have HOWN := hid hown
    have HMU := hid hmut
    have HGL := hid hgl
    have r0 := hRT.c0
    have r1 := hRT.c1
    have rf0 := hRT.f0
    by_cases he : T.e = 0
    · rw [he] at r1
      by_cases hlt : k < n
      · have t1 : decide ((k : Int) < (n : Int)) = true := by simpa using hlt
        have t1' : decide (k < n) = true := by simpa using hlt
        obtain ⟨⟨⟨x, y⟩, T2⟩, hq⟩ : ∃ p, rPid T = p := ⟨_, rfl⟩
        have CP := hid (rPidR_any (hid hq) hRT)
        have HM2 : Hid (L = (got ++ [(x, y)]) ++ (rPidsN (n - (k + 1)) T2).1 ∧ S2 = (rPidsN (n - (k + 1)) T2).2) := hid (by
          have := hM.out
          rw [show n - k = (n - (k + 1)) + 1 by omega, rPidsN_step he hq] at this
          exact ⟨by rw [this.1]; simp, this.2⟩)
        have HLT := hid hlt
        clear hRT hown hmut hgl he hM hq hlt
        go_wp2_with fail
        refine CP.out.mono ?_
        rintro e w3 ⟨rfl, ⟨a3, c3, hR3⟩, hM3⟩
        have hq4 : Below w3.heap.size w3 (w3.alloc (.cells #[.int .u16 x, .int .u32 y] 26)) := (Below.refl _ _).alloc (Nat.le_refl _) _
        have ho4 := ((HOWN.out.mutT hM3 (fun k e => by rw [e]; exact hsw))).ext hq4
        have HM4 := hid ((HMU.out.trans hM3).trans (Mut.of_below hq4))
        have HR4 := hid (hR3.ext hq4)
        clear CP hR3 hM3 hq4 r0 r1 rf0
        go_wp2_with (at_builtin; refine wpList_appendP ho4 (PidRow.one w3 x y) (by have := HGL.out; have := HLT.out; simp; omega) HM4.out.size rfl rfl rfl rfl ?_; intro v5 w5 hown5 hg5 hiff5; clear hiff5)
        go_roundw
        case rel =>
          have hgm := grown_mut hg5 ho4
          refine ⟨k + 1, got ++ [(x, y)], T2, by have := HLT.out; omega, by have := HLT.out; go_num, by rw [List.length_append, HGL.out]; rfl, ⟨a3, c3, HR4.out.mutT hgm (fun k e => by have e : w.heap.size ≤ k := e; omega)⟩, hown5, HM2, ?_⟩
          exact mut_grown HM4.out hg5 ho4 (Nat.le_refl _)
        case measure => have := HLT.out; simp [intOf]; omega
      · have t1 : decide ((k : Int) < (n : Int)) = false := by simpa using hlt
        have t1' : decide (k < n) = false := by simpa using hlt
        have HE : Hid (L = got ∧ S2 = T) := hid (by
          have := hM.out
          rw [show n - k = 0 by omega] at this
          simpa [rPidsN] using this)
        have HTE := hid he
        clear hRT hown hmut hgl hlt hM he
        go_wp2
        go_ret
        have hh := HEND.out
        rw [HE.out.2, HE.out.1, if_pos HTE.out, if_pos HTE.out] at hh
        obtain ⟨e1, e2⟩ := Prod.mk.inj hh
        subst e1; subst e2
        exact ⟨⟨_, rfl, HOWN.out⟩, ⟨a2, c2, HRT.out⟩, HMU.out⟩
    · have t2 : ((T.e : Int) == 0) = false := by simp; omega
      have t3 : ((T.e : Int) != 0) = true := by simp; omega
      have HE : Hid (L = got ∧ S2 = T) := hid (by
        have := hM.out
        rw [rPidsN_stop he] at this
        simpa using this)
      have HTE : Hid (¬ T.e = 0) := hid he
      have hrow1 : ByteRow wr a S.b := HR.out.row.mutT hmut (fun b off e hne hk => by have := HR.out.far b off e hne; have hk : b = s := hk; omega)
      have HP := hid (HRT.out.put HN0.out.symm hrow1 HR.out.far HR.out.cap HR.out.byt HR.out.len)
      by_cases hlt : k < n
      · have t1 : decide ((k : Int) < (n : Int)) = true := by simpa using hlt
        have t1' : decide (k < n) = true := by simpa using hlt
        clear hRT hown hmut hgl hlt hM he hrow1
        go_wp2
        go_ret
        have hh := HEND.out
        rw [HE.out.2, if_neg HTE.out, if_neg HTE.out] at hh
        obtain ⟨e1, e2⟩ := Prod.mk.inj hh
        subst e1; subst e2
        exact ⟨⟨_, rfl, OwnP.nil _ _⟩, ⟨a, c, HP.out⟩, HMU.out.trans mut1⟩
      · have t1 : decide ((k : Int) < (n : Int)) = false := by simpa using hlt
        have t1' : decide (k < n) = false := by simpa using hlt
        clear hRT hown hmut hgl hlt hM he hrow1
        go_wp2
        go_ret
        have hh := HEND.out
        rw [HE.out.2, if_neg HTE.out, if_neg HTE.out] at hh
        obtain ⟨e1, e2⟩ := Prod.mk.inj hh
        subst e1; subst e2
        exact ⟨⟨_, rfl, OwnP.nil _ _⟩, ⟨a, c, HP.out⟩, HMU.out.trans mut1⟩
end Go.Proofs.Yteodaakdjnjhmaa
namespace Go.Proofs.Yteodaakdjnjhmaa
open Go.RowKit

/-! ### the reference's places -/
set_option maxRecDepth 100000 in
set_option maxHeartbeats 3200000 in
theorem placesR_any {s c cm nm : Nat} {a am : Option Addr} {S : RS} {ms : List Pid} {w : World} (hR : RdIs w s a c S) (hnm : Hid (ms.length = nm)) (hml : nm ≤ 1000) (hrow : PidRow w am ms) (hne : ∀ b off, am = some ⟨b, off, none⟩ → ms ≠ [] → b ≠ s) :
    Calls Try.prog 151 #[.pointer (some ⟨s, 0, none⟩), .slice am nm cm] w fun e w' => (∃ v, e = .returned v ∧ OwnP w' w.heap.size v (rPlaces ms S).1) ∧ (∃ a' c', RdIs w' s a' c' (rPlaces ms S).2) ∧ Mut (fun k => k = s) w w' := by
  obtain ⟨⟨n, S1⟩, hn⟩ : ∃ q, rNum 24 S = q := ⟨_, rfl⟩
  obtain ⟨⟨L, S2⟩, hL⟩ : ∃ q, rPlaces ms S = q := ⟨_, rfl⟩
  have HL0 : Hid (rPlacesN ms n S1 = (L, S2)) := hid (by rw [← hL]; unfold rPlaces; rw [hn])
  have hn24 : n ≤ 24 := by have := rNum_le (most := 24) (S := S); rw [hn] at this; exact this
  rw [hL]
  have HN := hid hn
  have C1 := hid (rNumR_is (most := 24) (z := 24) rfl HN hR)
  have hsw := hR.lt
  have HROW := hid hrow
  have HNE := hid hne
  clear hn hL hrow hne
  go_enter Try.func151, Try.ntmps151
  go_wp2_with fail
  refine C1.out.mono ?_
  rintro e w1 ⟨rfl, hR1, hM1⟩
  clear C1
  go_wp2_with fail
  go_loopw [6, 7] (fun v i wr => ∃ (k : Nat) (got : List Pid) (T : RS), k ≤ n ∧ i = .int .u64 k ∧ got.length = k ∧ (∃ a' c', RdIs wr s a' c' T) ∧ OwnP wr w.heap.size v got ∧ (ms = [] → got = []) ∧ Hid (L = got ++ (rPlacesN ms (n - k) T).1 ∧ S2 = (rPlacesN ms (n - k) T).2) ∧ Mut (fun k => k = s) w wr) (fun _ i _ => n - (intOf i).toNat)
  case atStart =>
    exact ⟨0, [], S1, Nat.zero_le _, rfl, rfl, hR1, OwnP.nil _ _, fun _ => rfl, hid (by rw [Nat.sub_zero, HL0.out]; simp), hM1⟩
  case round =>
    obtain ⟨k, got, T, hk, rfl, hgl, ⟨a2, c2, hRT⟩, hown, hgn, hM, hmut⟩ := hrel
    have r1 := hRT.c1
    have rf1 := hRT.f1
    have r0 := hRT.c0
    have hsz : w.heap.size ≤ wr.heap.size := hmut.size
    have HRT := hid hRT
    have HOWN := hid hown
    have HMU := hid hmut
    have HGL := hid hgl
    by_cases hlt : k < n
    · have t1 : decide ((k : Int) < (n : Int)) = true := by simpa using hlt
      have t1' : decide (k < n) = true := by simpa using hlt
      by_cases he : T.e = 0
      · rw [he] at r1
        have HE := hid he
        by_cases hms : ms = []
        · have hn0 : nm = 0 := by have := hnm.out; rw [hms] at this; exact this.symm
          have HMS := hid hms
          have hgot := hgn hms
          have HP := hid (hRT.bad 3)
          have HEND : Hid (L = got ∧ S2 = ⟨T.b, 3⟩) := hid (by
            have := hM.out
            rw [show n - k = (n - (k + 1)) + 1 by omega, hms, rPlacesN_nil he] at this
            simpa using this)
          subst hn0
          have HGOT := hid hgot
          clear hRT hown hmut hgl he hms hlt hM hgot hgn
          go_wp2
          go_ret
          exact ⟨⟨_, rfl, by rw [HEND.out.1, HGOT.out]; exact OwnP.nil _ _⟩, ⟨a2, c2, by rw [HEND.out.2]; exact HP.out⟩, HMU.out.trans mut1⟩
        · have hn1 : 0 < nm := by rw [← hnm.out]; exact List.length_pos_iff.2 hms
          have t2 : ((nm : Int) == 0) = false := by simp; omega
          obtain ⟨⟨q, T2⟩, hq⟩ : ∃ p, rNum (ms.length - 1) T = p := ⟨_, rfl⟩
          have hql : q < nm := by have := rNum_le (most := ms.length - 1) (S := T); rw [hq] at this; simp only at this; rw [hnm.out] at this; omega
          have hqm : q < ms.length := by rw [hnm.out]; exact hql
          have hsub : ((nm : Int) - 1) = ((ms.length - 1 : Nat) : Int) := by rw [hnm.out]; omega
          have CN := hid (rNumR_is hsub (hid hq) hRT)
          have ew : IntKind.u64.wrap ((nm : Nat) : Int) = ((nm : Nat) : Int) := by rw [IntKind.wrap_u64]; omega
          have ew2 : IntKind.u64.wrap ((nm : Int) - 1) = (nm : Int) - 1 := by rw [IntKind.wrap_u64]; omega
          have HQ := hid hq
          have HQM := hid hqm
          have HM2 : Hid (L = (got ++ [ms.getD q (0, 0)]) ++ (rPlacesN ms (n - (k + 1)) T2).1 ∧ S2 = (rPlacesN ms (n - (k + 1)) T2).2) := hid (by
            have := hM.out
            rw [show n - k = (n - (k + 1)) + 1 by omega, rPlacesN_step he hms hq] at this
            exact ⟨by rw [this.1]; simp, this.2⟩)
          have HLT := hid hlt
          have HMS : Hid (¬ ms = []) := hid hms
          clear hRT hown hmut hgl he hms hM hq hqm hsub hlt hgn
          go_wp2_with fail
          refine CN.out.mono ?_
          rintro e w3 ⟨rfl, ⟨a3, c3, hR3⟩, hM3⟩
          obtain ⟨pb, po, x, y, rfl, hx, d1, d2⟩ := (HROW.out.mutT (HMU.out.trans hM3) (fun b off h1 h2 => HNE.out b off h1 h2)).at (Below.refl _ _) rfl HQM.out
          have hxx : Hid ((x, y) = ms.getD q (0, 0)) := hid (by rw [hx, List.getD_eq_getElem?_getD, List.getElem?_eq_getElem HQM.out]; rfl)
          have hq4 : Below w3.heap.size w3 (w3.alloc (.cells #[.int .u16 x, .int .u32 y] 26)) := (Below.refl _ _).alloc (Nat.le_refl _) _
          have ho4 := ((HOWN.out.mutT hM3 (fun k e => by rw [e]; exact hsw))).ext hq4
          have HM4 := hid ((HMU.out.trans hM3).trans (Mut.of_below hq4))
          have HR4 := hid (hR3.ext hq4)
          clear hx CN hR3 hM3 hq4 r1 rf1 r0
          go_wp2_with (at_builtin; refine wpList_appendP ho4 (PidRow.one w3 x y) (by have := HGL.out; simp; omega) HM4.out.size rfl rfl rfl rfl ?_; intro v5 w5 hown5 hg5 hiff5; clear hiff5)
          go_roundw
          case rel =>
            have hgm := grown_mut hg5 ho4
            refine ⟨k + 1, got ++ [(x, y)], T2, by have := HLT.out; omega, by go_num, by rw [List.length_append, HGL.out]; rfl, ⟨a3, c3, HR4.out.mutT hgm (fun k e => by have e : w.heap.size ≤ k := e; omega)⟩, hown5, fun h => absurd h HMS.out, by rw [hxx.out]; exact HM2, ?_⟩
            exact mut_grown HM4.out hg5 ho4 (Nat.le_refl _)
          case measure => have := HLT.out; simp [intOf]; omega
      · have t2 : ((T.e : Int) == 0) = false := by simp; omega
        have HEND : Hid (L = got ∧ S2 = T) := hid (by
          have := hM.out
          rw [rPlacesN_stop he] at this
          simpa using this)
        clear hRT hown hmut hgl he hlt hM hgn
        go_wp2
        go_ret
        exact ⟨⟨_, rfl, by rw [HEND.out.1]; exact HOWN.out⟩, ⟨a2, c2, by rw [HEND.out.2]; exact HRT.out⟩, HMU.out⟩
    · have t1 : decide ((k : Int) < (n : Int)) = false := by simpa using hlt
      have t1' : decide (k < n) = false := by simpa using hlt
      have HEND : Hid (L = got ∧ S2 = T) := hid (by
        have := hM.out
        rw [show n - k = 0 by omega] at this
        simpa [rPlacesN] using this)
      clear hRT hown hmut hgl hlt hM hgn
      go_wp2
      go_ret
      exact ⟨⟨_, rfl, by rw [HEND.out.1]; exact HOWN.out⟩, ⟨a2, c2, by rw [HEND.out.2]; exact HRT.out⟩, HMU.out⟩
theorem placesR_is {s c cm nm : Nat} {a am : Option Addr} {S S1 : RS} {ms l : List Pid} {w : World} (hx : Hid (rPlaces ms S = (l, S1))) (hR : RdIs w s a c S) (hnm : Hid (ms.length = nm)) (hml : nm ≤ 1000) (hrow : PidRow w am ms) (hne : ∀ b off, am = some ⟨b, off, none⟩ → ms ≠ [] → b ≠ s) :
    Calls Try.prog 151 #[.pointer (some ⟨s, 0, none⟩), .slice am nm cm] w fun e w' => (∃ v, e = .returned v ∧ OwnP w' w.heap.size v l) ∧ (∃ a' c', RdIs w' s a' c' S1) ∧ Mut (fun k => k = s) w w' := by
  have := placesR_any (cm := cm) hR hnm hml hrow hne
  rw [hx.out] at this; exact this
end Go.Proofs.Yteodaakdjnjhmaa
