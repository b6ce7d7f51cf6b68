import Derived.Test.YteodaakdjnjhmaaX10
import Derived.Defers
namespace Go.Proofs.Yteodaakdjnjhmaa
open Go.RowKit
/-- the reader behind a pointer -/
structure RdIs (w : World) (s : Nat) (a : Option Addr) (c : Nat) (S : RS) : Prop where
  c0 : w.cell? ⟨s, 0, none⟩ = some (.slice a S.b.length c)
  c1 : w.cell? ⟨s, 1, none⟩ = some (.int .i64 S.e)
  f0 : w.frozen? ⟨s, 0, none⟩ = false
  f1 : w.frozen? ⟨s, 1, none⟩ = false
  row : ByteRow w a S.b
  far : ∀ b off, a = some ⟨b, off, none⟩ → S.b ≠ [] → b < s
  cap : S.b.length ≤ c
  byt : ∀ b ∈ S.b, b < 256
  len : S.b.length ≤ 70368744177664
theorem RdIs.lt {w : World} {s c : Nat} {a : Option Addr} {S : RS} (h : RdIs w s a c S) : s < w.heap.size := World.block_lt_of_cell? w _ h.c0
theorem RdIs.ext {w w' : World} {s c : Nat} {a : Option Addr} {S : RS} (h : RdIs w s a c S) (hb : Below w.heap.size w w') : RdIs w' s a c S :=
  ⟨cell_toB h.c0 hb, cell_toB h.c1 hb, (hb.frozen (by exact h.lt)).trans h.f0, (hb.frozen (by exact h.lt)).trans h.f1, h.row.ext hb, h.far, h.cap, h.byt, h.len⟩
theorem RdIs.alloc {w : World} {s c : Nat} {a : Option Addr} {S : RS} (h : RdIs w s a c S) (o : Obj) : RdIs (w.alloc o) s a c S := h.ext ((Below.refl _ _).alloc (Nat.le_refl _) _)
theorem ByteRow.setFar {w : World} {a : Option Addr} {bs : List Nat} {s i : Nat} {v : Value} (h : ByteRow w a bs) (hf : ∀ b off, a = some ⟨b, off, none⟩ → bs ≠ [] → b < s) : ByteRow (w.setCell ⟨s, i, none⟩ v) a bs := by
  rcases h with rfl | ⟨b, off, rfl, hlt, hc⟩
  · exact .inl rfl
  · by_cases hl : bs = []
    · exact .inl hl
    · have hb : b ≠ s := Nat.ne_of_lt (hf b off rfl hl)
      exact .inr ⟨b, off, rfl, by simpa using hlt, fun j hj => by rw [World.cell?_setCell_far _ _ _ _ (by exact fun e => hb e.symm)]; exact hc j hj⟩
/-- another error -/
theorem RdIs.bad {w : World} {s c : Nat} {a : Option Addr} {S : RS} (h : RdIs w s a c S) (e : Nat) : RdIs (w.setCell ⟨s, 1, none⟩ (.int .i64 (e : Nat))) s a c ⟨S.b, e⟩ :=
  ⟨by rw [World.cell?_setCell_other _ _ _ _ (by simp)]; exact h.c0, World.cell?_setCell_same _ _ _ h.c1, by simp [h.f0], by simp [h.f1], h.row.setFar h.far, h.far, h.cap, h.byt, h.len⟩
/-- other bytes -/
theorem RdIs.put {w : World} {s c c' : Nat} {a a' : Option Addr} {S : RS} {b' : List Nat} (h : RdIs w s a c S) {n : Nat} (hn : n = b'.length) (hrow : ByteRow w a' b') (hfar : ∀ b off, a' = some ⟨b, off, none⟩ → b' ≠ [] → b < s) (hcap : b'.length ≤ c') (hby : ∀ b ∈ b', b < 256) (hlen : b'.length ≤ 70368744177664) : RdIs (w.setCell ⟨s, 0, none⟩ (.slice a' n c')) s a' c' ⟨b', S.e⟩ := by
  subst hn
  exact ⟨World.cell?_setCell_same _ _ _ h.c0, by rw [World.cell?_setCell_other _ _ _ _ (by simp)]; exact h.c1, by simp [h.f0], by simp [h.f1], hrow.setFar hfar, hfar, hcap, hby, hlen⟩
theorem mut1 {w : World} {s i : Nat} {v : Value} : Mut (fun k => k = s) w (w.setCell ⟨s, i, none⟩ v) :=
  ⟨rfl, rfl, rfl, by simp, fun k _ hf => Below.heap_setCell _ _ _ _ (by exact hf)⟩
theorem rErr_any {s c : Nat} {a : Option Addr} {S : RS} {w : World} (h : RdIs w s a c S) :
    Calls Try.prog 35 #[.pointer (some ⟨s, 0, none⟩)] w fun e w' => e = .returned (.int .i64 S.e) ∧ w = w' := by
  have c1 := h.c1
  go_enter Try.func35, Try.ntmps35
  go_wp2
  go_ret
  exact ⟨rfl, rfl⟩
theorem rErr_is {s c e : Nat} {a : Option Addr} {S : RS} {w : World} (h : RdIs w s a c S) (he : Hid (S.e = e)) :
    Calls Try.prog 35 #[.pointer (some ⟨s, 0, none⟩)] w fun e' w' => e' = .returned (.int .i64 e) ∧ w = w' := by
  have := rErr_any h
  rw [he.out] at this; exact this
theorem rLeft_any {s c : Nat} {a : Option Addr} {S : RS} {w : World} (h : RdIs w s a c S) :
    Calls Try.prog 34 #[.pointer (some ⟨s, 0, none⟩)] w fun e w' => e = .returned (.int .i64 S.b.length) ∧ w = w' := by
  have c0 := h.c0
  go_enter Try.func34, Try.ntmps34
  go_wp2
  go_ret
  exact ⟨rfl, rfl⟩
/-- P7: the first error stays -/
def failS (S : RS) (e : Nat) : RS := if S.e = 0 then ⟨S.b, e⟩ else S
theorem fail_any {s c : Nat} {a : Option Addr} {S : RS} {w : World} (e0 : Nat) (h : RdIs w s a c S) :
    Calls Try.prog 144 #[.pointer (some ⟨s, 0, none⟩), .int .i64 e0] w fun e w' => e = .returned (.tuple #[]) ∧ RdIs w' s a c (failS S e0) ∧ Mut (fun k => k = s) w w' := by
  have c1 := h.c1
  have f1 := h.f1
  by_cases he : S.e = 0
  · have HE := hid he
    rw [he] at c1
    clear he
    go_enter Try.func144, Try.ntmps144
    go_wp2
    exact bodyPost_end (results_none rfl _ _ _) rfl ⟨rfl, by unfold failS; rw [if_pos HE.out]; exact h.bad e0, mut1⟩
  · have t1 : decide (S.e = 0) = false := by simpa using he
    have t2 : decide ((S.e : Int) = 0) = false := by simp; omega
    have t3 : ((S.e : Int) == 0) = false := by simp; omega
    have HE := hid he
    clear he
    go_enter Try.func144, Try.ntmps144
    go_wp2
    exact bodyPost_end (results_none rfl _ _ _) rfl ⟨rfl, by unfold failS; rw [if_neg HE.out]; exact h, Mut.refl _ _⟩
theorem ByteRow.cutA {w : World} {a : Option Addr} {bs : List Nat} {s k c : Nat} (h : ByteRow w a bs) (hf : ∀ b off, a = some ⟨b, off, none⟩ → bs ≠ [] → b < s) : ∀ b off, (if c = k then a else a.map (·.add (k * 1))) = some ⟨b, off, none⟩ → bs.drop k ≠ [] → b < s := by
  intro b off e hne
  have hb : bs ≠ [] := fun h => hne (by rw [h]; simp)
  rcases h with h | ⟨b', o', rfl, hlt, hc⟩
  · exact absurd h hb
  · have h2 := hf b' o' rfl hb
    split at e
    · cases e; exact h2
    · simp only [Option.map_some, addr_addB, Option.some.injEq, Addr.mk.injEq] at e
      rw [← e.1]; exact h2
set_option maxRecDepth 100000 in
set_option maxHeartbeats 1600000 in
theorem rnum_any {s c : Nat} {a : Option Addr} {S : RS} {w : World} (most : Nat) (hm : most < 18446744073709551616) (h : RdIs w s a c S) :
    Calls Try.prog 141 #[.pointer (some ⟨s, 0, none⟩), .int .u64 most] w fun e w' => e = .returned (.int .u64 (rNum most S).1) ∧ (∃ a' c', RdIs w' s a' c' (rNum most S).2) ∧ Mut (fun k => k = s) w w' := by
  have c0 := h.c0
  have c1 := h.c1
  have f0 := h.f0
  obtain ⟨n, hn⟩ : ∃ n, S.b.length = n := ⟨_, rfl⟩
  have hlen := h.len
  have hcap := h.cap
  rw [hn] at c0 hlen hcap
  have HN := hid hn
  have HBY := hid h.byt
  have hrow := h.row
  clear hn
  by_cases he : S.e = 0
  · rw [he] at c1
    obtain ⟨⟨x, u, e⟩, hG⟩ : ∃ q, getS S.b = q := ⟨_, rfl⟩
    have hok := getFrom_ok S.b 0 0 (by decide) (by decide)
    rw [show getFrom 0 0 S.b = getS S.b from rfl, hG] at hok
    simp only at hok
    have HG := hid hG
    have HE := hid he
    clear hG he
    by_cases he2 : e = 0
    · subst he2
      obtain ⟨q1, q2, q3, q4⟩ := hok rfl
      rw [HN.out] at q3
      have hu : u ≤ n := by omega
      clear hok
      by_cases hx : most < x
      · have HR : Hid (rNum most S = (0, ⟨S.b, 3⟩)) := hid (by unfold rNum; simp only [HG.out]; rw [if_neg (by simp [HE.out]), if_neg (by simp), if_pos hx])
        have t1 : decide (most < x) = true := by simpa using hx
        have hF : Hid (failS S 3 = ⟨S.b, 3⟩) := hid (by unfold failS; rw [if_pos HE.out])
        have CF : Hid (Calls Try.prog 144 #[.pointer (some ⟨s, 0, none⟩), .int .i64 3] w fun e w' => e = .returned (.tuple #[]) ∧ RdIs w' s a c (failS S 3) ∧ Mut (fun k => k = s) w w') := hid (fail_any 3 h)
        go_enter Try.func141, Try.ntmps141
        go_wp2_with (first
          | (go_at_call 162; (with_reducible refine (getShort_is HG HN hlen HBY.out hrow).mono ?_); rintro e w' ⟨rfl, rfl⟩)
          | (go_at_call 144; (with_reducible refine CF.out.mono ?_); rintro e w1 ⟨rfl, hR1, hM1⟩))
        go_ret
        exact ⟨by rw [HR.out]; rfl, ⟨a, c, by rw [HR.out]; rw [hF.out] at hR1; exact hR1⟩, hM1⟩
      · have t1 : decide (most < x) = false := by simpa using hx
        obtain ⟨A1, hA1⟩ : ∃ A, (if c = u then a else a.map (·.add (u * 1))) = A := ⟨_, rfl⟩
        have hrun := fun W => run_fromB (a := a) (c := c) hu W
        have hr2 := hrow.cut (k := u) (c := c) (by rw [HN.out]; exact hcap)
        have hf2 := hrow.cutA (k := u) (c := c) h.far
        rw [hA1] at hr2 hf2
        simp only [hA1] at hrun
        obtain ⟨n2, hn2⟩ : ∃ n2, n - u = n2 := ⟨_, rfl⟩
        obtain ⟨c2, hc2⟩ : ∃ c2, c - u = c2 := ⟨_, rfl⟩
        simp only [hn2, hc2] at hrun
        have hdl : (S.b.drop u).length = n2 := by rw [List.length_drop, HN.out, hn2]
        have HR : Hid (rNum most S = (x, ⟨S.b.drop u, 0⟩)) := hid (by unfold rNum; simp only [HG.out]; rw [if_neg (by simp [HE.out]), if_neg (by simp), if_neg hx])
        have HP : Hid (RdIs (w.setCell ⟨s, 0, none⟩ (.slice A1 n2 c2)) s A1 c2 ⟨S.b.drop u, S.e⟩) := hid (h.put hdl.symm hr2 hf2 (by omega) (fun b hb => HBY.out b (List.mem_of_mem_drop hb)) (by omega))
        clear hA1 hn2 hc2 hr2 hf2 hdl
        go_enter Try.func141, Try.ntmps141
        go_wp2_with (go_at_call 162; (with_reducible refine (getShort_is HG HN hlen HBY.out hrow).mono ?_); rintro e w' ⟨rfl, rfl⟩)
        go_ret
        exact ⟨by rw [HR.out]; rfl, ⟨A1, c2, by rw [HR.out]; have := HP.out; rw [HE.out] at this; exact this⟩, mut1⟩
    · have HR : Hid (rNum most S = (0, ⟨S.b, e⟩)) := hid (by unfold rNum; simp only [HG.out]; rw [if_neg (by simp [HE.out]), if_pos he2])
      have hF : Hid (failS S e = ⟨S.b, e⟩) := hid (by unfold failS; rw [if_pos HE.out])
      have t1 : decide (e = 0) = false := by simpa using he2
      have t2 : decide ((e : Int) = 0) = false := by simp; omega
      have t3 : ((e : Int) == 0) = false := by simp; omega
      have t4 : ((e : Int) != 0) = true := by simp; omega
      clear hok
      go_enter Try.func141, Try.ntmps141
      go_wp2_with (first
        | (go_at_call 162; (with_reducible refine (getShort_is HG HN hlen HBY.out hrow).mono ?_); rintro e w' ⟨rfl, rfl⟩)
        | (go_at_call 144; (with_reducible refine (fail_any e h).mono ?_); rintro e w1 ⟨rfl, hR1, hM1⟩))
      go_ret
      exact ⟨by rw [HR.out]; rfl, ⟨a, c, by rw [HR.out]; rw [hF.out] at hR1; exact hR1⟩, hM1⟩
  · have HR : Hid (rNum most S = (0, S)) := hid (by unfold rNum; rw [if_pos he])
    have t1 : decide (S.e = 0) = false := by simpa using he
    have t2 : decide ((S.e : Int) = 0) = false := by simp; omega
    have t3 : ((S.e : Int) == 0) = false := by simp; omega
    have t4 : ((S.e : Int) != 0) = true := by simp; omega
    clear he
    go_enter Try.func141, Try.ntmps141
    go_wp2
    go_ret
    exact ⟨by rw [HR.out]; rfl, ⟨a, c, by rw [HR.out]; exact h⟩, Mut.refl _ _⟩
end Go.Proofs.Yteodaakdjnjhmaa
