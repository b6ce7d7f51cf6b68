/- Parts of the proof: X74 X63. -/
import Derived.Test.YtbpfhclcjedkcaaSm17
import Derived.Test.YtbpfhclcjedkcaaSm26
import Derived.Test.YtbpfhclcjedkcaaSm29
namespace Go.Proofs.Ytbpfhclcjedkcaa
open Go.RowKit
/-! ### the reference's Truth and Ballot -/
set_option maxRecDepth 100000 in
set_option maxHeartbeats 3200000 in
theorem rTruthR_any {s c : Nat} {t : Bool} {a : Option Addr} {S S1 : RS} {w : World} (hX : Hid (rTruth S = (t, S1))) (hR : RdIs w s a c S) :
    Calls Try.prog 134 #[.pointer (some ⟨s, 0, none⟩)] w fun e w' => e = .returned (.bool t) ∧ (∃ a' c', RdIs w' s a' c' S1) ∧ Mut (fun k => k = s) w w' := by
  have c0 := hR.c0
  have c1 := hR.c1
  have f0 := hR.f0
  have f1 := hR.f1
  by_cases he : S.e = 0
  · rw [he] at c1
    obtain ⟨n, hn⟩ : ∃ n, S.b.length = n := ⟨_, rfl⟩
    rw [hn] at c0
    have hxx := hX.out
    unfold rTruth at hxx
    rw [if_neg (by simp [he])] at hxx
    cases hb : S.b with
    | nil =>
      have hn0 : n = 0 := by rw [← hn, hb]; rfl
      subst hn0
      rw [hb] at hxx
      obtain ⟨e1, e2⟩ := Prod.mk.inj hxx
      subst e1; subst e2
      have HB : Hid (RdIs (w.setCell ⟨s, 1, none⟩ (.int .i64 2)) s a c ⟨[], 2⟩) := hid (by have := hR.bad 2; rw [hb] at this; exact this)
      clear hX hb he hn hxx hR
      go_enter Try.func134, Try.ntmps134
      go_wp2
      go_ret
      exact ⟨rfl, ⟨a, c, HB.out⟩, mut1⟩
    | cons b0 r =>
      have hlen : n = r.length + 1 := by rw [← hn, hb]; rfl
      have hrow := hR.row
      have hcap := hR.cap
      rw [hn] at hcap
      obtain ⟨bb, off, x, rfl, hx0, hbx⟩ := hrow.at (Below.refl _ _) rfl (k := 0) (by rw [hb]; simp)
      simp only [Nat.add_zero] at hbx
      have hxb : x = b0 := by rw [hx0]; simp [hb]
      subst hxb
      clear hx0
      have t0 : ((n : Int) == 0) = false := by rw [beq_eq_false_iff_ne]; omega
      have t01 : decide (0 < n) = true := decide_eq_true (by omega)
      have hn0 : 0 < n := by omega
      rw [hb] at hxx
      by_cases hbig : 1 < x
      · have t1 : decide (x > 1) = true := decide_eq_true (by omega)
        have t2 : decide ((x : Int) > 1) = true := decide_eq_true (by omega)
        have t3 : decide (1 < x) = true := decide_eq_true hbig
        have t4 : decide ((1 : Int) < (x : Int)) = true := decide_eq_true (by omega)
        simp only [if_pos hbig] at hxx
        obtain ⟨e1, e2⟩ := Prod.mk.inj hxx
        subst e1; subst e2
        have HB : Hid (RdIs (w.setCell ⟨s, 1, none⟩ (.int .i64 5)) s (some ⟨bb, off, none⟩) c ⟨x :: r, 5⟩) := hid (by have := hR.bad 5; rw [hb] at this; exact this)
        clear hX hb he hn hxx hR hlen hrow hbig hcap
        go_enter Try.func134, Try.ntmps134
        go_wp2
        go_ret
        exact ⟨rfl, ⟨_, c, HB.out⟩, mut1⟩
      · have t1 : decide (x > 1) = false := decide_eq_false (by omega)
        have t2 : decide ((x : Int) > 1) = false := decide_eq_false (by omega)
        have t3 : decide (1 < x) = false := decide_eq_false hbig
        have t4 : decide ((1 : Int) < (x : Int)) = false := decide_eq_false (by omega)
        simp only [if_neg hbig] at hxx
        obtain ⟨e1, e2⟩ := Prod.mk.inj hxx
        have ht : ((x : Int) == 1) = t := by
          rw [← e1]
          by_cases h1 : x = 1
          · subst h1; rfl
          · rw [decide_eq_false h1, beq_eq_false_iff_ne]; omega
        subst e2
        obtain ⟨A1, hA1⟩ : ∃ A, (if c = 1 then (some ⟨bb, off, none⟩ : Option Addr) else (some ⟨bb, off, none⟩ : Option Addr).map (·.add (1 * 1))) = A := ⟨_, rfl⟩
        have hrun : ∀ W, (Instr.slice 42 (.slice (some ⟨bb, off, none⟩) n c) (some (.int .i64 1)) none none).run Try.prog W = .ok (.slice A1 (n - 1) (c - 1)) W := fun W => by
          have := run_fromB (a := some ⟨bb, off, none⟩) (c := c) (n := n) (k := 1) (by omega) W
          rw [hA1] at this; exact this
        have hr2 := hrow.cut (k := 1) (c := c) (by omega)
        have hf2 := hrow.cutA (k := 1) (c := c) hR.far
        rw [hA1] at hr2 hf2
        obtain ⟨n2, hn2⟩ : ∃ n2, n - 1 = n2 := ⟨_, rfl⟩
        obtain ⟨c2, hc2⟩ : ∃ c2, c - 1 = c2 := ⟨_, rfl⟩
        simp only [hn2, hc2] at hrun
        have hdl : S.b.drop 1 = r := by rw [hb]; rfl
        rw [hdl] at hr2 hf2
        have hbm := hR.byt
        have hln := hR.len
        rw [hb] at hbm hln
        have HB : Hid (RdIs (w.setCell ⟨s, 0, none⟩ (.slice A1 n2 c2)) s A1 c2 ⟨r, 0⟩) := hid (by
          have := hR.put (show n2 = r.length by omega) hr2 hf2 (show r.length ≤ c2 by omega) (fun b hb => hbm b (List.mem_cons_of_mem _ hb)) (by simp at hln; omega)
          rw [he] at this; exact this)
        clear hX hb he hn hxx hR hlen hrow hbig hcap hr2 hf2 hdl hbm hln e1 hA1 hn2 hc2
        go_enter Try.func134, Try.ntmps134
        go_wp2
        go_ret
        exact ⟨rfl, ⟨A1, c2, HB.out⟩, mut1⟩
  · obtain ⟨e1, e2⟩ := Prod.mk.inj ((rTruth_skip he).symm.trans hX.out)
    subst e1; subst e2
    have q1 : ((S.e : Int) != 0) = true := by simp only [bne_iff_ne, ne_eq]; omega
    have HR := hid hR
    clear hX he hR
    go_enter Try.func134, Try.ntmps134
    go_wp2
    go_ret
    exact ⟨rfl, ⟨a, c, HR.out⟩, Mut.refl _ _⟩
/-- what is written in a block of the call's own is no matter -/
theorem mut_new {w w1 w2 : World} {s g : Nat} (h1 : Mut (fun k => k = s) w w1) (hg : w.heap.size ≤ g) (h2 : Mut (fun k => k = g) w1 w2) : Mut (fun k => k = s) w w2 :=
  ⟨h2.os.trans h1.os, h2.tape.trans h1.tape, h2.output.trans h1.output, Nat.le_trans h1.size h2.size, fun k hk hs => (h2.block k (Nat.lt_of_lt_of_le hk h1.size) (fun e => by have e : k = g := e; omega)).trans (h1.block k hk hs)⟩
theorem rBal_all (S : RS) : rBal S = (if (rPid (rNum 4294967295 S).2).2.e = 0 then ((rNum 4294967295 S).1, (rPid (rNum 4294967295 S).2).1) else zeroBal, if (rPid (rNum 4294967295 S).2).2.e = 0 then (rPid (rNum 4294967295 S).2).2 else ⟨S.b, (rPid (rNum 4294967295 S).2).2.e⟩) := by
  by_cases he : S.e = 0
  · exact rBal_ok he
  · have h1 : rNum 4294967295 S = (0, S) := rNum_skip he
    have h2 : rPid S = ((0, 0), S) := rPid_skip he
    rw [rBal_skip he, h1]
    simp only [h2]
    rw [if_neg he, if_neg he]
set_option maxRecDepth 100000 in
set_option maxHeartbeats 3200000 in
theorem rBalR_any {s c : Nat} {b : Bal} {a : Option Addr} {S S9 : RS} {w : World} (hX : Hid (rBal S = (b, S9))) (hR : RdIs w s a c S) :
    Calls Try.prog 133 #[.pointer (some ⟨s, 0, none⟩)] w fun e w' => e = .returned (.agg #[.int .u32 b.1, .int .u16 b.2.1, .int .u32 b.2.2]) ∧ (∃ a' c', RdIs w' s a' c' S9) ∧ Mut (fun k => k = s) w w' := by
  obtain ⟨W1, hW1⟩ : ∃ W1, w.alloc (.cells #[.int .u32 0, .int .u16 0, .int .u32 0] 41) = W1 := ⟨_, rfl⟩
  have hB1 : Below w.heap.size w W1 := by rw [← hW1]; exact (Below.refl _ _).alloc (Nat.le_refl _) _
  have hz1 : W1.heap.size = w.heap.size + 1 := by rw [← hW1]; simp
  have g2 : OutL W1 w.heap.size [.int .u32 0, .int .u16 0, .int .u32 0] := by rw [← hW1]; exact OutL.made _ _ _
  have hR1 := hR.ext hB1
  have hs := hR.lt
  obtain ⟨n0, hn0⟩ : ∃ n, S.b.length = n := ⟨_, rfl⟩
  have c0 : W1.cell? ⟨s, 0, none⟩ = some (.slice a n0 c) := by have := hR1.c0; rw [hn0] at this; exact this
  obtain ⟨⟨n, S1⟩, hn⟩ : ∃ q, rNum 4294967295 S = q := ⟨_, rfl⟩
  obtain ⟨⟨⟨x, y⟩, S2⟩, hp⟩ : ∃ q, rPid S1 = q := ⟨_, rfl⟩
  have hsp := (rBal_all S).symm.trans hX.out
  rw [hn] at hsp
  simp only [hp] at hsp
  obtain ⟨e1, e2⟩ := Prod.mk.inj hsp
  have hnl : n ≤ 4294967295 := by have := rNum_le (most := 4294967295) (S := S); rw [hn] at this; exact this
  have en : IntKind.u32.wrap ((n : Nat) : Int) = ((n : Nat) : Int) := by rw [IntKind.wrap_u32]; omega
  have RES : Hid (∀ (W : World) (v0 v1 v2 : Value), OutL W w.heap.size [v0, v1, v2] → ∀ tm : Array Value, tm.getD 2 undef = .pointer (some ⟨w.heap.size, 0, none⟩) → (results Try.f133 tm).run Try.prog W = .ok (.agg #[v0, v1, v2]) W) := hid fun W v0 v1 v2 h tm htm => results_cell_mid (p := 2) (ty := 41) rfl tm W w.heap.size 0 [v0, v1, v2] _ htm h.r Try.underlying41 rfl infoBal
  have CN : Hid (Calls Try.prog 119 #[.pointer (some ⟨s, 0, none⟩), .int .u64 4294967295] W1 fun e w' => e = .returned (.int .u64 n) ∧ (∃ a' c', RdIs w' s a' c' S1) ∧ Mut (fun k => k = s) W1 w') := hid (rNumR_is rfl (hid hn) hR1)
  have HB1 := hid hB1
  have HZ1 := hid hz1
  have HP := hid hp
  have HE1 := hid e1
  have HE2 := hid e2
  have HG2 := hid g2
  have HSL : Hid (s < w.heap.size) := hid hs
  have HR1 := hid hR1
  have HN0 := hid hn0
  have HFAR := hid hR.far
  clear hR hX hn hp hsp e1 e2 g2 hR1 hB1 hz1 hn0 hnl
  go_enter Try.func133, Try.ntmps133
  go_wp2_with fail
  refine CN.out.mono ?_
  rintro e w2 ⟨rfl, ⟨a2, c2, hR2⟩, hM2⟩
  have CP := hid (rPidR_any HP hR2)
  have HM2 := hid hM2
  clear hR2 hM2 CN c0
  go_wp2_with fail
  (with_reducible refine CP.out.mono ?_)
  rintro e w3 ⟨rfl, ⟨a3, c3, hR3⟩, hM3⟩
  have hM13 := HM2.out.trans hM3
  have hq : Below w3.heap.size w3 (w3.alloc (.cells #[.int .u16 x, .int .u32 y] 26)) := (Below.refl _ _).alloc (Nat.le_refl _) _
  have hR4 := hR3.ext hq
  have hg3 := HG2.out.mutT (by simp) hM13 (by have := HSL.out; show ¬ w.heap.size = s; omega)
  have hw3 : w.heap.size < w3.heap.size := by have := hM13.size; rw [HZ1.out] at this; omega
  have hg4 := hg3.ext hq hw3
  have hM14 := hM13.trans (Mut.of_below (F := fun k => k = s) hq)
  have hrow4 := (HR1.out.row.mutT hM14 (fun b off e hne e3 => by have e3 : b = s := e3; have := HFAR.out b off e hne; omega))
  obtain ⟨W4, hW4⟩ : ∃ W4, w3.alloc (.cells #[.int .u16 x, .int .u32 y] 26) = W4 := ⟨_, rfl⟩
  have p0 : W4.cell? ⟨w3.heap.size, 0, none⟩ = some (.int .u16 x) := by rw [← hW4]; simp
  have p1 : W4.cell? ⟨w3.heap.size, 1, none⟩ = some (.int .u32 y) := by rw [← hW4]; simp
  rw [hW4] at hR4 hg4 hM14 hrow4
  have z0 : W4.cell? ⟨w.heap.size, 0, none⟩ = some (.int .u32 0) := hg4.cell rfl
  have z1 : W4.cell? ⟨w.heap.size, 1, none⟩ = some (.int .u16 0) := hg4.cell rfl
  have z2 : W4.cell? ⟨w.heap.size, 2, none⟩ = some (.int .u32 0) := hg4.cell rfl
  have f0 := hg4.f 0
  have f1 := hg4.f 1
  have f2 := hg4.f 2
  have r1 := hR4.c1
  have r0 := hR4.c0
  have rf0 := hR4.f0
  obtain ⟨n4, hn4⟩ : ∃ n, S2.b.length = n := ⟨_, rfl⟩
  rw [hn4] at r0
  have HG4 := hid hg4
  have HR4 := hid hR4
  have HM4 := hid ((Mut.of_below (F := fun k => k = s) HB1.out).trans hM14)
  have HROW4 := hid hrow4
  have HW3 := hid hw3
  clear hR3 hM3 hM13 hq hR4 hg3 hg4 hM14 hw3 hrow4 CP HM2 hn4
  by_cases hbad : S2.e = 0
  · have hb9 : Hid (b = (n, (x, y))) := hid (by rw [← HE1.out, if_pos hbad])
    have hs9 : Hid (S9 = S2) := hid (by rw [← HE2.out, if_pos hbad])
    have q1 : ((S2.e : Int) != 0) = false := by rw [hbad]; rfl
    clear hbad
    go_wp2
    have hp3 := HG4.out.put3 (.int .u32 n) (.int .u16 x) (.int .u32 y)
    exact bodyPost_ret (RES.out _ _ _ _ hp3 _ rfl) rfl ⟨by rw [hb9.out], ⟨a3, c3, by rw [hs9.out]; exact HR4.out.mutT (G := fun k => k = w.heap.size) mut3 (fun k e => by rw [e]; exact HSL.out)⟩, mut_new HM4.out (Nat.le_refl _) mut3⟩
  · have hb9 : Hid (b = zeroBal) := hid (by rw [← HE1.out, if_neg hbad])
    have hs9 : Hid (S9 = ⟨S.b, S2.e⟩) := hid (by rw [← HE2.out, if_neg hbad])
    have q1 : ((S2.e : Int) != 0) = true := by simp only [bne_iff_ne, ne_eq]; omega
    have hput := HR4.out.put (n := n0) HN0.out.symm HROW4.out HFAR.out HR1.out.cap HR1.out.byt HR1.out.len
    have hgp := HG4.out.mutT (by simp) (mut1 (w := W4) (s := s) (i := 0) (v := .slice a n0 c)) (by have := HSL.out; show ¬ w.heap.size = s; omega)
    have y0 : (W4.setCell ⟨s, 0, none⟩ (.slice a n0 c)).cell? ⟨w.heap.size, 0, none⟩ = some (.int .u32 0) := hgp.cell rfl
    have y1 : (W4.setCell ⟨s, 0, none⟩ (.slice a n0 c)).cell? ⟨w.heap.size, 1, none⟩ = some (.int .u16 0) := hgp.cell rfl
    have y2 : (W4.setCell ⟨s, 0, none⟩ (.slice a n0 c)).cell? ⟨w.heap.size, 2, none⟩ = some (.int .u32 0) := hgp.cell rfl
    have HPUT := hid hput
    have HGP := hid hgp
    have HM5 := hid (HM4.out.trans (mut1 (s := s) (i := 0) (v := .slice a n0 c)))
    clear hbad hput hgp
    go_wp2
    have hp3 := HGP.out.put3 (.int .u32 0) (.int .u16 0) (.int .u32 0)
    exact bodyPost_ret (RES.out _ _ _ _ hp3 _ rfl) rfl ⟨by rw [hb9.out]; rfl, ⟨a, c, by rw [hs9.out]; exact HPUT.out.mutT (G := fun k => k = w.heap.size) mut3 (fun k e => by rw [e]; exact HSL.out)⟩, mut_new HM5.out (Nat.le_refl _) mut3⟩
end Go.Proofs.Ytbpfhclcjedkcaa

namespace Go.Proofs.Ytbpfhclcjedkcaa
open Go.RowKit
/-! ### truths and ballots are laid -/
set_option maxRecDepth 100000 in
set_option maxHeartbeats 1600000 in
theorem wTruth_any {s : Nat} {v : Value} {bs : List Nat} {w : World} (b : Bool) (hW : WrIs w s v bs) (hl : bs.length ≤ 137438953472) :
    Calls Try.prog 95 #[.pointer (some ⟨s, 0, none⟩), .bool b] w fun e w' => e = .returned (.tuple #[]) ∧ ∃ v', Wrote w w' s v' (bs ++ short (if b then 1 else 0)) := by
  cases b
  · have N1 := hid (wNum_z 0 (z := 0) rfl hW hl (by decide))
    clear hW
    go_enter Try.func95, Try.ntmps95
    go_wp2_with fail
    refine N1.out.mono ?_
    rintro e w2 ⟨rfl, v2, hw2⟩
    have HW := hid hw2
    clear hw2 N1
    go_wp2
    exact bodyPost_end (results_none rfl _ _ _) rfl ⟨rfl, v2, HW.out⟩
  · have N1 := hid (wNum_z 1 (z := 1) rfl hW hl (by decide))
    clear hW
    go_enter Try.func95, Try.ntmps95
    go_wp2_with fail
    refine N1.out.mono ?_
    rintro e w2 ⟨rfl, v2, hw2⟩
    have HW := hid hw2
    clear hw2 N1
    go_wp2
    exact bodyPost_end (results_none rfl _ _ _) rfl ⟨rfl, v2, HW.out⟩
set_option maxRecDepth 100000 in
set_option maxHeartbeats 1600000 in
theorem wBal_any {s : Nat} {v : Value} {bs : List Nat} {w : World} (n x y : Nat) (hW : WrIs w s v bs) (hl : bs.length ≤ 60000000000) (hn : n < 4294967296) (hx : x < 65536) (hy : y < 4294967296) :
    Calls Try.prog 94 #[.pointer (some ⟨s, 0, none⟩), .agg #[.int .u32 n, .int .u16 x, .int .u32 y]] w fun e w' => e = .returned (.tuple #[]) ∧ ∃ v', Wrote w w' s v' (bs ++ (short n ++ (short x ++ short y))) := by
  obtain ⟨W1, hW1⟩ : ∃ W1, w.alloc (.cells #[.int .u32 n, .int .u16 x, .int .u32 y] 41) = W1 := ⟨_, rfl⟩
  have hB1 : Below w.heap.size w W1 := by rw [← hW1]; exact (Below.refl _ _).alloc (Nat.le_refl _) _
  have c0 : W1.cell? ⟨w.heap.size, 0, none⟩ = some (.int .u32 n) := by rw [← hW1]; simp
  have c1 : W1.cell? ⟨w.heap.size, 1, none⟩ = some (.int .u16 x) := by rw [← hW1]; simp
  have c2 : W1.cell? ⟨w.heap.size, 2, none⟩ = some (.int .u32 y) := by rw [← hW1]; simp
  have hs := hW.lt
  have hns : w.heap.size ≠ s := by omega
  have hl2 := short_len10 (n := n) (by omega)
  have N1 := hid (wNum_any n (hW.ext hB1) (by omega) (by omega))
  have C1 := hid c1
  have C2 := hid c2
  have HB1 := hid hB1
  have e1 : IntKind.u64.wrap ((n : Nat) : Int) = ((n : Nat) : Int) := by rw [IntKind.wrap_u64]; omega
  clear hW c1 c2 hB1
  go_enter Try.func94, Try.ntmps94
  go_wp2_with fail
  refine N1.out.mono ?_
  rintro e w2 ⟨rfl, v2, hw2⟩
  have d1 := cell_mut C1.out hw2.mt hns
  have d2 := cell_mut C2.out hw2.mt hns
  have N2 := hid (wPid_any x y hw2.wr (by rw [List.length_append]; omega) hx hy)
  have HW2 := hid hw2
  clear hw2 N1 c0
  go_wp2_with fail
  refine N2.out.mono ?_
  rintro e w3 ⟨rfl, v3, hw3⟩
  have HW3 := hid ((HW2.out.step hw3).pre HB1.out)
  clear hw3 N2 d1 d2
  go_wp2
  exact bodyPost_end (results_none rfl _ _ _) rfl ⟨rfl, v3, by have := HW3.out; rw [List.append_assoc] at this; exact this⟩
end Go.Proofs.Ytbpfhclcjedkcaa

