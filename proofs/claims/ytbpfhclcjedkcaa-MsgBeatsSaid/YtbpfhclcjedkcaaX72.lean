/- Parts of the proof: X72. -/
import Derived.Test.YtbpfhclcjedkcaaSm28
import Derived.Test.YtbpfhclcjedkcaaX16
namespace Go.Proofs.Ytbpfhclcjedkcaa
open Go.RowKit
/-! ### Reader.Truth, Reader.Ballot -/

set_option maxRecDepth 100000 in
set_option maxHeartbeats 1600000 in
theorem wholeT_skip {s c : Nat} {a : Option Addr} {S : RS} {w : World} {p0 p1 : Value} (hR : RdIs w s a c S) (he : S.e ≠ 0) :
    Calls Try.prog 189 #[.pointer (some ⟨s, 0, none⟩), .func (.func 200) #[] #[p0, p1]] w fun e w' => e = .returned (.tuple #[]) ∧ Below w.heap.size w w' := by
  have hmf : ∀ (fn : Fn) (first cap : Array Value) (w : World), (Instr.makeFunc fn first cap).run Try.prog w = .ok (.func fn first cap) w := fun _ _ _ _ => rfl
  have hB : Below w.heap.size w (w.alloc (.cells #[.pointer (some ⟨s, 0, none⟩)] 167)) := (Below.refl _ _).alloc (Nat.le_refl _) _
  have hR1 := hR.ext hB
  obtain ⟨e0, he0⟩ : ∃ e0, S.e = e0 := ⟨_, rfl⟩
  rw [he0] at he
  have t1 : decide (e0 = 0) = false := by simpa using he
  have t2 : decide ((e0 : Int) = 0) = false := by simp; omega
  have t3 : ((e0 : Int) == 0) = false := by simp; omega
  have t4 : ((e0 : Int) != 0) = true := by simp; omega
  have HE := hid he0
  clear he he0
  go_enter_defers Try.func189, Try.ntmps189
  go_wp2_with (go_at_call 194; (with_reducible refine (rErr_is hR1 HE).mono ?_); rintro e w' ⟨rfl, rfl⟩)
  exact ⟨_, results_none rfl _ _ _, rfl, hB⟩
set_option maxRecDepth 100000 in
set_option maxHeartbeats 3200000 in
theorem wholeT_any {s c : Nat} {a : Option Addr} {S S1 : RS} {w : World} {p0 p1 : Value} {G : Nat → Prop} {Q : World → Prop} (hR : RdIs w s a c S) (he : S.e = 0) (hGs : G s) (hGl : ∀ k, G k → s ≤ k ∧ k < w.heap.size)
    (H : Hid (∀ W, Below w.heap.size w W → Calls Try.prog 200 #[p0, p1] W fun e W' => e = .returned (.tuple #[]) ∧ (∃ a' c', RdIs W' s a' c' S1) ∧ Q W' ∧ Mut G W W'))
    (hQ : ∀ W W', Q W → Mut (fun k => k = s) W W' → Q W') :
    Calls Try.prog 189 #[.pointer (some ⟨s, 0, none⟩), .func (.func 200) #[] #[p0, p1]] w fun e w' => e = .returned (.tuple #[]) ∧ (∃ a' c', RdIs w' s a' c' (wholeS S S1)) ∧ Q w' ∧ Mut G w w' := by
  have hmf : ∀ (fn : Fn) (first cap : Array Value) (w : World), (Instr.makeFunc fn first cap).run Try.prog w = .ok (.func fn first cap) w := fun _ _ _ _ => rfl
  have hB : Below w.heap.size w (w.alloc (.cells #[.pointer (some ⟨s, 0, none⟩)] 167)) := (Below.refl _ _).alloc (Nat.le_refl _) _
  have hR1 := hR.ext hB
  obtain ⟨n, hn⟩ : ∃ n, S.b.length = n := ⟨_, rfl⟩
  have c0 := hR1.c0
  rw [hn] at c0
  have HE := hid he
  have HN := hid hn
  have HQ := hid hQ
  have HGL := hid hGl
  have HGS := hid hGs
  have hB2 : Below w.heap.size w ((w.alloc (.cells #[.pointer (some ⟨s, 0, none⟩)] 167)).alloc (.cells #[.slice a n c] 42)) := hB.alloc (by simp) _
  have hg2 : ((w.alloc (.cells #[.pointer (some ⟨s, 0, none⟩)] 167)).alloc (.cells #[.slice a n c] 42)).cell? ⟨w.heap.size, 0, none⟩ = some (.pointer (some ⟨s, 0, none⟩)) := by simp
  have hh2 : ((w.alloc (.cells #[.pointer (some ⟨s, 0, none⟩)] 167)).alloc (.cells #[.slice a n c] 42)).cell? ⟨w.heap.size + 1, 0, none⟩ = some (.slice a n c) := by simp
  have HRW := hid (hR.ext hB2)
  have CK := hid (H.out _ hB2)
  clear he hn hQ hGl hGs
  go_enter_defers Try.func189, Try.ntmps189
  go_wp2_with (first
    | (go_at_call 194; (with_reducible refine (rErr_is hR1 HE).mono ?_); rintro e w' ⟨rfl, rfl⟩)
    | (go_at_call 200; refine CK.out.mono ?_; rintro e w3 ⟨rfl, ⟨a3, c3, hR3⟩, hQ3, hM3⟩))
  have hg3 := cell_mut hg2 hM3 (fun h => by have := (HGL.out _ h).2; simp at this)
  have hh3 := cell_mut hh2 hM3 (fun h => by have := (HGL.out _ h).2; simp at this; omega)
  refine leaves_cons (f := 229) (args := #[.pointer (some ⟨w.heap.size, 0, none⟩), .pointer (some ⟨w.heap.size + 1, 0, none⟩)]) (by simp) (by simp [go_sem]) ?_
  by_cases he1 : S1.e = 0
  · refine (wholeD_ok (h := w.heap.size + 1) .returning hR3 hg3 he1).mono ?_
    rintro e u' w'' ⟨rfl, rfl, rfl⟩
    exact ⟨_, results_none rfl _ _ _, rfl, ⟨a3, c3, by unfold wholeS; rw [if_pos he1]; exact hR3⟩, hQ3, (Mut.of_below hB2).trans hM3⟩
  · refine (wholeD_bad .returning hR3 hg3 hh3 he1).mono ?_
    rintro e u' w'' ⟨rfl, rfl, rfl⟩
    have hrow3 : ByteRow w3 a S.b := HRW.out.row.mutT hM3 (fun b off e hne hg => by have := HRW.out.far b off e hne; have := (HGL.out b hg).1; omega)
    have hRp := hR3.put HN.out.symm hrow3 HRW.out.far HRW.out.cap HRW.out.byt HRW.out.len
    exact ⟨_, results_none rfl _ _ _, rfl, ⟨a, c, by unfold wholeS; rw [if_neg he1]; exact hRp⟩, HQ.out _ _ hQ3 mut1, ((Mut.of_below hB2).trans hM3).trans (mut1.mono (fun k _ e => by rw [e]; exact HGS.out))⟩

set_option maxRecDepth 100000 in
set_option maxHeartbeats 1600000 in
theorem wholeA_skip {s c : Nat} {a : Option Addr} {S : RS} {w : World} {p0 p1 : Value} (hR : RdIs w s a c S) (he : S.e ≠ 0) :
    Calls Try.prog 189 #[.pointer (some ⟨s, 0, none⟩), .func (.func 199) #[] #[p0, p1]] w fun e w' => e = .returned (.tuple #[]) ∧ Below w.heap.size w w' := by
  have hmf : ∀ (fn : Fn) (first cap : Array Value) (w : World), (Instr.makeFunc fn first cap).run Try.prog w = .ok (.func fn first cap) w := fun _ _ _ _ => rfl
  have hB : Below w.heap.size w (w.alloc (.cells #[.pointer (some ⟨s, 0, none⟩)] 167)) := (Below.refl _ _).alloc (Nat.le_refl _) _
  have hR1 := hR.ext hB
  obtain ⟨e0, he0⟩ : ∃ e0, S.e = e0 := ⟨_, rfl⟩
  rw [he0] at he
  have t1 : decide (e0 = 0) = false := by simpa using he
  have t2 : decide ((e0 : Int) = 0) = false := by simp; omega
  have t3 : ((e0 : Int) == 0) = false := by simp; omega
  have t4 : ((e0 : Int) != 0) = true := by simp; omega
  have HE := hid he0
  clear he he0
  go_enter_defers Try.func189, Try.ntmps189
  go_wp2_with (go_at_call 194; (with_reducible refine (rErr_is hR1 HE).mono ?_); rintro e w' ⟨rfl, rfl⟩)
  exact ⟨_, results_none rfl _ _ _, rfl, hB⟩
set_option maxRecDepth 100000 in
set_option maxHeartbeats 3200000 in
theorem wholeA_any {s c : Nat} {a : Option Addr} {S S1 : RS} {w : World} {p0 p1 : Value} {G : Nat → Prop} {Q : World → Prop} (hR : RdIs w s a c S) (he : S.e = 0) (hGs : G s) (hGl : ∀ k, G k → s ≤ k ∧ k < w.heap.size)
    (H : Hid (∀ W, Below w.heap.size w W → Calls Try.prog 199 #[p0, p1] W fun e W' => e = .returned (.tuple #[]) ∧ (∃ a' c', RdIs W' s a' c' S1) ∧ Q W' ∧ Mut G W W'))
    (hQ : ∀ W W', Q W → Mut (fun k => k = s) W W' → Q W') :
    Calls Try.prog 189 #[.pointer (some ⟨s, 0, none⟩), .func (.func 199) #[] #[p0, p1]] w fun e w' => e = .returned (.tuple #[]) ∧ (∃ a' c', RdIs w' s a' c' (wholeS S S1)) ∧ Q w' ∧ Mut G w w' := by
  have hmf : ∀ (fn : Fn) (first cap : Array Value) (w : World), (Instr.makeFunc fn first cap).run Try.prog w = .ok (.func fn first cap) w := fun _ _ _ _ => rfl
  have hB : Below w.heap.size w (w.alloc (.cells #[.pointer (some ⟨s, 0, none⟩)] 167)) := (Below.refl _ _).alloc (Nat.le_refl _) _
  have hR1 := hR.ext hB
  obtain ⟨n, hn⟩ : ∃ n, S.b.length = n := ⟨_, rfl⟩
  have c0 := hR1.c0
  rw [hn] at c0
  have HE := hid he
  have HN := hid hn
  have HQ := hid hQ
  have HGL := hid hGl
  have HGS := hid hGs
  have hB2 : Below w.heap.size w ((w.alloc (.cells #[.pointer (some ⟨s, 0, none⟩)] 167)).alloc (.cells #[.slice a n c] 42)) := hB.alloc (by simp) _
  have hg2 : ((w.alloc (.cells #[.pointer (some ⟨s, 0, none⟩)] 167)).alloc (.cells #[.slice a n c] 42)).cell? ⟨w.heap.size, 0, none⟩ = some (.pointer (some ⟨s, 0, none⟩)) := by simp
  have hh2 : ((w.alloc (.cells #[.pointer (some ⟨s, 0, none⟩)] 167)).alloc (.cells #[.slice a n c] 42)).cell? ⟨w.heap.size + 1, 0, none⟩ = some (.slice a n c) := by simp
  have HRW := hid (hR.ext hB2)
  have CK := hid (H.out _ hB2)
  clear he hn hQ hGl hGs
  go_enter_defers Try.func189, Try.ntmps189
  go_wp2_with (first
    | (go_at_call 194; (with_reducible refine (rErr_is hR1 HE).mono ?_); rintro e w' ⟨rfl, rfl⟩)
    | (go_at_call 199; refine CK.out.mono ?_; rintro e w3 ⟨rfl, ⟨a3, c3, hR3⟩, hQ3, hM3⟩))
  have hg3 := cell_mut hg2 hM3 (fun h => by have := (HGL.out _ h).2; simp at this)
  have hh3 := cell_mut hh2 hM3 (fun h => by have := (HGL.out _ h).2; simp at this; omega)
  refine leaves_cons (f := 229) (args := #[.pointer (some ⟨w.heap.size, 0, none⟩), .pointer (some ⟨w.heap.size + 1, 0, none⟩)]) (by simp) (by simp [go_sem]) ?_
  by_cases he1 : S1.e = 0
  · refine (wholeD_ok (h := w.heap.size + 1) .returning hR3 hg3 he1).mono ?_
    rintro e u' w'' ⟨rfl, rfl, rfl⟩
    exact ⟨_, results_none rfl _ _ _, rfl, ⟨a3, c3, by unfold wholeS; rw [if_pos he1]; exact hR3⟩, hQ3, (Mut.of_below hB2).trans hM3⟩
  · refine (wholeD_bad .returning hR3 hg3 hh3 he1).mono ?_
    rintro e u' w'' ⟨rfl, rfl, rfl⟩
    have hrow3 : ByteRow w3 a S.b := HRW.out.row.mutT hM3 (fun b off e hne hg => by have := HRW.out.far b off e hne; have := (HGL.out b hg).1; omega)
    have hRp := hR3.put HN.out.symm hrow3 HRW.out.far HRW.out.cap HRW.out.byt HRW.out.len
    exact ⟨_, results_none rfl _ _ _, rfl, ⟨a, c, by unfold wholeS; rw [if_neg he1]; exact hRp⟩, HQ.out _ _ hQ3 mut1, ((Mut.of_below hB2).trans hM3).trans (mut1.mono (fun k _ e => by rw [e]; exact HGS.out))⟩

theorem wholeS_truth {S : RS} (he : S.e = 0) : wholeS S (rTruth S).2 = (rTruth S).2 := by
  obtain ⟨b, e⟩ := S
  simp only at he
  subst he
  unfold wholeS rTruth
  cases b with
  | nil => simp
  | cons c r => by_cases h : 1 < c <;> simp [h]
theorem rTruth_skip {S : RS} (he : S.e ≠ 0) : rTruth S = (false, S) := by unfold rTruth; rw [if_pos he]
set_option maxRecDepth 100000 in
set_option maxHeartbeats 3200000 in
theorem truthC_any {s c g0 g2 : Nat} {t : Bool} {z : Int} {a : Option Addr} {S S1 : RS} {w : World} (hx : Hid (rTruth S = (t, S1))) (hz : Hid ((if t = true then (1 : Int) else 0) = z)) (he : S.e = 0) (hR : RdIs w s a c S) (h0 : w.cell? ⟨g0, 0, none⟩ = some (.pointer (some ⟨s, 0, none⟩))) (h2 : Cell1 w g2 (.int .u8 0)) (hs : s < g2) (h02 : g0 ≠ g2) (h0s : g0 ≠ s) :
    Calls Try.prog 200 #[.pointer (some ⟨g0, 0, none⟩), .pointer (some ⟨g2, 0, none⟩)] w fun e w' => e = .returned (.tuple #[]) ∧ (∃ a' c', RdIs w' s a' c' S1) ∧ Cell1 w' g2 (.int .u8 z) ∧ Mut (fun k => k = s ∨ k = g2) w w' := by
  have c0 := hR.c0
  have hgs : ¬ (fun k => k = s) g2 := fun e => by have e : g2 = s := e; omega
  obtain ⟨n, hn⟩ : ∃ n, S.b.length = n := ⟨_, rfl⟩
  rw [hn] at c0
  cases hb : S.b with
  | nil =>
    have hn0 : n = 0 := by rw [← hn, hb]; rfl
    subst hn0
    have hxx := hx.out
    unfold rTruth at hxx
    rw [if_neg (by simp [he]), hb] at hxx
    obtain ⟨e1, e2⟩ := Prod.mk.inj hxx
    subst e1; subst e2
    have hz0 : z = 0 := hz.out.symm
    subst hz0
    have HFS : Hid (failS S 2 = ⟨[], 2⟩) := hid (by unfold failS; rw [if_pos he, hb])
    have CF := hid (fail_any 2 hR)
    have H2 := hid h2
    have HG := hid hgs
    clear hx hb he hn hxx h2 hgs
    go_enter Try.func200, Try.ntmps200
    go_wp2_with fail
    refine CF.out.mono ?_
    rintro e w1 ⟨rfl, hR1, hM1⟩
    rw [HFS.out] at hR1
    have HR1 := hid hR1
    have HM1 := hid hM1
    clear hR1 hM1 CF
    go_wp2
    exact bodyPost_end (results_none rfl _ _ _) rfl ⟨rfl, ⟨a, c, HR1.out⟩, H2.out.mutT HM1.out HG.out, HM1.out.mono (fun k _ e => .inl e)⟩
  | cons b0 r =>
    have hlen : n = r.length + 1 := by rw [← hn, hb]; rfl
    have hbyt := hR.byt b0 (by rw [hb]; exact List.mem_cons_self ..)
    have hrow := hR.row
    have hcap := hR.cap
    rw [hn] at hcap
    obtain ⟨bb, off, x, rfl, hx0, hbx⟩ := hrow.at (Below.refl _ _) rfl (k := 0) (by rw [hb]; simp)
    simp only [Nat.add_zero] at hbx
    have hxb : x = b0 := by rw [hx0]; simp [hb]
    subst hxb
    clear hx0
    have hbs := hR.far bb off rfl (by rw [hb]; simp)
    have t0 : ((n : Int) == 0) = false := by rw [beq_eq_false_iff_ne]; omega
    have t01 : decide (0 < n) = true := decide_eq_true (by omega)
    have hn0 : 0 < n := by omega
    by_cases hbig : 1 < x
    · have t1 : decide (x > 1) = true := decide_eq_true (by omega)
      have t2 : decide ((x : Int) > 1) = true := decide_eq_true (by omega)
      have t3 : decide (1 < x) = true := decide_eq_true hbig
      have t4 : decide ((1 : Int) < (x : Int)) = true := decide_eq_true (by omega)
      have hxx := hx.out
      unfold rTruth at hxx
      rw [if_neg (by simp [he]), hb] at hxx
      simp only [if_pos hbig] at hxx
      obtain ⟨e1, e2⟩ := Prod.mk.inj hxx
      subst e1; subst e2
      have hz0 : z = 0 := hz.out.symm
      subst hz0
      have HFS : Hid (failS S 5 = ⟨x :: r, 5⟩) := hid (by unfold failS; rw [if_pos he, hb])
      have CF := hid (fail_any 5 hR)
      have H2 := hid h2
      have HG := hid hgs
      clear hx hb he hn hxx h2 hgs hlen hrow hbig hcap
      go_enter Try.func200, Try.ntmps200
      go_wp2_with fail
      refine CF.out.mono ?_
      rintro e w1 ⟨rfl, hR1, hM1⟩
      rw [HFS.out] at hR1
      have HR1 := hid hR1
      have HM1 := hid hM1
      clear hR1 hM1 CF
      go_wp2
      exact bodyPost_end (results_none rfl _ _ _) rfl ⟨rfl, ⟨_, c, HR1.out⟩, H2.out.mutT HM1.out HG.out, HM1.out.mono (fun k _ e => .inl e)⟩
    · have t1 : decide (x > 1) = false := decide_eq_false (by omega)
      have t2 : decide ((x : Int) > 1) = false := decide_eq_false (by omega)
      have t3 : decide (1 < x) = false := decide_eq_false hbig
      have t4 : decide ((1 : Int) < (x : Int)) = false := decide_eq_false (by omega)
      have hxx := hx.out
      unfold rTruth at hxx
      rw [if_neg (by simp [he]), hb] at hxx
      simp only [if_neg hbig] at hxx
      obtain ⟨e1, e2⟩ := Prod.mk.inj hxx
      have HXT : Hid ((x : Int) = z) := hid (by
        rw [← hz.out]
        subst e1
        by_cases h1 : x = 1
        · subst h1; simp
        · have : x = 0 := by omega
          subst this; simp)
      subst e2
      obtain ⟨A1, hA1⟩ : ∃ A, (if c = 1 then (some ⟨bb, off, none⟩ : Option Addr) else (some ⟨bb, off, none⟩ : Option Addr).map (·.add (1 * 1))) = A := ⟨_, rfl⟩
      have hrun : ∀ W, (Instr.slice 42 (.slice (some ⟨bb, off, none⟩) n c) (some (.int .i64 1)) none none).run Try.prog W = .ok (.slice A1 (n - 1) (c - 1)) W := fun W => by
        have := run_fromB (a := some ⟨bb, off, none⟩) (c := c) (n := n) (k := 1) (by omega) W
        rw [hA1] at this; exact this
      have hr2 := hrow.cut (k := 1) (c := c) (by omega)
      have hf2 := hrow.cutA (k := 1) (c := c) hR.far
      rw [hA1] at hr2 hf2
      obtain ⟨n2, hn2⟩ : ∃ n2, n - 1 = n2 := ⟨_, rfl⟩
      obtain ⟨c2, hc2⟩ : ∃ c2, c - 1 = c2 := ⟨_, rfl⟩
      simp only [hn2, hc2] at hrun
      have hdl : S.b.drop 1 = r := by rw [hb]; rfl
      rw [hdl] at hr2 hf2
      have hbm := hR.byt
      have hln := hR.len
      rw [hb] at hbm hln
      have hrl : n2 = r.length := by omega
      obtain ⟨z2, hz2⟩ : ∃ z2, (Value.int .u8 (x : Int)) = z2 := ⟨_, rfl⟩
      have wx := w.setCell ⟨g2, 0, none⟩ (.int .u8 x)
      have H2 := hid h2
      have HS : Hid (∀ W, Mut (fun k => k = g2 ∨ k = s) w W → W.cell? ⟨g0, 0, none⟩ = some (.pointer (some ⟨s, 0, none⟩)) ∧ W.cell? ⟨bb, off, none⟩ = some (.int .u8 (x : Int))) := hid fun W h => ⟨cell_mut h0 h (by rintro (e | e); exact h02 e; exact h0s e), cell_mut hbx h (by rintro (e | e); (have e : bb = g2 := e; omega); (have e : bb = s := e; omega))⟩
      have HRP : Hid (∀ W, Mut (fun k => k = g2) w W → RdIs (W.setCell ⟨s, 0, none⟩ (.slice A1 n2 c2)) s A1 c2 ⟨r, 0⟩) := hid fun W h => by
        have hRW := hR.mutT h (fun k e => by have e : k = g2 := e; omega)
        have hrw : ByteRow W A1 r := hr2.mutT h (fun b o e hne e3 => by have e3 : b = g2 := e3; have := hf2 b o e hne; omega)
        have := hRW.put hrl hrw hf2 (show r.length ≤ c2 by omega) (fun b hb => hbm b (List.mem_cons_of_mem _ hb)) (by simp at hln; omega)
        rw [he] at this; exact this
      have z0 := h2.c
      have z1 := h2.f
      have HSG : Hid (s < g2) := hid hs
      have H0 : Mut (fun k => k = g2) w w.drew := Mut.of_below (Below.refl _ _).drew
      have H00 : Mut (fun k => k = g2 ∨ k = s) w w.drew := Mut.of_below (Below.refl _ _).drew
      clear hx hb he hn hxx h2 hgs hlen hrow hbig hcap hr2 hf2 hdl hbm hln hrl e1 hA1 hn2 hc2 z2 hz2 wx
      have f0 := hR.f0
      clear hR
      go_enter Try.func200, Try.ntmps200
      go_wp2_with fail
      refine wp_region_held_drew (S := fun W => W.cell? ⟨g0, 0, none⟩ = some (.pointer (some ⟨s, 0, none⟩)) ∧ W.cell? ⟨bb, off, none⟩ = some (.int .u8 (x : Int))) (by kernel_rfl) (HS.out _ H00) (fun hHeld => ?_)
      refine wpAnyH_take (i := 0) (oi := _) (v := .pointer (some ⟨s, 0, none⟩)) rfl (by kernel_rfl) (by kernel_rfl) (by kernel_rfl) (fun _ _ _ h => h) (Or.inl ⟨by rfl, ?_⟩) (by assumption) ?_
      · intro W hSw
        try dsimp only at hSw
        go_simp
      try simp only [Act.put, List.getElem_toArray, List.getElem_cons_zero, List.setIfInBounds_toArray, List.set_cons_zero, List.set_cons_succ]
      refine wpAnyH_take (i := 1) (oi := _) (v := .pointer (some ⟨s, 0, none⟩)) rfl (by kernel_rfl) (by kernel_rfl) (by kernel_rfl) (fun _ _ _ h => h) (Or.inl ⟨by rfl, ?_⟩) (by assumption) ?_
      · intro W hSw
        try dsimp only at hSw
        go_simp
      try simp only [Act.put, List.getElem_toArray, List.getElem_cons_succ, List.getElem_cons_zero, List.setIfInBounds_toArray, List.set_cons_zero, List.set_cons_succ]
      refine wpAnyH_take (i := 2) (oi := _) (v := .pointer (some ⟨s, 0, none⟩)) rfl (by kernel_rfl) (by kernel_rfl) (by kernel_rfl) (fun _ _ _ h => h) (Or.inl ⟨by rfl, ?_⟩) (by assumption) ?_
      · intro W hSw
        try dsimp only at hSw
        go_simp
      try simp only [Act.put, List.getElem_toArray, List.getElem_cons_succ, List.getElem_cons_zero, List.setIfInBounds_toArray, List.set_cons_zero, List.set_cons_succ]
      refine wpAnyH_take (i := 3) (oi := _) (v := .pointer (some ⟨s, 0, none⟩)) rfl (by kernel_rfl) (by kernel_rfl) (by kernel_rfl) (fun _ _ _ h => h) (Or.inl ⟨by rfl, ?_⟩) (by assumption) ?_
      · intro W hSw
        try dsimp only at hSw
        go_simp
      try simp only [Act.put, List.getElem_toArray, List.getElem_cons_succ, List.getElem_cons_zero, List.setIfInBounds_toArray, List.set_cons_zero, List.set_cons_succ]
      refine wpAnyH_take (i := 7) (oi := _) (v := .pointer (some ⟨s, 0, none⟩)) rfl (by kernel_rfl) (by kernel_rfl) (by kernel_rfl) (fun _ _ _ h => h) (Or.inl ⟨by rfl, ?_⟩) (by assumption) ?_
      · intro W hSw
        try dsimp only at hSw
        go_simp
      try simp only [Act.put, List.getElem_toArray, List.getElem_cons_succ, List.getElem_cons_zero, List.setIfInBounds_toArray, List.set_cons_zero, List.set_cons_succ]
      refine wpAnyH_take (i := 8) (oi := _) (v := .pointer (some ⟨s, 0, none⟩)) rfl (by kernel_rfl) (by kernel_rfl) (by kernel_rfl) (fun _ _ _ h => h) (Or.inl ⟨by rfl, ?_⟩) (by assumption) ?_
      · intro W hSw
        try dsimp only at hSw
        go_simp
      try simp only [Act.put, List.getElem_toArray, List.getElem_cons_succ, List.getElem_cons_zero, List.setIfInBounds_toArray, List.set_cons_zero, List.set_cons_succ]
      refine wpAnyH_take (i := 9) (oi := _) (v := .pointer (some ⟨s, 0, none⟩)) rfl (by kernel_rfl) (by kernel_rfl) (by kernel_rfl) (fun _ _ _ h => h) (Or.inl ⟨by rfl, ?_⟩) (by assumption) ?_
      · intro W hSw
        try dsimp only at hSw
        go_simp
      try simp only [Act.put, List.getElem_toArray, List.getElem_cons_succ, List.getElem_cons_zero, List.setIfInBounds_toArray, List.set_cons_zero, List.set_cons_succ]
      refine wpAnyH_ready (rs := [4, 10]) (by kernel_rfl) (by simp) ?_
      refine AllReadyH.cons (o := _) rfl (fun K hK => ?_) (AllReadyH.cons (o := _) rfl (fun K hK => ?_) AllReadyH.nil)
      · go_simp
        refine hK.out _ _ (HS.out _ (H00)) (fun hHeld => ?_)
        clear hK K
        try simp only [Act.put, List.getElem_toArray, List.getElem_cons_succ, List.getElem_cons_zero, List.setIfInBounds_toArray, List.set_cons_zero, List.set_cons_succ]
        refine wpAnyH_take (i := 5) (oi := _) (v := .pointer (some ⟨bb, off, none⟩)) rfl (by kernel_rfl) (by kernel_rfl) (by kernel_rfl) (fun _ _ _ h => h) (Or.inl ⟨by rfl, ?_⟩) (by assumption) ?_
        · intro W hSw
          try dsimp only at hSw
          go_simp
        try simp only [Act.put, List.getElem_toArray, List.getElem_cons_succ, List.getElem_cons_zero, List.setIfInBounds_toArray, List.set_cons_zero, List.set_cons_succ]
        refine wpAnyH_take (i := 6) (oi := _) (v := .int .u8 (x : Int)) rfl (by kernel_rfl) (by kernel_rfl) (by kernel_rfl) (fun _ _ _ h => h) (Or.inl ⟨by rfl, ?_⟩) (by assumption) ?_
        · intro W hSw
          try dsimp only at hSw
          go_simp
        try simp only [Act.put, List.getElem_toArray, List.getElem_cons_succ, List.getElem_cons_zero, List.setIfInBounds_toArray, List.set_cons_zero, List.set_cons_succ]
        refine wpAnyH_ready (rs := [10]) (by kernel_rfl) (by simp) ?_
        refine AllReadyH.cons (o := _) rfl (fun K hK => ?_) AllReadyH.nil
        go_simp
        refine hK.out _ _ (HS.out _ (H00)) (fun hHeld => ?_)
        clear hK K
        try simp only [Act.put, List.getElem_toArray, List.getElem_cons_succ, List.getElem_cons_zero, List.setIfInBounds_toArray, List.set_cons_zero, List.set_cons_succ]
        refine wpAnyH_take (i := 11) (oi := _) (v := .slice A1 n2 c2) rfl (by kernel_rfl) (by kernel_rfl) (by kernel_rfl) (fun _ _ _ h => h) (Or.inl ⟨by rfl, ?_⟩) (by assumption) ?_
        · intro W hSw
          try dsimp only at hSw
          go_simp
        try simp only [Act.put, List.getElem_toArray, List.getElem_cons_succ, List.getElem_cons_zero, List.setIfInBounds_toArray, List.set_cons_zero, List.set_cons_succ]
        have H1 : Mut (fun k => k = g2) w (w.drew.setCell ⟨g2, 0, none⟩ (.int .u8 (x : Int))) := H0.trans mut1
        have H1s : Mut (fun k => k = g2 ∨ k = s) w (w.drew.setCell ⟨g2, 0, none⟩ (.int .u8 (x : Int))) := H1.mono (fun k _ e => .inl e)
        refine wpAnyH_ready (rs := [12]) (by kernel_rfl) (by simp) ?_
        refine AllReadyH.cons (o := _) rfl (fun K hK => ?_) AllReadyH.nil
        go_simp
        refine hK.out _ _ (HS.out _ (H1s)) (fun hHeld => ?_)
        clear hK K
        try simp only [Act.put, List.getElem_toArray, List.getElem_cons_succ, List.getElem_cons_zero, List.setIfInBounds_toArray, List.set_cons_zero, List.set_cons_succ]
        refine wpAnyH_take (i := 13) (oi := _) (v := .pointer (some ⟨s, 0, none⟩)) rfl (by kernel_rfl) (by kernel_rfl) (by kernel_rfl) (fun _ _ _ h => h) (Or.inl ⟨by rfl, ?_⟩) (by assumption) ?_
        · intro W hSw
          try dsimp only at hSw
          go_simp
        try simp only [Act.put, List.getElem_toArray, List.getElem_cons_succ, List.getElem_cons_zero, List.setIfInBounds_toArray, List.set_cons_zero, List.set_cons_succ]
        refine wpAnyH_take (i := 14) (oi := _) (v := .pointer (some ⟨s, 0, none⟩)) rfl (by kernel_rfl) (by kernel_rfl) (by kernel_rfl) (fun _ _ _ h => h) (Or.inl ⟨by rfl, ?_⟩) (by assumption) ?_
        · intro W hSw
          try dsimp only at hSw
          go_simp
        try simp only [Act.put, List.getElem_toArray, List.getElem_cons_succ, List.getElem_cons_zero, List.setIfInBounds_toArray, List.set_cons_zero, List.set_cons_succ]
        have H2s : Mut (fun k => k = g2 ∨ k = s) w ((w.drew.setCell ⟨g2, 0, none⟩ (.int .u8 (x : Int))).setCell ⟨s, 0, none⟩ (.slice A1 n2 c2)) := H1s.trans (mut1.mono (fun k _ e => .inr e))
        have fs : (w.drew.setCell ⟨g2, 0, none⟩ (.int .u8 (x : Int))).frozen? ⟨s, 0, none⟩ = false := by simp [f0]
        have cs : (w.drew.setCell ⟨g2, 0, none⟩ (.int .u8 (x : Int))).cell? ⟨s, 0, none⟩ = some (.slice (some ⟨bb, off, none⟩) n c) := cell_mut c0 H1 (by show ¬ s = g2; have := HSG.out; omega)
        refine wpAnyH_ready (rs := [15]) (by kernel_rfl) (by simp) ?_
        refine AllReadyH.cons (o := _) rfl (fun K hK => ?_) AllReadyH.nil
        go_simp
        refine hK.out _ _ (HS.out _ (H2s)) (fun hHeld => ?_)
        clear hK K
        try simp only [Act.put, List.getElem_toArray, List.getElem_cons_succ, List.getElem_cons_zero, List.setIfInBounds_toArray, List.set_cons_zero, List.set_cons_succ]
        refine wpAnyH_done (by kernel_rfl) ?_ _
        have hc1 : Cell1 (w.drew.setCell ⟨g2, 0, none⟩ (.int .u8 (x : Int))) g2 (.int .u8 (x : Int)) := ⟨World.cell?_setCell_same _ _ _ (by simpa using z0), by simp [z1]⟩
        have hc2 : Cell1 ((w.drew.setCell ⟨g2, 0, none⟩ (.int .u8 (x : Int))).setCell ⟨s, 0, none⟩ (.slice A1 n2 c2)) g2 (.int .u8 (x : Int)) := hc1.mutT (G := fun k => k = s) mut1 (fun e => by have e : g2 = s := e; have := HSG.out; omega)
        have hrf := HRP.out _ H1
        have HC2 := hid hc2
        have HRF := hid hrf
        have HMF := hid (H2s.mono (fun k _ e => Or.symm e))
        clear hc1 hc2 hrf fs cs
        go_wp2
        exact bodyPost_end (results_none rfl _ _ _) rfl ⟨rfl, ⟨A1, c2, HRF.out⟩, by rw [← HXT.out]; exact HC2.out, HMF.out⟩
      · go_simp
        refine hK.out _ _ (HS.out _ (H00)) (fun hHeld => ?_)
        clear hK K
        try simp only [Act.put, List.getElem_toArray, List.getElem_cons_succ, List.getElem_cons_zero, List.setIfInBounds_toArray, List.set_cons_zero, List.set_cons_succ]
        refine wpAnyH_take (i := 11) (oi := _) (v := .slice A1 n2 c2) rfl (by kernel_rfl) (by kernel_rfl) (by kernel_rfl) (fun _ _ _ h => h) (Or.inl ⟨by rfl, ?_⟩) (by assumption) ?_
        · intro W hSw
          try dsimp only at hSw
          go_simp
        try simp only [Act.put, List.getElem_toArray, List.getElem_cons_succ, List.getElem_cons_zero, List.setIfInBounds_toArray, List.set_cons_zero, List.set_cons_succ]
        refine wpAnyH_ready (rs := [4]) (by kernel_rfl) (by simp) ?_
        refine AllReadyH.cons (o := _) rfl (fun K hK => ?_) AllReadyH.nil
        go_simp
        refine hK.out _ _ (HS.out _ (H00)) (fun hHeld => ?_)
        clear hK K
        try simp only [Act.put, List.getElem_toArray, List.getElem_cons_succ, List.getElem_cons_zero, List.setIfInBounds_toArray, List.set_cons_zero, List.set_cons_succ]
        refine wpAnyH_take (i := 5) (oi := _) (v := .pointer (some ⟨bb, off, none⟩)) rfl (by kernel_rfl) (by kernel_rfl) (by kernel_rfl) (fun _ _ _ h => h) (Or.inl ⟨by rfl, ?_⟩) (by assumption) ?_
        · intro W hSw
          try dsimp only at hSw
          go_simp
        try simp only [Act.put, List.getElem_toArray, List.getElem_cons_succ, List.getElem_cons_zero, List.setIfInBounds_toArray, List.set_cons_zero, List.set_cons_succ]
        refine wpAnyH_take (i := 6) (oi := _) (v := .int .u8 (x : Int)) rfl (by kernel_rfl) (by kernel_rfl) (by kernel_rfl) (fun _ _ _ h => h) (Or.inl ⟨by rfl, ?_⟩) (by assumption) ?_
        · intro W hSw
          try dsimp only at hSw
          go_simp
        try simp only [Act.put, List.getElem_toArray, List.getElem_cons_succ, List.getElem_cons_zero, List.setIfInBounds_toArray, List.set_cons_zero, List.set_cons_succ]
        have H1 : Mut (fun k => k = g2) w (w.drew.setCell ⟨g2, 0, none⟩ (.int .u8 (x : Int))) := H0.trans mut1
        have H1s : Mut (fun k => k = g2 ∨ k = s) w (w.drew.setCell ⟨g2, 0, none⟩ (.int .u8 (x : Int))) := H1.mono (fun k _ e => .inl e)
        refine wpAnyH_ready (rs := [12]) (by kernel_rfl) (by simp) ?_
        refine AllReadyH.cons (o := _) rfl (fun K hK => ?_) AllReadyH.nil
        go_simp
        refine hK.out _ _ (HS.out _ (H1s)) (fun hHeld => ?_)
        clear hK K
        try simp only [Act.put, List.getElem_toArray, List.getElem_cons_succ, List.getElem_cons_zero, List.setIfInBounds_toArray, List.set_cons_zero, List.set_cons_succ]
        refine wpAnyH_take (i := 13) (oi := _) (v := .pointer (some ⟨s, 0, none⟩)) rfl (by kernel_rfl) (by kernel_rfl) (by kernel_rfl) (fun _ _ _ h => h) (Or.inl ⟨by rfl, ?_⟩) (by assumption) ?_
        · intro W hSw
          try dsimp only at hSw
          go_simp
        try simp only [Act.put, List.getElem_toArray, List.getElem_cons_succ, List.getElem_cons_zero, List.setIfInBounds_toArray, List.set_cons_zero, List.set_cons_succ]
        refine wpAnyH_take (i := 14) (oi := _) (v := .pointer (some ⟨s, 0, none⟩)) rfl (by kernel_rfl) (by kernel_rfl) (by kernel_rfl) (fun _ _ _ h => h) (Or.inl ⟨by rfl, ?_⟩) (by assumption) ?_
        · intro W hSw
          try dsimp only at hSw
          go_simp
        try simp only [Act.put, List.getElem_toArray, List.getElem_cons_succ, List.getElem_cons_zero, List.setIfInBounds_toArray, List.set_cons_zero, List.set_cons_succ]
        have H2s : Mut (fun k => k = g2 ∨ k = s) w ((w.drew.setCell ⟨g2, 0, none⟩ (.int .u8 (x : Int))).setCell ⟨s, 0, none⟩ (.slice A1 n2 c2)) := H1s.trans (mut1.mono (fun k _ e => .inr e))
        have fs : (w.drew.setCell ⟨g2, 0, none⟩ (.int .u8 (x : Int))).frozen? ⟨s, 0, none⟩ = false := by simp [f0]
        have cs : (w.drew.setCell ⟨g2, 0, none⟩ (.int .u8 (x : Int))).cell? ⟨s, 0, none⟩ = some (.slice (some ⟨bb, off, none⟩) n c) := cell_mut c0 H1 (by show ¬ s = g2; have := HSG.out; omega)
        refine wpAnyH_ready (rs := [15]) (by kernel_rfl) (by simp) ?_
        refine AllReadyH.cons (o := _) rfl (fun K hK => ?_) AllReadyH.nil
        go_simp
        refine hK.out _ _ (HS.out _ (H2s)) (fun hHeld => ?_)
        clear hK K
        try simp only [Act.put, List.getElem_toArray, List.getElem_cons_succ, List.getElem_cons_zero, List.setIfInBounds_toArray, List.set_cons_zero, List.set_cons_succ]
        refine wpAnyH_done (by kernel_rfl) ?_ _
        have hc1 : Cell1 (w.drew.setCell ⟨g2, 0, none⟩ (.int .u8 (x : Int))) g2 (.int .u8 (x : Int)) := ⟨World.cell?_setCell_same _ _ _ (by simpa using z0), by simp [z1]⟩
        have hc2 : Cell1 ((w.drew.setCell ⟨g2, 0, none⟩ (.int .u8 (x : Int))).setCell ⟨s, 0, none⟩ (.slice A1 n2 c2)) g2 (.int .u8 (x : Int)) := hc1.mutT (G := fun k => k = s) mut1 (fun e => by have e : g2 = s := e; have := HSG.out; omega)
        have hrf := HRP.out _ H1
        have HC2 := hid hc2
        have HRF := hid hrf
        have HMF := hid (H2s.mono (fun k _ e => Or.symm e))
        clear hc1 hc2 hrf fs cs
        go_wp2
        exact bodyPost_end (results_none rfl _ _ _) rfl ⟨rfl, ⟨A1, c2, HRF.out⟩, by rw [← HXT.out]; exact HC2.out, HMF.out⟩
set_option maxRecDepth 100000 in
set_option maxHeartbeats 3200000 in
theorem rTruth_any {s c : Nat} {t : Bool} {a : Option Addr} {S S1 : RS} {w : World} (hX : Hid (rTruth S = (t, S1))) (hR : RdIs w s a c S) :
    Calls Try.prog 128 #[.pointer (some ⟨s, 0, none⟩)] w fun e w' => e = .returned (.bool t) ∧ (∃ a' c', RdIs w' s a' c' S1) ∧ Mut (fun k => k = s) w w' := by
  have hmf : ∀ (fn : Fn) (first cap : Array Value) (w : World), (Instr.makeFunc fn first cap).run Try.prog w = .ok (.func fn first cap) w := fun _ _ _ _ => rfl
  have hB : Below w.heap.size w ((w.alloc (.cells #[.pointer (some ⟨s, 0, none⟩)] 167)).alloc (.cells #[.int .u8 0] 5)) := ((Below.refl _ _).alloc (Nat.le_refl _) _).alloc (by simp) _
  have hR3 := hR.ext hB
  have g0 : ((w.alloc (.cells #[.pointer (some ⟨s, 0, none⟩)] 167)).alloc (.cells #[.int .u8 0] 5)).cell? ⟨w.heap.size, 0, none⟩ = some (.pointer (some ⟨s, 0, none⟩)) := by simp
  have g2 : Cell1 ((w.alloc (.cells #[.pointer (some ⟨s, 0, none⟩)] 167)).alloc (.cells #[.int .u8 0] 5)) (w.heap.size + 1) (.int .u8 0) := by
    have := Cell1.made (w.alloc (.cells #[.pointer (some ⟨s, 0, none⟩)] 167)) 5 (.int .u8 0)
    simpa using this
  obtain ⟨w3, hw3⟩ : ∃ w3, ((w.alloc (.cells #[.pointer (some ⟨s, 0, none⟩)] 167)).alloc (.cells #[.int .u8 0] 5)) = w3 := ⟨_, rfl⟩
  rw [hw3] at hB hR3 g0 g2
  have hs := hR.lt
  have hz3 := g2.lt
  by_cases he : S.e = 0
  · obtain ⟨z, hz⟩ : ∃ z : Int, (if t = true then (1 : Int) else 0) = z := ⟨_, rfl⟩
    have hW1 : wholeS S S1 = S1 := by have := wholeS_truth he; rw [hX.out] at this; exact this
    have H : Hid (∀ W, Below w3.heap.size w3 W → Calls Try.prog 200 #[.pointer (some ⟨w.heap.size, 0, none⟩), .pointer (some ⟨w.heap.size + 1, 0, none⟩)] W fun e W' => e = .returned (.tuple #[]) ∧ (∃ a' c', RdIs W' s a' c' S1) ∧ Cell1 W' (w.heap.size + 1) (.int .u8 z) ∧ Mut (fun k => k = s ∨ k = w.heap.size + 1) W W') := hid fun W h => truthC_any hX (hid hz) he (hR3.ext h) (cell_toB g0 h) (g2.ext h) (by omega) (by omega) (by omega)
    have CW := hid (wholeT_any (G := fun k => k = s ∨ k = w.heap.size + 1) (Q := fun W => Cell1 W (w.heap.size + 1) (.int .u8 z)) hR3 he (.inl rfl) (fun k hk => by rcases hk with rfl | rfl <;> omega) H (fun W W' h hm => h.mutT hm (fun e => by have e : w.heap.size + 1 = s := e; omega)))
    have HW1 := hid hW1
    have HB := hid hB
    clear hW1 g2 he hz3 hX H
    subst hw3
    have ht : (z == 1) = t := by rw [← hz]; cases t <;> rfl
    clear hz
    go_enter Try.func128, Try.ntmps128
    go_wp2_with (go_at_call 189; refine CW.out.mono ?_; rintro e w4 ⟨rfl, ⟨a4, c4, hR4⟩, hQ4, hM4⟩; have z0 := hQ4.c)
    go_ret
    exact ⟨rfl, ⟨a4, c4, by rw [HW1.out] at hR4; exact hR4⟩, hM4.weak HB.out (fun k hk e => by rcases e with e | e; exact e; omega)⟩
  · have HK := hid (rTruth_skip he)
    obtain ⟨e1, e2⟩ := Prod.mk.inj (HK.out.symm.trans hX.out)
    subst e1; subst e2
    have CW := hid (wholeT_skip (p0 := .pointer (some ⟨w.heap.size, 0, none⟩)) (p1 := .pointer (some ⟨w.heap.size + 1, 0, none⟩)) hR3 he)
    have HG2 := hid g2
    have HB := hid hB
    have HR3 := hid hR3
    clear g2 he hz3 hX
    subst hw3
    go_enter Try.func128, Try.ntmps128
    go_wp2_with (go_at_call 189; refine CW.out.mono ?_; rintro e w4 ⟨rfl, hb4⟩; have z0 := (HG2.out.ext hb4).c)
    go_ret
    exact ⟨rfl, ⟨a, c, HR3.out.ext hb4⟩, Mut.of_below (HB.out.trans (hb4.mono HB.out.size))⟩
end Go.Proofs.Ytbpfhclcjedkcaa


