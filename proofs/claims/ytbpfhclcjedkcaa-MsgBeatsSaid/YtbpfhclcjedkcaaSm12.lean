/- Parts of the proof: X12 X13 X14 X15. -/
import Derived.Test.YtbpfhclcjedkcaaSm10
namespace Go.Proofs.Ytbpfhclcjedkcaa
open Go.RowKit
theorem RdIs.mutT {G : Nat → Prop} {w w' : World} {s c : Nat} {a : Option Addr} {S : RS} (h : RdIs w s a c S) (hm : Mut G w w') (hG : ∀ k, G k → s < k) : RdIs w' s a c S := by
  have hb := hm.block s h.lt (fun hs => by have := hG s hs; omega)
  refine ⟨(World.cell?_of_block (w := w) (a := ⟨s, 0, none⟩) hb).trans h.c0, (World.cell?_of_block (w := w) (a := ⟨s, 1, none⟩) hb).trans h.c1, (World.frozen?_of_block (w := w) (a := ⟨s, 0, none⟩) hb).trans h.f0, (World.frozen?_of_block (w := w) (a := ⟨s, 1, none⟩) hb).trans h.f1, ?_, h.far, h.cap, h.byt, h.len⟩
  exact h.row.mutT hm (fun b off e hne hg => by have := h.far b off e hne; have := hG b hg; omega)
theorem cell_mut {G : Nat → Prop} {w w' : World} {p : Addr} {v : Value} (h : w.cell? p = some v) (hm : Mut G w w') (hG : ¬ G p.block) : w'.cell? p = some v :=
  (hm.cell (World.block_lt_of_cell? w _ h) hG).trans h
/-- the deferred part of whole, where something is wrong -/
theorem wholeD_bad {s g h c c' : Nat} {a a' : Option Addr} {n : Nat} {S : RS} {w : World} (u : FrameMode) (hR : RdIs w s a' c' S) (hg : w.cell? ⟨g, 0, none⟩ = some (.pointer (some ⟨s, 0, none⟩))) (hh : w.cell? ⟨h, 0, none⟩ = some (.slice a n c)) (he : S.e ≠ 0) :
    CallsD Try.prog 229 #[.pointer (some ⟨g, 0, none⟩), .pointer (some ⟨h, 0, none⟩)] u w fun e u' w' => u' = u ∧ (e = .returned (.tuple #[]) ∧ w' = w.setCell ⟨s, 0, none⟩ (.slice a n c)) := by
  have c1 := hR.c1
  have c0 := hR.c0
  have f0 := hR.f0
  have t1 : decide (S.e = 0) = false := by simpa using he
  have t2 : decide ((S.e : Int) = 0) = false := by simp; omega
  have t3 : ((S.e : Int) == 0) = false := by simp; omega
  have t4 : ((S.e : Int) != 0) = true := by simp; omega
  clear he
  go_enter_d Try.func229, Try.ntmps229
  go_wp2
  go_end0
  exact ⟨rfl, rfl⟩
theorem wholeD_ok {s g h c' : Nat} {a' : Option Addr} {S : RS} {w : World} (u : FrameMode) (hR : RdIs w s a' c' S) (hg : w.cell? ⟨g, 0, none⟩ = some (.pointer (some ⟨s, 0, none⟩))) (he : S.e = 0) :
    CallsD Try.prog 229 #[.pointer (some ⟨g, 0, none⟩), .pointer (some ⟨h, 0, none⟩)] u w fun e u' w' => u' = u ∧ (e = .returned (.tuple #[]) ∧ w' = w) := by
  have c1 := hR.c1
  rw [he] at c1
  clear he
  go_enter_d Try.func229, Try.ntmps229
  go_wp2
  go_end0
  exact ⟨rfl, rfl⟩
/-- what counts of some reading -/
def wholeS (S S1 : RS) : RS := if S1.e = 0 then S1 else ⟨S.b, S1.e⟩

set_option maxRecDepth 100000 in
set_option maxHeartbeats 1600000 in
theorem wholeN_skip {s c : Nat} {a : Option Addr} {S : RS} {w : World} {p0 p1 p2 : Value} (hR : RdIs w s a c S) (he : S.e ≠ 0) :
    Calls Try.prog 189 #[.pointer (some ⟨s, 0, none⟩), .func (.func 190) #[] #[p0, p1, p2]] w fun e w' => e = .returned (.tuple #[]) ∧ Below w.heap.size w w' := by
  have hmf : ∀ (fn : Fn) (first cap : Array Value) (w : World), (Instr.makeFunc fn first cap).run Try.prog w = .ok (.func fn first cap) w := fun _ _ _ _ => rfl
  have hB : Below w.heap.size w (w.alloc (.cells #[.pointer (some ⟨s, 0, none⟩)] 167)) := (Below.refl _ _).alloc (Nat.le_refl _) _
  have hR1 := hR.ext hB
  obtain ⟨e0, he0⟩ : ∃ e0, S.e = e0 := ⟨_, rfl⟩
  rw [he0] at he
  have t1 : decide (e0 = 0) = false := by simpa using he
  have t2 : decide ((e0 : Int) = 0) = false := by simp; omega
  have t3 : ((e0 : Int) == 0) = false := by simp; omega
  have t4 : ((e0 : Int) != 0) = true := by simp; omega
  have HE := hid he0
  clear he he0
  go_enter_defers Try.func189, Try.ntmps189
  go_wp2_with (go_at_call 194; (with_reducible refine (rErr_is hR1 HE).mono ?_); rintro e w' ⟨rfl, rfl⟩)
  exact ⟨_, results_none rfl _ _ _, rfl, hB⟩
set_option maxRecDepth 100000 in
set_option maxHeartbeats 3200000 in
theorem wholeN_any {s c : Nat} {a : Option Addr} {S S1 : RS} {w : World} {p0 p1 p2 : Value} {G : Nat → Prop} {Q : World → Prop} (hR : RdIs w s a c S) (he : S.e = 0) (hGs : G s) (hGl : ∀ k, G k → s ≤ k ∧ k < w.heap.size)
    (H : Hid (∀ W, Below w.heap.size w W → Calls Try.prog 190 #[p0, p1, p2] W fun e W' => e = .returned (.tuple #[]) ∧ (∃ a' c', RdIs W' s a' c' S1) ∧ Q W' ∧ Mut G W W'))
    (hQ : ∀ W W', Q W → Mut (fun k => k = s) W W' → Q W') :
    Calls Try.prog 189 #[.pointer (some ⟨s, 0, none⟩), .func (.func 190) #[] #[p0, p1, p2]] w fun e w' => e = .returned (.tuple #[]) ∧ (∃ a' c', RdIs w' s a' c' (wholeS S S1)) ∧ Q w' ∧ Mut G w w' := by
  have hmf : ∀ (fn : Fn) (first cap : Array Value) (w : World), (Instr.makeFunc fn first cap).run Try.prog w = .ok (.func fn first cap) w := fun _ _ _ _ => rfl
  have hB : Below w.heap.size w (w.alloc (.cells #[.pointer (some ⟨s, 0, none⟩)] 167)) := (Below.refl _ _).alloc (Nat.le_refl _) _
  have hR1 := hR.ext hB
  obtain ⟨n, hn⟩ : ∃ n, S.b.length = n := ⟨_, rfl⟩
  have c0 := hR1.c0
  rw [hn] at c0
  have HE := hid he
  have HN := hid hn
  have HQ := hid hQ
  have HGL := hid hGl
  have HGS := hid hGs
  have hB2 : Below w.heap.size w ((w.alloc (.cells #[.pointer (some ⟨s, 0, none⟩)] 167)).alloc (.cells #[.slice a n c] 42)) := hB.alloc (by simp) _
  have hg2 : ((w.alloc (.cells #[.pointer (some ⟨s, 0, none⟩)] 167)).alloc (.cells #[.slice a n c] 42)).cell? ⟨w.heap.size, 0, none⟩ = some (.pointer (some ⟨s, 0, none⟩)) := by simp
  have hh2 : ((w.alloc (.cells #[.pointer (some ⟨s, 0, none⟩)] 167)).alloc (.cells #[.slice a n c] 42)).cell? ⟨w.heap.size + 1, 0, none⟩ = some (.slice a n c) := by simp
  have HRW := hid (hR.ext hB2)
  have CK := hid (H.out _ hB2)
  clear he hn hQ hGl hGs
  go_enter_defers Try.func189, Try.ntmps189
  go_wp2_with (first
    | (go_at_call 194; (with_reducible refine (rErr_is hR1 HE).mono ?_); rintro e w' ⟨rfl, rfl⟩)
    | (go_at_call 190; refine CK.out.mono ?_; rintro e w3 ⟨rfl, ⟨a3, c3, hR3⟩, hQ3, hM3⟩))
  have hg3 := cell_mut hg2 hM3 (fun h => by have := (HGL.out _ h).2; simp at this)
  have hh3 := cell_mut hh2 hM3 (fun h => by have := (HGL.out _ h).2; simp at this; omega)
  refine leaves_cons (f := 229) (args := #[.pointer (some ⟨w.heap.size, 0, none⟩), .pointer (some ⟨w.heap.size + 1, 0, none⟩)]) (by simp) (by simp [go_sem]) ?_
  by_cases he1 : S1.e = 0
  · refine (wholeD_ok (h := w.heap.size + 1) .returning hR3 hg3 he1).mono ?_
    rintro e u' w'' ⟨rfl, rfl, rfl⟩
    exact ⟨_, results_none rfl _ _ _, rfl, ⟨a3, c3, by unfold wholeS; rw [if_pos he1]; exact hR3⟩, hQ3, (Mut.of_below hB2).trans hM3⟩
  · refine (wholeD_bad .returning hR3 hg3 hh3 he1).mono ?_
    rintro e u' w'' ⟨rfl, rfl, rfl⟩
    have hrow3 : ByteRow w3 a S.b := HRW.out.row.mutT hM3 (fun b off e hne hg => by have := HRW.out.far b off e hne; have := (HGL.out b hg).1; omega)
    have hRp := hR3.put HN.out.symm hrow3 HRW.out.far HRW.out.cap HRW.out.byt HRW.out.len
    exact ⟨_, results_none rfl _ _ _, rfl, ⟨a, c, by unfold wholeS; rw [if_neg he1]; exact hRp⟩, HQ.out _ _ hQ3 mut1, ((Mut.of_below hB2).trans hM3).trans (mut1.mono (fun k _ e => by rw [e]; exact HGS.out))⟩

set_option maxRecDepth 100000 in
set_option maxHeartbeats 1600000 in
theorem wholeP_skip {s c : Nat} {a : Option Addr} {S : RS} {w : World} {p0 p1 : Value} (hR : RdIs w s a c S) (he : S.e ≠ 0) :
    Calls Try.prog 189 #[.pointer (some ⟨s, 0, none⟩), .func (.func 198) #[] #[p0, p1]] w fun e w' => e = .returned (.tuple #[]) ∧ Below w.heap.size w w' := by
  have hmf : ∀ (fn : Fn) (first cap : Array Value) (w : World), (Instr.makeFunc fn first cap).run Try.prog w = .ok (.func fn first cap) w := fun _ _ _ _ => rfl
  have hB : Below w.heap.size w (w.alloc (.cells #[.pointer (some ⟨s, 0, none⟩)] 167)) := (Below.refl _ _).alloc (Nat.le_refl _) _
  have hR1 := hR.ext hB
  obtain ⟨e0, he0⟩ : ∃ e0, S.e = e0 := ⟨_, rfl⟩
  rw [he0] at he
  have t1 : decide (e0 = 0) = false := by simpa using he
  have t2 : decide ((e0 : Int) = 0) = false := by simp; omega
  have t3 : ((e0 : Int) == 0) = false := by simp; omega
  have t4 : ((e0 : Int) != 0) = true := by simp; omega
  have HE := hid he0
  clear he he0
  go_enter_defers Try.func189, Try.ntmps189
  go_wp2_with (go_at_call 194; (with_reducible refine (rErr_is hR1 HE).mono ?_); rintro e w' ⟨rfl, rfl⟩)
  exact ⟨_, results_none rfl _ _ _, rfl, hB⟩
set_option maxRecDepth 100000 in
set_option maxHeartbeats 3200000 in
theorem wholeP_any {s c : Nat} {a : Option Addr} {S S1 : RS} {w : World} {p0 p1 : Value} {G : Nat → Prop} {Q : World → Prop} (hR : RdIs w s a c S) (he : S.e = 0) (hGs : G s) (hGl : ∀ k, G k → s ≤ k ∧ k < w.heap.size)
    (H : Hid (∀ W, Below w.heap.size w W → Calls Try.prog 198 #[p0, p1] W fun e W' => e = .returned (.tuple #[]) ∧ (∃ a' c', RdIs W' s a' c' S1) ∧ Q W' ∧ Mut G W W'))
    (hQ : ∀ W W', Q W → Mut (fun k => k = s) W W' → Q W') :
    Calls Try.prog 189 #[.pointer (some ⟨s, 0, none⟩), .func (.func 198) #[] #[p0, p1]] w fun e w' => e = .returned (.tuple #[]) ∧ (∃ a' c', RdIs w' s a' c' (wholeS S S1)) ∧ Q w' ∧ Mut G w w' := by
  have hmf : ∀ (fn : Fn) (first cap : Array Value) (w : World), (Instr.makeFunc fn first cap).run Try.prog w = .ok (.func fn first cap) w := fun _ _ _ _ => rfl
  have hB : Below w.heap.size w (w.alloc (.cells #[.pointer (some ⟨s, 0, none⟩)] 167)) := (Below.refl _ _).alloc (Nat.le_refl _) _
  have hR1 := hR.ext hB
  obtain ⟨n, hn⟩ : ∃ n, S.b.length = n := ⟨_, rfl⟩
  have c0 := hR1.c0
  rw [hn] at c0
  have HE := hid he
  have HN := hid hn
  have HQ := hid hQ
  have HGL := hid hGl
  have HGS := hid hGs
  have hB2 : Below w.heap.size w ((w.alloc (.cells #[.pointer (some ⟨s, 0, none⟩)] 167)).alloc (.cells #[.slice a n c] 42)) := hB.alloc (by simp) _
  have hg2 : ((w.alloc (.cells #[.pointer (some ⟨s, 0, none⟩)] 167)).alloc (.cells #[.slice a n c] 42)).cell? ⟨w.heap.size, 0, none⟩ = some (.pointer (some ⟨s, 0, none⟩)) := by simp
  have hh2 : ((w.alloc (.cells #[.pointer (some ⟨s, 0, none⟩)] 167)).alloc (.cells #[.slice a n c] 42)).cell? ⟨w.heap.size + 1, 0, none⟩ = some (.slice a n c) := by simp
  have HRW := hid (hR.ext hB2)
  have CK := hid (H.out _ hB2)
  clear he hn hQ hGl hGs
  go_enter_defers Try.func189, Try.ntmps189
  go_wp2_with (first
    | (go_at_call 194; (with_reducible refine (rErr_is hR1 HE).mono ?_); rintro e w' ⟨rfl, rfl⟩)
    | (go_at_call 198; refine CK.out.mono ?_; rintro e w3 ⟨rfl, ⟨a3, c3, hR3⟩, hQ3, hM3⟩))
  have hg3 := cell_mut hg2 hM3 (fun h => by have := (HGL.out _ h).2; simp at this)
  have hh3 := cell_mut hh2 hM3 (fun h => by have := (HGL.out _ h).2; simp at this; omega)
  refine leaves_cons (f := 229) (args := #[.pointer (some ⟨w.heap.size, 0, none⟩), .pointer (some ⟨w.heap.size + 1, 0, none⟩)]) (by simp) (by simp [go_sem]) ?_
  by_cases he1 : S1.e = 0
  · refine (wholeD_ok (h := w.heap.size + 1) .returning hR3 hg3 he1).mono ?_
    rintro e u' w'' ⟨rfl, rfl, rfl⟩
    exact ⟨_, results_none rfl _ _ _, rfl, ⟨a3, c3, by unfold wholeS; rw [if_pos he1]; exact hR3⟩, hQ3, (Mut.of_below hB2).trans hM3⟩
  · refine (wholeD_bad .returning hR3 hg3 hh3 he1).mono ?_
    rintro e u' w'' ⟨rfl, rfl, rfl⟩
    have hrow3 : ByteRow w3 a S.b := HRW.out.row.mutT hM3 (fun b off e hne hg => by have := HRW.out.far b off e hne; have := (HGL.out b hg).1; omega)
    have hRp := hR3.put HN.out.symm hrow3 HRW.out.far HRW.out.cap HRW.out.byt HRW.out.len
    exact ⟨_, results_none rfl _ _ _, rfl, ⟨a, c, by unfold wholeS; rw [if_neg he1]; exact hRp⟩, HQ.out _ _ hQ3 mut1, ((Mut.of_below hB2).trans hM3).trans (mut1.mono (fun k _ e => by rw [e]; exact HGS.out))⟩

set_option maxRecDepth 100000 in
set_option maxHeartbeats 1600000 in
theorem wholeB_skip {s c : Nat} {a : Option Addr} {S : RS} {w : World} {p0 p1 p2 : Value} (hR : RdIs w s a c S) (he : S.e ≠ 0) :
    Calls Try.prog 189 #[.pointer (some ⟨s, 0, none⟩), .func (.func 202) #[] #[p0, p1, p2]] w fun e w' => e = .returned (.tuple #[]) ∧ Below w.heap.size w w' := by
  have hmf : ∀ (fn : Fn) (first cap : Array Value) (w : World), (Instr.makeFunc fn first cap).run Try.prog w = .ok (.func fn first cap) w := fun _ _ _ _ => rfl
  have hB : Below w.heap.size w (w.alloc (.cells #[.pointer (some ⟨s, 0, none⟩)] 167)) := (Below.refl _ _).alloc (Nat.le_refl _) _
  have hR1 := hR.ext hB
  obtain ⟨e0, he0⟩ : ∃ e0, S.e = e0 := ⟨_, rfl⟩
  rw [he0] at he
  have t1 : decide (e0 = 0) = false := by simpa using he
  have t2 : decide ((e0 : Int) = 0) = false := by simp; omega
  have t3 : ((e0 : Int) == 0) = false := by simp; omega
  have t4 : ((e0 : Int) != 0) = true := by simp; omega
  have HE := hid he0
  clear he he0
  go_enter_defers Try.func189, Try.ntmps189
  go_wp2_with (go_at_call 194; (with_reducible refine (rErr_is hR1 HE).mono ?_); rintro e w' ⟨rfl, rfl⟩)
  exact ⟨_, results_none rfl _ _ _, rfl, hB⟩
set_option maxRecDepth 100000 in
set_option maxHeartbeats 3200000 in
theorem wholeB_any {s c : Nat} {a : Option Addr} {S S1 : RS} {w : World} {p0 p1 p2 : Value} {G : Nat → Prop} {Q : World → Prop} (hR : RdIs w s a c S) (he : S.e = 0) (hGs : G s) (hGl : ∀ k, G k → s ≤ k ∧ k < w.heap.size)
    (H : Hid (∀ W, Below w.heap.size w W → Calls Try.prog 202 #[p0, p1, p2] W fun e W' => e = .returned (.tuple #[]) ∧ (∃ a' c', RdIs W' s a' c' S1) ∧ Q W' ∧ Mut G W W'))
    (hQ : ∀ W W', Q W → Mut (fun k => k = s) W W' → Q W') :
    Calls Try.prog 189 #[.pointer (some ⟨s, 0, none⟩), .func (.func 202) #[] #[p0, p1, p2]] w fun e w' => e = .returned (.tuple #[]) ∧ (∃ a' c', RdIs w' s a' c' (wholeS S S1)) ∧ Q w' ∧ Mut G w w' := by
  have hmf : ∀ (fn : Fn) (first cap : Array Value) (w : World), (Instr.makeFunc fn first cap).run Try.prog w = .ok (.func fn first cap) w := fun _ _ _ _ => rfl
  have hB : Below w.heap.size w (w.alloc (.cells #[.pointer (some ⟨s, 0, none⟩)] 167)) := (Below.refl _ _).alloc (Nat.le_refl _) _
  have hR1 := hR.ext hB
  obtain ⟨n, hn⟩ : ∃ n, S.b.length = n := ⟨_, rfl⟩
  have c0 := hR1.c0
  rw [hn] at c0
  have HE := hid he
  have HN := hid hn
  have HQ := hid hQ
  have HGL := hid hGl
  have HGS := hid hGs
  have hB2 : Below w.heap.size w ((w.alloc (.cells #[.pointer (some ⟨s, 0, none⟩)] 167)).alloc (.cells #[.slice a n c] 42)) := hB.alloc (by simp) _
  have hg2 : ((w.alloc (.cells #[.pointer (some ⟨s, 0, none⟩)] 167)).alloc (.cells #[.slice a n c] 42)).cell? ⟨w.heap.size, 0, none⟩ = some (.pointer (some ⟨s, 0, none⟩)) := by simp
  have hh2 : ((w.alloc (.cells #[.pointer (some ⟨s, 0, none⟩)] 167)).alloc (.cells #[.slice a n c] 42)).cell? ⟨w.heap.size + 1, 0, none⟩ = some (.slice a n c) := by simp
  have HRW := hid (hR.ext hB2)
  have CK := hid (H.out _ hB2)
  clear he hn hQ hGl hGs
  go_enter_defers Try.func189, Try.ntmps189
  go_wp2_with (first
    | (go_at_call 194; (with_reducible refine (rErr_is hR1 HE).mono ?_); rintro e w' ⟨rfl, rfl⟩)
    | (go_at_call 202; refine CK.out.mono ?_; rintro e w3 ⟨rfl, ⟨a3, c3, hR3⟩, hQ3, hM3⟩))
  have hg3 := cell_mut hg2 hM3 (fun h => by have := (HGL.out _ h).2; simp at this)
  have hh3 := cell_mut hh2 hM3 (fun h => by have := (HGL.out _ h).2; simp at this; omega)
  refine leaves_cons (f := 229) (args := #[.pointer (some ⟨w.heap.size, 0, none⟩), .pointer (some ⟨w.heap.size + 1, 0, none⟩)]) (by simp) (by simp [go_sem]) ?_
  by_cases he1 : S1.e = 0
  · refine (wholeD_ok (h := w.heap.size + 1) .returning hR3 hg3 he1).mono ?_
    rintro e u' w'' ⟨rfl, rfl, rfl⟩
    exact ⟨_, results_none rfl _ _ _, rfl, ⟨a3, c3, by unfold wholeS; rw [if_pos he1]; exact hR3⟩, hQ3, (Mut.of_below hB2).trans hM3⟩
  · refine (wholeD_bad .returning hR3 hg3 hh3 he1).mono ?_
    rintro e u' w'' ⟨rfl, rfl, rfl⟩
    have hrow3 : ByteRow w3 a S.b := HRW.out.row.mutT hM3 (fun b off e hne hg => by have := HRW.out.far b off e hne; have := (HGL.out b hg).1; omega)
    have hRp := hR3.put HN.out.symm hrow3 HRW.out.far HRW.out.cap HRW.out.byt HRW.out.len
    exact ⟨_, results_none rfl _ _ _, rfl, ⟨a, c, by unfold wholeS; rw [if_neg he1]; exact hRp⟩, HQ.out _ _ hQ3 mut1, ((Mut.of_below hB2).trans hM3).trans (mut1.mono (fun k _ e => by rw [e]; exact HGS.out))⟩

set_option maxRecDepth 100000 in
set_option maxHeartbeats 1600000 in
theorem wholeL_skip {s c : Nat} {a : Option Addr} {S : RS} {w : World} {p0 p1 p2 : Value} (hR : RdIs w s a c S) (he : S.e ≠ 0) :
    Calls Try.prog 189 #[.pointer (some ⟨s, 0, none⟩), .func (.func 192) #[] #[p0, p1, p2]] w fun e w' => e = .returned (.tuple #[]) ∧ Below w.heap.size w w' := by
  have hmf : ∀ (fn : Fn) (first cap : Array Value) (w : World), (Instr.makeFunc fn first cap).run Try.prog w = .ok (.func fn first cap) w := fun _ _ _ _ => rfl
  have hB : Below w.heap.size w (w.alloc (.cells #[.pointer (some ⟨s, 0, none⟩)] 167)) := (Below.refl _ _).alloc (Nat.le_refl _) _
  have hR1 := hR.ext hB
  obtain ⟨e0, he0⟩ : ∃ e0, S.e = e0 := ⟨_, rfl⟩
  rw [he0] at he
  have t1 : decide (e0 = 0) = false := by simpa using he
  have t2 : decide ((e0 : Int) = 0) = false := by simp; omega
  have t3 : ((e0 : Int) == 0) = false := by simp; omega
  have t4 : ((e0 : Int) != 0) = true := by simp; omega
  have HE := hid he0
  clear he he0
  go_enter_defers Try.func189, Try.ntmps189
  go_wp2_with (go_at_call 194; (with_reducible refine (rErr_is hR1 HE).mono ?_); rintro e w' ⟨rfl, rfl⟩)
  exact ⟨_, results_none rfl _ _ _, rfl, hB⟩
set_option maxRecDepth 100000 in
set_option maxHeartbeats 3200000 in
theorem wholeL_any {s c : Nat} {a : Option Addr} {S S1 : RS} {w : World} {p0 p1 p2 : Value} {G : Nat → Prop} {Q : World → Prop} (hR : RdIs w s a c S) (he : S.e = 0) (hGs : G s) (hGl : ∀ k, G k → s ≤ k ∧ k < w.heap.size)
    (H : Hid (∀ W, Below w.heap.size w W → Calls Try.prog 192 #[p0, p1, p2] W fun e W' => e = .returned (.tuple #[]) ∧ (∃ a' c', RdIs W' s a' c' S1) ∧ Q W' ∧ Mut G W W'))
    (hQ : ∀ W W', Q W → Mut (fun k => k = s) W W' → Q W') :
    Calls Try.prog 189 #[.pointer (some ⟨s, 0, none⟩), .func (.func 192) #[] #[p0, p1, p2]] w fun e w' => e = .returned (.tuple #[]) ∧ (∃ a' c', RdIs w' s a' c' (wholeS S S1)) ∧ Q w' ∧ Mut G w w' := by
  have hmf : ∀ (fn : Fn) (first cap : Array Value) (w : World), (Instr.makeFunc fn first cap).run Try.prog w = .ok (.func fn first cap) w := fun _ _ _ _ => rfl
  have hB : Below w.heap.size w (w.alloc (.cells #[.pointer (some ⟨s, 0, none⟩)] 167)) := (Below.refl _ _).alloc (Nat.le_refl _) _
  have hR1 := hR.ext hB
  obtain ⟨n, hn⟩ : ∃ n, S.b.length = n := ⟨_, rfl⟩
  have c0 := hR1.c0
  rw [hn] at c0
  have HE := hid he
  have HN := hid hn
  have HQ := hid hQ
  have HGL := hid hGl
  have HGS := hid hGs
  have hB2 : Below w.heap.size w ((w.alloc (.cells #[.pointer (some ⟨s, 0, none⟩)] 167)).alloc (.cells #[.slice a n c] 42)) := hB.alloc (by simp) _
  have hg2 : ((w.alloc (.cells #[.pointer (some ⟨s, 0, none⟩)] 167)).alloc (.cells #[.slice a n c] 42)).cell? ⟨w.heap.size, 0, none⟩ = some (.pointer (some ⟨s, 0, none⟩)) := by simp
  have hh2 : ((w.alloc (.cells #[.pointer (some ⟨s, 0, none⟩)] 167)).alloc (.cells #[.slice a n c] 42)).cell? ⟨w.heap.size + 1, 0, none⟩ = some (.slice a n c) := by simp
  have HRW := hid (hR.ext hB2)
  have CK := hid (H.out _ hB2)
  clear he hn hQ hGl hGs
  go_enter_defers Try.func189, Try.ntmps189
  go_wp2_with (first
    | (go_at_call 194; (with_reducible refine (rErr_is hR1 HE).mono ?_); rintro e w' ⟨rfl, rfl⟩)
    | (go_at_call 192; refine CK.out.mono ?_; rintro e w3 ⟨rfl, ⟨a3, c3, hR3⟩, hQ3, hM3⟩))
  have hg3 := cell_mut hg2 hM3 (fun h => by have := (HGL.out _ h).2; simp at this)
  have hh3 := cell_mut hh2 hM3 (fun h => by have := (HGL.out _ h).2; simp at this; omega)
  refine leaves_cons (f := 229) (args := #[.pointer (some ⟨w.heap.size, 0, none⟩), .pointer (some ⟨w.heap.size + 1, 0, none⟩)]) (by simp) (by simp [go_sem]) ?_
  by_cases he1 : S1.e = 0
  · refine (wholeD_ok (h := w.heap.size + 1) .returning hR3 hg3 he1).mono ?_
    rintro e u' w'' ⟨rfl, rfl, rfl⟩
    exact ⟨_, results_none rfl _ _ _, rfl, ⟨a3, c3, by unfold wholeS; rw [if_pos he1]; exact hR3⟩, hQ3, (Mut.of_below hB2).trans hM3⟩
  · refine (wholeD_bad .returning hR3 hg3 hh3 he1).mono ?_
    rintro e u' w'' ⟨rfl, rfl, rfl⟩
    have hrow3 : ByteRow w3 a S.b := HRW.out.row.mutT hM3 (fun b off e hne hg => by have := HRW.out.far b off e hne; have := (HGL.out b hg).1; omega)
    have hRp := hR3.put HN.out.symm hrow3 HRW.out.far HRW.out.cap HRW.out.byt HRW.out.len
    exact ⟨_, results_none rfl _ _ _, rfl, ⟨a, c, by unfold wholeS; rw [if_neg he1]; exact hRp⟩, HQ.out _ _ hQ3 mut1, ((Mut.of_below hB2).trans hM3).trans (mut1.mono (fun k _ e => by rw [e]; exact HGS.out))⟩
end Go.Proofs.Ytbpfhclcjedkcaa

namespace Go.Proofs.Ytbpfhclcjedkcaa
open Go.RowKit
theorem wholeS_num {most : Nat} {S : RS} (he : S.e = 0) : wholeS S (rNum most S).2 = (rNum most S).2 := by
  unfold wholeS rNum
  simp only [he, ne_eq, not_true_eq_false, if_false]
  by_cases h1 : (getS S.b).2.2 = 0
  · simp only [h1, not_true_eq_false, if_false]
    by_cases h2 : most < (getS S.b).1
    · simp [h2]
    · simp [h2]
  · simp [h1]
theorem three0 (w : World) (x y z : Obj) {v : Value} (h : (w.alloc x).cell? ⟨w.heap.size, 0, none⟩ = some v) : (((w.alloc x).alloc y).alloc z).cell? ⟨w.heap.size, 0, none⟩ = some v :=
  cell_toB h (((Below.refl _ _).alloc (Nat.le_refl _) _).alloc (by simp) _)
theorem three1 (w : World) (x y z : Obj) {v : Value} (h : ((w.alloc x).alloc y).cell? ⟨w.heap.size + 1, 0, none⟩ = some v) : (((w.alloc x).alloc y).alloc z).cell? ⟨w.heap.size + 1, 0, none⟩ = some v :=
  cell_toB h ((Below.refl _ _).alloc (Nat.le_refl _) _)
theorem rNum_skip {most : Nat} {S : RS} (he : S.e ≠ 0) : rNum most S = (0, S) := by unfold rNum; rw [if_pos he]
theorem Mut.weak {F G : Nat → Prop} {w w1 w2 : World} (hb : Below w.heap.size w w1) (h : Mut F w1 w2) (hFG : ∀ k, k < w.heap.size → F k → G k) : Mut G w w2 :=
  ((Mut.of_below (F := F) hb).trans h).mono hFG
/-- the place of a result: one cell -/
structure Cell1 (w : World) (g : Nat) (v : Value) : Prop where
  c : w.cell? ⟨g, 0, none⟩ = some v
  f : w.frozen? ⟨g, 0, none⟩ = false
theorem Cell1.made (w : World) (t : TypeId) (v : Value) : Cell1 (w.alloc (.cells #[v] t)) w.heap.size v := ⟨by simp, by simp⟩
theorem Cell1.lt {w : World} {g : Nat} {v : Value} (h : Cell1 w g v) : g < w.heap.size := World.block_lt_of_cell? w _ h.c
theorem Cell1.ext {w w' : World} {g : Nat} {v : Value} (h : Cell1 w g v) (hb : Below w.heap.size w w') : Cell1 w' g v := ⟨cell_toB h.c hb, (hb.frozen (by exact h.lt)).trans h.f⟩
theorem Cell1.mutT {G : Nat → Prop} {w w' : World} {g : Nat} {v : Value} (h : Cell1 w g v) (hm : Mut G w w') (hG : ¬ G g) : Cell1 w' g v :=
  ⟨cell_mut h.c hm hG, (World.frozen?_of_block (w := w) (a := ⟨g, 0, none⟩) (hm.block g h.lt hG)).trans h.f⟩
set_option maxRecDepth 100000 in
set_option maxHeartbeats 1600000 in
theorem numC_any {s c g0 g1 g2 most x : Nat} {a : Option Addr} {S S1 : RS} {w : World} {v0 : Value} (hx : Hid (rNum most S = (x, S1))) (hm : most < 18446744073709551616) (hR : RdIs w s a c S) (h0 : w.cell? ⟨g0, 0, none⟩ = some (.pointer (some ⟨s, 0, none⟩))) (h1 : w.cell? ⟨g1, 0, none⟩ = some (.int .u64 most)) (h2 : Cell1 w g2 v0) (hs : s < g2) :
    Calls Try.prog 190 #[.pointer (some ⟨g0, 0, none⟩), .pointer (some ⟨g1, 0, none⟩), .pointer (some ⟨g2, 0, none⟩)] w fun e w' => e = .returned (.tuple #[]) ∧ (∃ a' c', RdIs w' s a' c' S1) ∧ Cell1 w' g2 (.int .u64 x) ∧ Mut (fun k => k = s ∨ k = g2) w w' := by
  have CN : Hid (Calls Try.prog 191 #[.pointer (some ⟨s, 0, none⟩), .int .u64 most] w fun e w' => e = .returned (.int .u64 x) ∧ (∃ a' c', RdIs w' s a' c' S1) ∧ Mut (fun k => k = s) w w') := hid (by
    have := rnum_any most hm hR
    rw [hx.out] at this; exact this)
  have hgs : ¬ (fun k => k = s) g2 := fun e => by have e : g2 = s := e; omega
  have HG := hid hgs
  clear hgs
  go_enter Try.func190, Try.ntmps190
  go_wp2_with (go_at_call 191; refine CN.out.mono ?_; rintro e w1 ⟨rfl, ⟨a1, c1, hR1⟩, hM1⟩; have hz := h2.mutT hM1 HG.out; have z0 := hz.c; have z1 := hz.f)
  have hM2 : Mut (fun k => k = s ∨ k = g2) w1 (w1.setCell ⟨g2, 0, none⟩ (.int .u64 x)) := mut1.mono (fun k _ e => .inr e)
  exact bodyPost_end (results_none rfl _ _ _) rfl ⟨rfl, ⟨a1, c1, hR1.mutT (G := fun k => k = g2) mut1 (fun k e => by rw [e]; exact hs)⟩, ⟨World.cell?_setCell_same _ _ _ z0, by simp [z1]⟩, (hM1.mono (fun k _ e => .inl e)).trans hM2⟩
set_option maxRecDepth 100000 in
set_option maxHeartbeats 1600000 in
theorem rNum_any {s c : Nat} {a : Option Addr} {S : RS} {w : World} (most : Nat) (hm : most < 18446744073709551616) (hR : RdIs w s a c S) :
    Calls Try.prog 115 #[.pointer (some ⟨s, 0, none⟩), .int .u64 most] w fun e w' => e = .returned (.int .u64 (rNum most S).1) ∧ (∃ a' c', RdIs w' s a' c' (rNum most S).2) ∧ Mut (fun k => k = s) w w' := by
  have hmf : ∀ (fn : Fn) (first cap : Array Value) (w : World), (Instr.makeFunc fn first cap).run Try.prog w = .ok (.func fn first cap) w := fun _ _ _ _ => rfl
  have hB : Below w.heap.size w (((w.alloc (.cells #[.pointer (some ⟨s, 0, none⟩)] 167)).alloc (.cells #[.int .u64 most] 29)).alloc (.cells #[.int .u64 0] 29)) := (((Below.refl _ _).alloc (Nat.le_refl _) _).alloc (by simp) _).alloc (by simp; omega) _
  have hR3 := hR.ext hB
  have g0 : (((w.alloc (.cells #[.pointer (some ⟨s, 0, none⟩)] 167)).alloc (.cells #[.int .u64 most] 29)).alloc (.cells #[.int .u64 0] 29)).cell? ⟨w.heap.size, 0, none⟩ = some (.pointer (some ⟨s, 0, none⟩)) := three0 _ _ _ _ (by simp)
  have g1 : (((w.alloc (.cells #[.pointer (some ⟨s, 0, none⟩)] 167)).alloc (.cells #[.int .u64 most] 29)).alloc (.cells #[.int .u64 0] 29)).cell? ⟨w.heap.size + 1, 0, none⟩ = some (.int .u64 most) := three1 _ _ _ _ (by simp)
  have g2 : Cell1 (((w.alloc (.cells #[.pointer (some ⟨s, 0, none⟩)] 167)).alloc (.cells #[.int .u64 most] 29)).alloc (.cells #[.int .u64 0] 29)) (w.heap.size + 1 + 1) (.int .u64 0) := by
    have := Cell1.made ((w.alloc (.cells #[.pointer (some ⟨s, 0, none⟩)] 167)).alloc (.cells #[.int .u64 most] 29)) 29 (.int .u64 0)
    simpa using this
  obtain ⟨w3, hw3⟩ : ∃ w3, (((w.alloc (.cells #[.pointer (some ⟨s, 0, none⟩)] 167)).alloc (.cells #[.int .u64 most] 29)).alloc (.cells #[.int .u64 0] 29)) = w3 := ⟨_, rfl⟩
  rw [hw3] at hB hR3 g0 g1 g2
  have hs := hR.lt
  have hz3 := g2.lt
  obtain ⟨⟨x, S1⟩, hx⟩ : ∃ q, rNum most S = q := ⟨_, rfl⟩
  have HX := hid hx
  by_cases he : S.e = 0
  · have hW1 : wholeS S S1 = S1 := by have := wholeS_num (most := most) he; rw [hx] at this; exact this
    have H : Hid (∀ W, Below w3.heap.size w3 W → Calls Try.prog 190 #[.pointer (some ⟨w.heap.size, 0, none⟩), .pointer (some ⟨w.heap.size + 1, 0, none⟩), .pointer (some ⟨w.heap.size + 1 + 1, 0, none⟩)] W fun e W' => e = .returned (.tuple #[]) ∧ (∃ a' c', RdIs W' s a' c' S1) ∧ Cell1 W' (w.heap.size + 1 + 1) (.int .u64 x) ∧ Mut (fun k => k = s ∨ k = w.heap.size + 1 + 1) W W') := hid fun W h => numC_any HX hm (hR3.ext h) (cell_toB g0 h) (cell_toB g1 h) (g2.ext h) (by omega)
    have CW := hid (wholeN_any (G := fun k => k = s ∨ k = w.heap.size + 1 + 1) (Q := fun W => Cell1 W (w.heap.size + 1 + 1) (.int .u64 x)) hR3 he (.inl rfl) (fun k hk => by rcases hk with rfl | rfl <;> omega) H (fun W W' h hm => h.mutT hm (fun e => by have e : w.heap.size + 1 + 1 = s := e; omega)))
    have HW1 := hid hW1
    clear hx hW1 g1 g2 he hz3
    subst hw3
    go_enter Try.func115, Try.ntmps115
    go_wp2_with (go_at_call 189; refine CW.out.mono ?_; rintro e w4 ⟨rfl, ⟨a4, c4, hR4⟩, hQ4, hM4⟩; have z0 := hQ4.c)
    go_ret
    exact ⟨by rw [HX.out]; rfl, ⟨a4, c4, by rw [HX.out]; rw [HW1.out] at hR4; exact hR4⟩, hM4.weak hB (fun k hk e => by rcases e with e | e; exact e; omega)⟩
  · have HK := hid (rNum_skip (most := most) he)
    have hx0 : x = 0 ∧ S1 = S := by have := rNum_skip (most := most) he; rw [hx] at this; exact Prod.mk.inj this
    have CW := hid (wholeN_skip (p0 := .pointer (some ⟨w.heap.size, 0, none⟩)) (p1 := .pointer (some ⟨w.heap.size + 1, 0, none⟩)) (p2 := .pointer (some ⟨w.heap.size + 1 + 1, 0, none⟩)) hR3 he)
    have HG2 := hid g2
    clear hx g1 g2 he hx0 hz3
    subst hw3
    go_enter Try.func115, Try.ntmps115
    go_wp2_with (go_at_call 189; refine CW.out.mono ?_; rintro e w4 ⟨rfl, hb4⟩; have z0 := (HG2.out.ext hb4).c)
    go_ret
    exact ⟨by rw [HK.out]; rfl, ⟨a, c, by rw [HK.out]; exact hR3.ext hb4⟩, Mut.of_below (hB.trans (hb4.mono hB.size))⟩
end Go.Proofs.Ytbpfhclcjedkcaa

namespace Go.Proofs.Ytbpfhclcjedkcaa
open Go.RowKit
/-- a box of two cells -/
structure BoxP (w : World) (b : Nat) (v0 v1 : Value) : Prop where
  c0 : w.cell? ⟨b, 0, none⟩ = some v0
  c1 : w.cell? ⟨b, 1, none⟩ = some v1
  f0 : w.frozen? ⟨b, 0, none⟩ = false
  f1 : w.frozen? ⟨b, 1, none⟩ = false
theorem BoxP.lt {w : World} {b : Nat} {v0 v1 : Value} (h : BoxP w b v0 v1) : b < w.heap.size := World.block_lt_of_cell? w _ h.c0
theorem BoxP.ext {w w' : World} {b : Nat} {v0 v1 : Value} (h : BoxP w b v0 v1) (hb : Below w.heap.size w w') : BoxP w' b v0 v1 :=
  ⟨cell_toB h.c0 hb, cell_toB h.c1 hb, (hb.frozen (by exact h.lt)).trans h.f0, (hb.frozen (by exact h.lt)).trans h.f1⟩
theorem BoxP.made (w : World) (t : TypeId) (v0 v1 : Value) : BoxP (w.alloc (.cells #[v0, v1] t)) w.heap.size v0 v1 := ⟨by simp, by simp, by simp, by simp⟩
theorem BoxP.mutT {G : Nat → Prop} {w w' : World} {b : Nat} {v0 v1 : Value} (h : BoxP w b v0 v1) (hm : Mut G w w') (hG : ¬ G b) : BoxP w' b v0 v1 :=
  ⟨cell_mut h.c0 hm hG, cell_mut h.c1 hm hG, (World.frozen?_of_block (w := w) (a := ⟨b, 0, none⟩) (hm.block b h.lt hG)).trans h.f0, (World.frozen?_of_block (w := w) (a := ⟨b, 1, none⟩) (hm.block b h.lt hG)).trans h.f1⟩
theorem BoxP.put {w : World} {b : Nat} {v0 v1 : Value} (h : BoxP w b v0 v1) (x y : Value) : BoxP ((w.setCell ⟨b, 0, none⟩ x).setCell ⟨b, 1, none⟩ y) b x y := by
  refine ⟨?_, ?_, by simp [h.f0], by simp [h.f1]⟩
  · rw [World.cell?_setCell_other _ _ _ _ (by simp)]
    exact World.cell?_setCell_same _ _ _ h.c0
  · refine World.cell?_setCell_same _ _ _ (u := v1) ?_
    rw [World.cell?_setCell_other _ _ _ _ (by simp)]
    exact h.c1
theorem mut2 {w : World} {s : Nat} {x y : Value} : Mut (fun k => k = s) w ((w.setCell ⟨s, 0, none⟩ x).setCell ⟨s, 1, none⟩ y) := mut1.trans mut1
theorem pidGet_is {a : Option Addr} {c n : Nat} {bs : List Nat} {w : World} {x y : Int} {u e : Nat} (h : Hid (getP bs = ((x, y), u, e))) (hn : Hid (bs.length = n)) (hc : n ≤ c) (hl : n ≤ 70368744177664) (hby : ∀ b ∈ bs, b < 256) (hrow : ByteRow w a bs) :
    Calls Try.prog 231 #[.slice a n c] w fun e' w' => e' = .returned (.tuple #[.agg #[.int .u16 x, .int .u32 y], .int .i64 u, .int .i64 e]) ∧ Below w.heap.size w w' := by
  have := pidGet_any (w := w) hn hc hl hby hrow
  rw [h.out] at this; exact this
theorem getS_ok {bs : List Nat} (h : (getS bs).2.2 = 0) : (getS bs).1 < 18446744073709551616 ∧ (getS bs).2.1 ≤ bs.length ∧ 0 < (getS bs).2.1 := by
  obtain ⟨h1, h2, h3, _⟩ := getFrom_ok bs 0 0 (by decide) (by decide) h
  exact ⟨h1, by unfold getS; omega, h2⟩
theorem getP_ok {bs : List Nat} (h : (getP bs).2.2 = 0) : (getP bs).2.1 ≤ bs.length ∧ okP (getP bs).1 := by
  unfold getP at h ⊢
  by_cases h1 : (getS bs).2.2 = 0
  · rw [if_neg (by simp [h1])] at h ⊢
    by_cases h2 : (getS (bs.drop (getS bs).2.1)).2.2 = 0
    · rw [if_neg (by simp [h2])] at h ⊢
      by_cases h3 : 65535 < (getS bs).1 ∨ 4294967295 < (getS (bs.drop (getS bs).2.1)).1
      · rw [if_pos h3] at h; simp at h
      · rw [if_neg h3]
        obtain ⟨_, g2, _⟩ := getS_ok h1
        obtain ⟨_, g4, _⟩ := getS_ok h2
        rw [List.length_drop] at g4
        exact ⟨by simp only; omega, by simp only [okP]; omega⟩
    · rw [if_pos h2] at h; exact absurd h h2
  · rw [if_pos h1] at h; exact absurd h h1
theorem rPid_ok (S : RS) : okP (rPid S).1 := by
  unfold rPid
  split
  · exact ⟨by simp, by simp, by simp, by simp⟩
  · split
    · exact ⟨by simp, by simp, by simp, by simp⟩
    · next h => exact (getP_ok (by simpa using h)).2
set_option maxRecDepth 100000 in
set_option maxHeartbeats 3200000 in
theorem rpid_any {s c : Nat} {a : Option Addr} {S S1 : RS} {w : World} {x y : Int} (hx : Hid (rPid S = ((x, y), S1))) (hR : RdIs w s a c S) :
    Calls Try.prog 193 #[.pointer (some ⟨s, 0, none⟩)] w fun e w' => e = .returned (.agg #[.int .u16 x, .int .u32 y]) ∧ (∃ a' c', RdIs w' s a' c' S1) ∧ Mut (fun k => k = s) w w' := by
  have hB : Below w.heap.size w (w.alloc (.cells #[.int .u16 0, .int .u32 0] 26)) := (Below.refl _ _).alloc (Nat.le_refl _) _
  have hR1 := hR.ext hB
  have hbx := BoxP.made w 26 (.int .u16 0) (.int .u32 0)
  have hs := hR.lt
  have hsn : ¬ w.heap.size = s := by omega
  have c0 := hR1.c0
  have c1 := hR1.c1
  have f0 := hR1.f0
  obtain ⟨n, hn⟩ : ∃ n, S.b.length = n := ⟨_, rfl⟩
  have hlen := hR.len
  have hcap := hR.cap
  rw [hn] at c0 hlen hcap
  have HN := hid hn
  have HBY := hid hR.byt
  have hrow := hR1.row
  have HR := hid hR
  obtain ⟨w1, hw1⟩ : ∃ w1, w.alloc (.cells #[.int .u16 0, .int .u32 0] 26) = w1 := ⟨_, rfl⟩
  rw [hw1] at hB hR1 hbx c0 c1 f0 hrow
  have hres : ∀ (W : World) (X Y : Int), BoxP W w.heap.size (.int .u16 X) (.int .u32 Y) → (W.cell? ⟨w.heap.size, 0, none⟩ = some (.int .u16 X) ∧ W.cell? ⟨w.heap.size, 1, none⟩ = some (.int .u32 Y)) := fun W X Y h => ⟨h.c0, h.c1⟩
  have HRES := hid hres
  clear hn hR hres
  by_cases he : S.e = 0
  · rw [he] at c1
    obtain ⟨⟨⟨px, py⟩, u, e⟩, hG⟩ : ∃ q, getP S.b = q := ⟨_, rfl⟩
    have hok := getP_ok (bs := S.b)
    rw [hG] at hok
    simp only at hok
    have HG := hid hG
    have HE := hid he
    clear hG he
    by_cases he2 : e = 0
    · subst he2
      have hu := (hok rfl).1
      rw [HN.out] at hu
      clear hok
      have HQ : Hid ((x, y) = (px, py) ∧ S1 = ⟨S.b.drop u, 0⟩) := hid (by
        have := hx.out
        unfold rPid at this
        rw [if_neg (by simp [HE.out]), if_neg (by rw [HG.out]; simp), HG.out] at this
        obtain ⟨h1, h2⟩ := Prod.mk.inj this
        exact ⟨h1.symm, h2.symm⟩)
      obtain ⟨e1, e2⟩ := Prod.mk.inj HQ.out.1
      subst e1; subst e2
      obtain ⟨A1, hA1⟩ : ∃ A, (if c = u then a else a.map (·.add (u * 1))) = A := ⟨_, rfl⟩
      have hrun := fun W => run_fromB (a := a) (c := c) hu W
      have hr2 := hrow.cut (k := u) (c := c) (by rw [HN.out]; exact hcap)
      have hf2 := hrow.cutA (k := u) (c := c) hR1.far
      rw [hA1] at hr2 hf2
      simp only [hA1] at hrun
      obtain ⟨n2, hn2⟩ : ∃ n2, n - u = n2 := ⟨_, rfl⟩
      obtain ⟨c2, hc2⟩ : ∃ c2, c - u = c2 := ⟨_, rfl⟩
      simp only [hn2, hc2] at hrun
      have hdl : (S.b.drop u).length = n2 := by rw [List.length_drop, HN.out, hn2]
      have HP : Hid (∀ W, RdIs W s a c S → ByteRow W A1 (S.b.drop u) → RdIs (W.setCell ⟨s, 0, none⟩ (.slice A1 n2 c2)) s A1 c2 ⟨S.b.drop u, S.e⟩) := hid (fun W hW hr => hW.put hdl.symm hr hf2 (by omega) (fun b hb => HBY.out b (List.mem_of_mem_drop hb)) (by omega))
      have HR2 := hid hr2
      clear hA1 hn2 hc2 hr2 hf2 hdl
      go_enter Try.func193, Try.ntmps193
      go_wp2_with (go_at_call 231; (with_reducible refine (pidGet_is HG HN hcap hlen HBY.out hrow).mono ?_); rintro e w2 ⟨rfl, hb2⟩; have hq2 := (Below.refl w2.heap.size w2).alloc (Nat.le_refl _) (.cells #[.int .u16 x, .int .u32 y] 26); have d0 := cell_toB (cell_toB c0 hb2) hq2; have d1 := ((hR1.ext hb2).ext hq2).f0; have hz2 := hb2.size; have hx2 := (((hbx.ext hb2).ext hq2).mutT (mut1 (s := s) (i := 0) (v := .slice A1 n2 c2)) (by exact hsn)); have hy2 := ((BoxP.made w2 26 (.int .u16 x) (.int .u32 y)).mutT (mut1 (s := s) (i := 0) (v := .slice A1 n2 c2)) (fun e => by have e : w2.heap.size = s := e; have := hB.size; omega)); obtain ⟨x0, x1, x2, x3⟩ := id hx2; obtain ⟨y0, y1, y2, y3⟩ := hy2)
      obtain ⟨p0, p1, p2, p3⟩ := hx2.put (.int .u16 x) (.int .u32 y)
      have p4 := World.cell?_setCell_same _ _ (.int .u16 x) x0
      have hbq := (hB.trans (hb2.mono hB.size)).alloc (hB.trans (hb2.mono hB.size)).size (.cells #[.int .u16 x, .int .u32 y] 26)
      have hRp := HP.out _ ((hR1.ext hb2).ext hq2) ((HR2.out.ext hb2).ext hq2)
      have hMt : Mut (fun k => k = s ∨ k = w.heap.size) (w2.alloc (.cells #[.int .u16 x, .int .u32 y] 26)) ((((w2.alloc (.cells #[.int .u16 x, .int .u32 y] 26)).setCell ⟨s, 0, none⟩ (.slice A1 n2 c2)).setCell ⟨w.heap.size, 0, none⟩ (.int .u16 x)).setCell ⟨w.heap.size, 1, none⟩ (.int .u32 y)) := ((mut1 (s := s)).mono (fun k _ e => .inl e)).trans (mut2.mono (fun k _ e => .inr e))
      exact bodyPost_ret (v := .agg #[.int .u16 x, .int .u32 y]) (by simp [results, Try.results193, go_sem, p0, p1]) rfl ⟨rfl, ⟨A1, c2, by rw [HQ.out.2]; rw [HE.out] at hRp; exact hRp.mutT (G := fun k => k = w.heap.size) mut2 (fun k e => by rw [e]; exact hs)⟩, hMt.weak hbq (fun k hk e => by rcases e with e | e; exact e; omega)⟩
    · have HQ : Hid ((x, y) = (0, 0) ∧ S1 = ⟨S.b, e⟩) := hid (by
        have := hx.out
        unfold rPid at this
        rw [if_neg (by simp [HE.out]), if_pos (by rw [HG.out]; exact he2), HG.out] at this
        obtain ⟨h1, h2⟩ := Prod.mk.inj this
        exact ⟨h1.symm, h2.symm⟩)
      obtain ⟨e1, e2⟩ := Prod.mk.inj HQ.out.1
      subst e1; subst e2
      have hF : Hid (failS S e = ⟨S.b, e⟩) := hid (by unfold failS; rw [if_pos HE.out])
      have t1 : decide (e = 0) = false := by simpa using he2
      have t2 : decide ((e : Int) = 0) = false := by simp; omega
      have t3 : ((e : Int) == 0) = false := by simp; omega
      have t4 : ((e : Int) != 0) = true := by simp; omega
      clear hok
      go_enter Try.func193, Try.ntmps193
      go_wp2_with (first
        | (go_at_call 231; (with_reducible refine (pidGet_is HG HN hcap hlen HBY.out hrow).mono ?_); rintro e w2 ⟨rfl, hb2⟩; have hq2 := (Below.refl w2.heap.size w2).alloc (Nat.le_refl _) (.cells #[.int .u16 px, .int .u32 py] 26); have hR2 := hid ((hR1.ext hb2).ext hq2); have hx2 := hid ((hbx.ext hb2).ext hq2))
        | (go_at_call 197; (with_reducible refine (fail_any e hR2.out).mono ?_); rintro e w3 ⟨rfl, hR3, hM3⟩; have hx3 := hid (hx2.out.mutT hM3 (by exact hsn)); obtain ⟨x0, x1, x2, x3⟩ := hx3.out))
      obtain ⟨p0, p1, p2, p3⟩ := hx3.out.put (.int .u16 0) (.int .u32 0)
      have p4 := World.cell?_setCell_same w3 _ (.int .u16 0) x0
      have hbq := (hB.trans (hb2.mono hB.size)).alloc (hB.trans (hb2.mono hB.size)).size (.cells #[.int .u16 px, .int .u32 py] 26)
      have hMt : Mut (fun k => k = s ∨ k = w.heap.size) (w2.alloc (.cells #[.int .u16 px, .int .u32 py] 26)) ((w3.setCell ⟨w.heap.size, 0, none⟩ (.int .u16 0)).setCell ⟨w.heap.size, 1, none⟩ (.int .u32 0)) := (hM3.mono (fun k _ e => .inl e)).trans (mut2.mono (fun k _ e => .inr e))
      exact bodyPost_ret (v := .agg #[.int .u16 0, .int .u32 0]) (by simp [results, Try.results193, go_sem, p0, p1]) rfl ⟨rfl, ⟨a, c, by rw [HQ.out.2, ← hF.out]; exact hR3.mutT (G := fun k => k = w.heap.size) mut2 (fun k e => by rw [e]; exact hs)⟩, hMt.weak hbq (fun k hk e => by rcases e with e | e; exact e; omega)⟩
  · have HQ : Hid ((x, y) = (0, 0) ∧ S1 = S) := hid (by
      have := hx.out
      unfold rPid at this
      rw [if_pos he] at this
      obtain ⟨h1, h2⟩ := Prod.mk.inj this
      exact ⟨h1.symm, h2.symm⟩)
    obtain ⟨e1, e2⟩ := Prod.mk.inj HQ.out.1
    subst e1; subst e2
    have t1 : decide (S.e = 0) = false := by simpa using he
    have t2 : decide ((S.e : Int) = 0) = false := by simp; omega
    have t3 : ((S.e : Int) == 0) = false := by simp; omega
    have t4 : ((S.e : Int) != 0) = true := by simp; omega
    obtain ⟨x0, x1, x2, x3⟩ := id hbx
    obtain ⟨p0, p1, p2, p3⟩ := hbx.put (.int .u16 0) (.int .u32 0)
    have p4 := World.cell?_setCell_same w1 _ (.int .u16 0) x0
    clear he
    go_enter Try.func193, Try.ntmps193
    go_wp2
    exact bodyPost_ret (v := .agg #[.int .u16 0, .int .u32 0]) (by simp [results, Try.results193, go_sem, p0, p1]) rfl ⟨rfl, ⟨a, c, by rw [HQ.out.2]; exact hR1.mutT (G := fun k => k = w.heap.size) mut2 (fun k e => by rw [e]; exact hs)⟩, (mut2 (s := w.heap.size)).weak hB (fun k hk e => by have e : k = w.heap.size := e; omega)⟩
end Go.Proofs.Ytbpfhclcjedkcaa

namespace Go.Proofs.Ytbpfhclcjedkcaa
open Go.RowKit
theorem wholeS_pid {S : RS} (he : S.e = 0) : wholeS S (rPid S).2 = (rPid S).2 := by
  unfold wholeS rPid
  simp only [he, ne_eq, not_true_eq_false, if_false]
  by_cases h1 : (getP S.b).2.2 = 0
  · simp [h1]
  · simp [h1]
theorem rPid_skip {S : RS} (he : S.e ≠ 0) : rPid S = ((0, 0), S) := by unfold rPid; rw [if_pos he]
set_option maxRecDepth 100000 in
set_option maxHeartbeats 1600000 in
theorem pidC_any {s c g0 g2 : Nat} {x y : Int} {a : Option Addr} {S S1 : RS} {w : World} {u0 u1 : Value} (hx : Hid (rPid S = ((x, y), S1))) (hR : RdIs w s a c S) (h0 : w.cell? ⟨g0, 0, none⟩ = some (.pointer (some ⟨s, 0, none⟩))) (h2 : BoxP w g2 u0 u1) (hs : s < g2) :
    Calls Try.prog 198 #[.pointer (some ⟨g0, 0, none⟩), .pointer (some ⟨g2, 0, none⟩)] w fun e w' => e = .returned (.tuple #[]) ∧ (∃ a' c', RdIs w' s a' c' S1) ∧ BoxP w' g2 (.int .u16 x) (.int .u32 y) ∧ Mut (fun k => k = s ∨ k = g2) w w' := by
  have CN := hid (rpid_any hx hR)
  have hgs : ¬ (fun k => k = s) g2 := fun e => by have e : g2 = s := e; omega
  have HG := hid hgs
  clear hgs
  go_enter Try.func198, Try.ntmps198
  go_wp2_with (go_at_call 193; refine CN.out.mono ?_; rintro e w1 ⟨rfl, ⟨a1, c1, hR1⟩, hM1⟩; have hz := h2.mutT hM1 HG.out; obtain ⟨z0, z1, z2, z3⟩ := id hz)
  have hM2 : Mut (fun k => k = s ∨ k = g2) w1 ((w1.setCell ⟨g2, 0, none⟩ (.int .u16 x)).setCell ⟨g2, 1, none⟩ (.int .u32 y)) := mut2.mono (fun k _ e => .inr e)
  exact bodyPost_end (results_none rfl _ _ _) rfl ⟨rfl, ⟨a1, c1, hR1.mutT (G := fun k => k = g2) mut2 (fun k e => by rw [e]; exact hs)⟩, hz.put _ _, (hM1.mono (fun k _ e => .inl e)).trans hM2⟩
set_option maxRecDepth 100000 in
set_option maxHeartbeats 1600000 in
theorem rPid_any {s c : Nat} {a : Option Addr} {S S1 : RS} {w : World} {x y : Int} (hX : Hid (rPid S = ((x, y), S1))) (hR : RdIs w s a c S) :
    Calls Try.prog 126 #[.pointer (some ⟨s, 0, none⟩)] w fun e w' => e = .returned (.agg #[.int .u16 x, .int .u32 y]) ∧ (∃ a' c', RdIs w' s a' c' S1) ∧ Mut (fun k => k = s) w w' := by
  have hmf : ∀ (fn : Fn) (first cap : Array Value) (w : World), (Instr.makeFunc fn first cap).run Try.prog w = .ok (.func fn first cap) w := fun _ _ _ _ => rfl
  have hB : Below w.heap.size w ((w.alloc (.cells #[.pointer (some ⟨s, 0, none⟩)] 167)).alloc (.cells #[.int .u16 0, .int .u32 0] 26)) := ((Below.refl _ _).alloc (Nat.le_refl _) _).alloc (by simp) _
  have hR3 := hR.ext hB
  have g0 : ((w.alloc (.cells #[.pointer (some ⟨s, 0, none⟩)] 167)).alloc (.cells #[.int .u16 0, .int .u32 0] 26)).cell? ⟨w.heap.size, 0, none⟩ = some (.pointer (some ⟨s, 0, none⟩)) := by simp
  have g2 : BoxP ((w.alloc (.cells #[.pointer (some ⟨s, 0, none⟩)] 167)).alloc (.cells #[.int .u16 0, .int .u32 0] 26)) (w.heap.size + 1) (.int .u16 0) (.int .u32 0) := by
    have := BoxP.made (w.alloc (.cells #[.pointer (some ⟨s, 0, none⟩)] 167)) 26 (.int .u16 0) (.int .u32 0)
    simpa using this
  obtain ⟨w3, hw3⟩ : ∃ w3, ((w.alloc (.cells #[.pointer (some ⟨s, 0, none⟩)] 167)).alloc (.cells #[.int .u16 0, .int .u32 0] 26)) = w3 := ⟨_, rfl⟩
  rw [hw3] at hB hR3 g0 g2
  have hs := hR.lt
  have hz3 := g2.lt
  by_cases he : S.e = 0
  · have hW1 : wholeS S S1 = S1 := by have := wholeS_pid he; rw [hX.out] at this; exact this
    have H : Hid (∀ W, Below w3.heap.size w3 W → Calls Try.prog 198 #[.pointer (some ⟨w.heap.size, 0, none⟩), .pointer (some ⟨w.heap.size + 1, 0, none⟩)] W fun e W' => e = .returned (.tuple #[]) ∧ (∃ a' c', RdIs W' s a' c' S1) ∧ BoxP W' (w.heap.size + 1) (.int .u16 x) (.int .u32 y) ∧ Mut (fun k => k = s ∨ k = w.heap.size + 1) W W') := hid fun W h => pidC_any hX (hR3.ext h) (cell_toB g0 h) (g2.ext h) (by omega)
    have CW := hid (wholeP_any (G := fun k => k = s ∨ k = w.heap.size + 1) (Q := fun W => BoxP W (w.heap.size + 1) (.int .u16 x) (.int .u32 y)) hR3 he (.inl rfl) (fun k hk => by rcases hk with rfl | rfl <;> omega) H (fun W W' h hm => h.mutT hm (fun e => by have e : w.heap.size + 1 = s := e; omega)))
    have HW1 := hid hW1
    have HB := hid hB
    clear hW1 g2 he hz3
    subst hw3
    go_enter Try.func126, Try.ntmps126
    go_wp2_with (go_at_call 189; refine CW.out.mono ?_; rintro e w4 ⟨rfl, ⟨a4, c4, hR4⟩, hQ4, hM4⟩; obtain ⟨z0, z1, z2, z3⟩ := id hQ4)
    obtain ⟨p0, p1, p2, p3⟩ := hQ4.put (.int .u16 x) (.int .u32 y)
    have p4 := World.cell?_setCell_same w4 _ (.int .u16 x) z0
    have hM5 := hM4.trans ((mut2 (s := w.heap.size + 1) (x := .int .u16 x) (y := .int .u32 y)).mono (fun k _ e => .inr e))
    exact bodyPost_ret (v := .agg #[.int .u16 x, .int .u32 y]) (by simp [results, Try.results126, go_sem, p0, p1]) rfl ⟨rfl, ⟨a4, c4, by rw [HW1.out] at hR4; exact hR4.mutT (G := fun k => k = w.heap.size + 1) mut2 (fun k e => by rw [e]; omega)⟩, hM5.weak HB.out (fun k hk e => by rcases e with e | e; exact e; omega)⟩
  · have HK := hid (rPid_skip he)
    obtain ⟨e1, e2⟩ := Prod.mk.inj (HK.out.symm.trans hX.out)
    obtain ⟨e3, e4⟩ := Prod.mk.inj e1
    subst e3; subst e4; subst e2
    have CW := hid (wholeP_skip (p0 := .pointer (some ⟨w.heap.size, 0, none⟩)) (p1 := .pointer (some ⟨w.heap.size + 1, 0, none⟩)) hR3 he)
    have HG2 := hid g2
    have HB := hid hB
    clear g2 he hz3 e1
    subst hw3
    go_enter Try.func126, Try.ntmps126
    go_wp2_with (go_at_call 189; refine CW.out.mono ?_; rintro e w4 ⟨rfl, hb4⟩; have hQ4 := HG2.out.ext hb4; obtain ⟨z0, z1, z2, z3⟩ := id hQ4)
    obtain ⟨p0, p1, p2, p3⟩ := hQ4.put (.int .u16 0) (.int .u32 0)
    have p4 := World.cell?_setCell_same w4 _ (.int .u16 0) z0
    have hb5 := HB.out.trans (hb4.mono HB.out.size)
    exact bodyPost_ret (v := .agg #[.int .u16 0, .int .u32 0]) (by simp [results, Try.results126, go_sem, p0, p1]) rfl ⟨rfl, ⟨a, c, (hR3.ext hb4).mutT (G := fun k => k = w.heap.size + 1) mut2 (fun k e => by rw [e]; omega)⟩, (mut2 (s := w.heap.size + 1)).weak hb5 (fun k hk e => by have e : k = w.heap.size + 1 := e; omega)⟩
/-- append at an operation of a region that draws -/
theorem step_appendQ {w : World} {o : Oper} {a : Go.Act} {K : Go.Act → World → Prop} {Q : Exit → Go.Act → World → Prop} {y : Nat → Option Bool} {s x : Operand} {base : Nat} {v : Value} {xs : List Pid} {p : Pid} {ad : Option Addr} {c : Nat} (hw : Region.wanted o y = true) (hown : OwnP w base v xs) (hy : PidRow w ad [p])
    (hlen : xs.length + 1 ≤ 1099511627776) (hbase : base ≤ w.heap.size)
    (ho : o.op = .call { callee := .builtin .append, args := #[s, x], argTypes := #[30, 30] }) (hs : a.eval s = v) (hx : a.eval x = .slice ad 1 c)
    (h : ∀ v' w', OwnP w' base v' (xs ++ [p]) → w.grownBy w' v.ownBlock → K (a.put o.dst v') w') : if Region.wanted o y = true then Oper.wp Try.prog o a w K Q else K (a.put o.dst undef) w := by
  rw [if_pos hw]
  obtain ⟨v', w', hr, h2, h3, h4⟩ := run_appendP hown (c := c) hy (by simpa using hlen) hbase o.type
  exact Lib.wp_append_run w s x 30 30 ho _ _ hs hx v' w' hr (h v' w' h2 h3)
theorem rPidsN_stop {n : Nat} {S : RS} (he : S.e ≠ 0) : rPidsN n S = ([], S) := by
  cases n with
  | zero => rfl
  | succ n => unfold rPidsN; rw [if_pos he]
theorem rPidsN_step {n : Nat} {S S2 : RS} {p : Pid} (he : S.e = 0) (hp : rPid S = (p, S2)) : rPidsN (n + 1) S = (p :: (rPidsN n S2).1, (rPidsN n S2).2) := by
  have h2 : rPidsN (n + 1) S = if S.e ≠ 0 then ([], S) else ((rPid S).1 :: (rPidsN n (rPid S).2).1, (rPidsN n (rPid S).2).2) := rfl
  rw [h2, if_neg (by simp [he]), hp]
end Go.Proofs.Ytbpfhclcjedkcaa

