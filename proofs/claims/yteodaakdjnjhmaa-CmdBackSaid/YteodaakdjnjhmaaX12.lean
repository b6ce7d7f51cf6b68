import Derived.Test.YteodaakdjnjhmaaX11
namespace Go.Proofs.Yteodaakdjnjhmaa
open Go.RowKit
theorem RdIs.mutT {G : Nat → Prop} {w w' : World} {s c : Nat} {a : Option Addr} {S : RS} (h : RdIs w s a c S) (hm : Mut G w w') (hG : ∀ k, G k → s < k) : RdIs w' s a c S := by
  have hb := hm.block s h.lt (fun hs => by have := hG s hs; omega)
  refine ⟨(World.cell?_of_block (w := w) (a := ⟨s, 0, none⟩) hb).trans h.c0, (World.cell?_of_block (w := w) (a := ⟨s, 1, none⟩) hb).trans h.c1, (World.frozen?_of_block (w := w) (a := ⟨s, 0, none⟩) hb).trans h.f0, (World.frozen?_of_block (w := w) (a := ⟨s, 1, none⟩) hb).trans h.f1, ?_, h.far, h.cap, h.byt, h.len⟩
  exact h.row.mutT hm (fun b off e hne hg => by have := h.far b off e hne; have := hG b hg; omega)
theorem cell_mut {G : Nat → Prop} {w w' : World} {p : Addr} {v : Value} (h : w.cell? p = some v) (hm : Mut G w w') (hG : ¬ G p.block) : w'.cell? p = some v :=
  (hm.cell (World.block_lt_of_cell? w _ h) hG).trans h
/-- the deferred part of whole, where something is wrong -/
theorem wholeD_bad {s g h c c' : Nat} {a a' : Option Addr} {n : Nat} {S : RS} {w : World} (u : FrameMode) (hR : RdIs w s a' c' S) (hg : w.cell? ⟨g, 0, none⟩ = some (.pointer (some ⟨s, 0, none⟩))) (hh : w.cell? ⟨h, 0, none⟩ = some (.slice a n c)) (he : S.e ≠ 0) :
    CallsD Try.prog 161 #[.pointer (some ⟨g, 0, none⟩), .pointer (some ⟨h, 0, none⟩)] u w fun e u' w' => u' = u ∧ (e = .returned (.tuple #[]) ∧ w' = w.setCell ⟨s, 0, none⟩ (.slice a n c)) := by
  have c1 := hR.c1
  have c0 := hR.c0
  have f0 := hR.f0
  have t1 : decide (S.e = 0) = false := by simpa using he
  have t2 : decide ((S.e : Int) = 0) = false := by simp; omega
  have t3 : ((S.e : Int) == 0) = false := by simp; omega
  have t4 : ((S.e : Int) != 0) = true := by simp; omega
  clear he
  go_enter_d Try.func161, Try.ntmps161
  go_wp2
  go_end0
  exact ⟨rfl, rfl⟩
theorem wholeD_ok {s g h c' : Nat} {a' : Option Addr} {S : RS} {w : World} (u : FrameMode) (hR : RdIs w s a' c' S) (hg : w.cell? ⟨g, 0, none⟩ = some (.pointer (some ⟨s, 0, none⟩))) (he : S.e = 0) :
    CallsD Try.prog 161 #[.pointer (some ⟨g, 0, none⟩), .pointer (some ⟨h, 0, none⟩)] u w fun e u' w' => u' = u ∧ (e = .returned (.tuple #[]) ∧ w' = w) := by
  have c1 := hR.c1
  rw [he] at c1
  clear he
  go_enter_d Try.func161, Try.ntmps161
  go_wp2
  go_end0
  exact ⟨rfl, rfl⟩
/-- what counts of some reading -/
def wholeS (S S1 : RS) : RS := if S1.e = 0 then S1 else ⟨S.b, S1.e⟩

set_option maxRecDepth 100000 in
set_option maxHeartbeats 1600000 in
theorem wholeN_skip {s c : Nat} {a : Option Addr} {S : RS} {w : World} {p0 p1 p2 : Value} (hR : RdIs w s a c S) (he : S.e ≠ 0) :
    Calls Try.prog 139 #[.pointer (some ⟨s, 0, none⟩), .func (.func 140) #[] #[p0, p1, p2]] w fun e w' => e = .returned (.tuple #[]) ∧ Below w.heap.size w w' := by
  have hmf : ∀ (fn : Fn) (first cap : Array Value) (w : World), (Instr.makeFunc fn first cap).run Try.prog w = .ok (.func fn first cap) w := fun _ _ _ _ => rfl
  have hB : Below w.heap.size w (w.alloc (.cells #[.pointer (some ⟨s, 0, none⟩)] 54)) := (Below.refl _ _).alloc (Nat.le_refl _) _
  have hR1 := hR.ext hB
  obtain ⟨e0, he0⟩ : ∃ e0, S.e = e0 := ⟨_, rfl⟩
  rw [he0] at he
  have t1 : decide (e0 = 0) = false := by simpa using he
  have t2 : decide ((e0 : Int) = 0) = false := by simp; omega
  have t3 : ((e0 : Int) == 0) = false := by simp; omega
  have t4 : ((e0 : Int) != 0) = true := by simp; omega
  have HE := hid he0
  clear he he0
  go_enter_defers Try.func139, Try.ntmps139
  go_wp2_with (go_at_call 35; (with_reducible refine (rErr_is hR1 HE).mono ?_); rintro e w' ⟨rfl, rfl⟩)
  exact ⟨_, results_none rfl _ _ _, rfl, hB⟩
set_option maxRecDepth 100000 in
set_option maxHeartbeats 3200000 in
theorem wholeN_any {s c : Nat} {a : Option Addr} {S S1 : RS} {w : World} {p0 p1 p2 : Value} {G : Nat → Prop} {Q : World → Prop} (hR : RdIs w s a c S) (he : S.e = 0) (hGs : G s) (hGl : ∀ k, G k → s ≤ k ∧ k < w.heap.size)
    (H : Hid (∀ W, Below w.heap.size w W → Calls Try.prog 140 #[p0, p1, p2] W fun e W' => e = .returned (.tuple #[]) ∧ (∃ a' c', RdIs W' s a' c' S1) ∧ Q W' ∧ Mut G W W'))
    (hQ : ∀ W W', Q W → Mut (fun k => k = s) W W' → Q W') :
    Calls Try.prog 139 #[.pointer (some ⟨s, 0, none⟩), .func (.func 140) #[] #[p0, p1, p2]] w fun e w' => e = .returned (.tuple #[]) ∧ (∃ a' c', RdIs w' s a' c' (wholeS S S1)) ∧ Q w' ∧ Mut G w w' := by
  have hmf : ∀ (fn : Fn) (first cap : Array Value) (w : World), (Instr.makeFunc fn first cap).run Try.prog w = .ok (.func fn first cap) w := fun _ _ _ _ => rfl
  have hB : Below w.heap.size w (w.alloc (.cells #[.pointer (some ⟨s, 0, none⟩)] 54)) := (Below.refl _ _).alloc (Nat.le_refl _) _
  have hR1 := hR.ext hB
  obtain ⟨n, hn⟩ : ∃ n, S.b.length = n := ⟨_, rfl⟩
  have c0 := hR1.c0
  rw [hn] at c0
  have HE := hid he
  have HN := hid hn
  have HQ := hid hQ
  have HGL := hid hGl
  have HGS := hid hGs
  have hB2 : Below w.heap.size w ((w.alloc (.cells #[.pointer (some ⟨s, 0, none⟩)] 54)).alloc (.cells #[.slice a n c] 40)) := hB.alloc (by simp) _
  have hg2 : ((w.alloc (.cells #[.pointer (some ⟨s, 0, none⟩)] 54)).alloc (.cells #[.slice a n c] 40)).cell? ⟨w.heap.size, 0, none⟩ = some (.pointer (some ⟨s, 0, none⟩)) := by simp
  have hh2 : ((w.alloc (.cells #[.pointer (some ⟨s, 0, none⟩)] 54)).alloc (.cells #[.slice a n c] 40)).cell? ⟨w.heap.size + 1, 0, none⟩ = some (.slice a n c) := by simp
  have HRW := hid (hR.ext hB2)
  have CK := hid (H.out _ hB2)
  clear he hn hQ hGl hGs
  go_enter_defers Try.func139, Try.ntmps139
  go_wp2_with (first
    | (go_at_call 35; (with_reducible refine (rErr_is hR1 HE).mono ?_); rintro e w' ⟨rfl, rfl⟩)
    | (go_at_call 140; refine CK.out.mono ?_; rintro e w3 ⟨rfl, ⟨a3, c3, hR3⟩, hQ3, hM3⟩))
  have hg3 := cell_mut hg2 hM3 (fun h => by have := (HGL.out _ h).2; simp at this)
  have hh3 := cell_mut hh2 hM3 (fun h => by have := (HGL.out _ h).2; simp at this; omega)
  refine leaves_cons (f := 161) (args := #[.pointer (some ⟨w.heap.size, 0, none⟩), .pointer (some ⟨w.heap.size + 1, 0, none⟩)]) (by simp) (by simp [go_sem]) ?_
  by_cases he1 : S1.e = 0
  · refine (wholeD_ok (h := w.heap.size + 1) .returning hR3 hg3 he1).mono ?_
    rintro e u' w'' ⟨rfl, rfl, rfl⟩
    exact ⟨_, results_none rfl _ _ _, rfl, ⟨a3, c3, by unfold wholeS; rw [if_pos he1]; exact hR3⟩, hQ3, (Mut.of_below hB2).trans hM3⟩
  · refine (wholeD_bad .returning hR3 hg3 hh3 he1).mono ?_
    rintro e u' w'' ⟨rfl, rfl, rfl⟩
    have hrow3 : ByteRow w3 a S.b := HRW.out.row.mutT hM3 (fun b off e hne hg => by have := HRW.out.far b off e hne; have := (HGL.out b hg).1; omega)
    have hRp := hR3.put HN.out.symm hrow3 HRW.out.far HRW.out.cap HRW.out.byt HRW.out.len
    exact ⟨_, results_none rfl _ _ _, rfl, ⟨a, c, by unfold wholeS; rw [if_neg he1]; exact hRp⟩, HQ.out _ _ hQ3 mut1, ((Mut.of_below hB2).trans hM3).trans (mut1.mono (fun k _ e => by rw [e]; exact HGS.out))⟩

set_option maxRecDepth 100000 in
set_option maxHeartbeats 1600000 in
theorem wholeP_skip {s c : Nat} {a : Option Addr} {S : RS} {w : World} {p0 p1 : Value} (hR : RdIs w s a c S) (he : S.e ≠ 0) :
    Calls Try.prog 139 #[.pointer (some ⟨s, 0, none⟩), .func (.func 147) #[] #[p0, p1]] w fun e w' => e = .returned (.tuple #[]) ∧ Below w.heap.size w w' := by
  have hmf : ∀ (fn : Fn) (first cap : Array Value) (w : World), (Instr.makeFunc fn first cap).run Try.prog w = .ok (.func fn first cap) w := fun _ _ _ _ => rfl
  have hB : Below w.heap.size w (w.alloc (.cells #[.pointer (some ⟨s, 0, none⟩)] 54)) := (Below.refl _ _).alloc (Nat.le_refl _) _
  have hR1 := hR.ext hB
  obtain ⟨e0, he0⟩ : ∃ e0, S.e = e0 := ⟨_, rfl⟩
  rw [he0] at he
  have t1 : decide (e0 = 0) = false := by simpa using he
  have t2 : decide ((e0 : Int) = 0) = false := by simp; omega
  have t3 : ((e0 : Int) == 0) = false := by simp; omega
  have t4 : ((e0 : Int) != 0) = true := by simp; omega
  have HE := hid he0
  clear he he0
  go_enter_defers Try.func139, Try.ntmps139
  go_wp2_with (go_at_call 35; (with_reducible refine (rErr_is hR1 HE).mono ?_); rintro e w' ⟨rfl, rfl⟩)
  exact ⟨_, results_none rfl _ _ _, rfl, hB⟩
set_option maxRecDepth 100000 in
set_option maxHeartbeats 3200000 in
theorem wholeP_any {s c : Nat} {a : Option Addr} {S S1 : RS} {w : World} {p0 p1 : Value} {G : Nat → Prop} {Q : World → Prop} (hR : RdIs w s a c S) (he : S.e = 0) (hGs : G s) (hGl : ∀ k, G k → s ≤ k ∧ k < w.heap.size)
    (H : Hid (∀ W, Below w.heap.size w W → Calls Try.prog 147 #[p0, p1] W fun e W' => e = .returned (.tuple #[]) ∧ (∃ a' c', RdIs W' s a' c' S1) ∧ Q W' ∧ Mut G W W'))
    (hQ : ∀ W W', Q W → Mut (fun k => k = s) W W' → Q W') :
    Calls Try.prog 139 #[.pointer (some ⟨s, 0, none⟩), .func (.func 147) #[] #[p0, p1]] w fun e w' => e = .returned (.tuple #[]) ∧ (∃ a' c', RdIs w' s a' c' (wholeS S S1)) ∧ Q w' ∧ Mut G w w' := by
  have hmf : ∀ (fn : Fn) (first cap : Array Value) (w : World), (Instr.makeFunc fn first cap).run Try.prog w = .ok (.func fn first cap) w := fun _ _ _ _ => rfl
  have hB : Below w.heap.size w (w.alloc (.cells #[.pointer (some ⟨s, 0, none⟩)] 54)) := (Below.refl _ _).alloc (Nat.le_refl _) _
  have hR1 := hR.ext hB
  obtain ⟨n, hn⟩ : ∃ n, S.b.length = n := ⟨_, rfl⟩
  have c0 := hR1.c0
  rw [hn] at c0
  have HE := hid he
  have HN := hid hn
  have HQ := hid hQ
  have HGL := hid hGl
  have HGS := hid hGs
  have hB2 : Below w.heap.size w ((w.alloc (.cells #[.pointer (some ⟨s, 0, none⟩)] 54)).alloc (.cells #[.slice a n c] 40)) := hB.alloc (by simp) _
  have hg2 : ((w.alloc (.cells #[.pointer (some ⟨s, 0, none⟩)] 54)).alloc (.cells #[.slice a n c] 40)).cell? ⟨w.heap.size, 0, none⟩ = some (.pointer (some ⟨s, 0, none⟩)) := by simp
  have hh2 : ((w.alloc (.cells #[.pointer (some ⟨s, 0, none⟩)] 54)).alloc (.cells #[.slice a n c] 40)).cell? ⟨w.heap.size + 1, 0, none⟩ = some (.slice a n c) := by simp
  have HRW := hid (hR.ext hB2)
  have CK := hid (H.out _ hB2)
  clear he hn hQ hGl hGs
  go_enter_defers Try.func139, Try.ntmps139
  go_wp2_with (first
    | (go_at_call 35; (with_reducible refine (rErr_is hR1 HE).mono ?_); rintro e w' ⟨rfl, rfl⟩)
    | (go_at_call 147; refine CK.out.mono ?_; rintro e w3 ⟨rfl, ⟨a3, c3, hR3⟩, hQ3, hM3⟩))
  have hg3 := cell_mut hg2 hM3 (fun h => by have := (HGL.out _ h).2; simp at this)
  have hh3 := cell_mut hh2 hM3 (fun h => by have := (HGL.out _ h).2; simp at this; omega)
  refine leaves_cons (f := 161) (args := #[.pointer (some ⟨w.heap.size, 0, none⟩), .pointer (some ⟨w.heap.size + 1, 0, none⟩)]) (by simp) (by simp [go_sem]) ?_
  by_cases he1 : S1.e = 0
  · refine (wholeD_ok (h := w.heap.size + 1) .returning hR3 hg3 he1).mono ?_
    rintro e u' w'' ⟨rfl, rfl, rfl⟩
    exact ⟨_, results_none rfl _ _ _, rfl, ⟨a3, c3, by unfold wholeS; rw [if_pos he1]; exact hR3⟩, hQ3, (Mut.of_below hB2).trans hM3⟩
  · refine (wholeD_bad .returning hR3 hg3 hh3 he1).mono ?_
    rintro e u' w'' ⟨rfl, rfl, rfl⟩
    have hrow3 : ByteRow w3 a S.b := HRW.out.row.mutT hM3 (fun b off e hne hg => by have := HRW.out.far b off e hne; have := (HGL.out b hg).1; omega)
    have hRp := hR3.put HN.out.symm hrow3 HRW.out.far HRW.out.cap HRW.out.byt HRW.out.len
    exact ⟨_, results_none rfl _ _ _, rfl, ⟨a, c, by unfold wholeS; rw [if_neg he1]; exact hRp⟩, HQ.out _ _ hQ3 mut1, ((Mut.of_below hB2).trans hM3).trans (mut1.mono (fun k _ e => by rw [e]; exact HGS.out))⟩

set_option maxRecDepth 100000 in
set_option maxHeartbeats 1600000 in
theorem wholeB_skip {s c : Nat} {a : Option Addr} {S : RS} {w : World} {p0 p1 p2 : Value} (hR : RdIs w s a c S) (he : S.e ≠ 0) :
    Calls Try.prog 139 #[.pointer (some ⟨s, 0, none⟩), .func (.func 148) #[] #[p0, p1, p2]] w fun e w' => e = .returned (.tuple #[]) ∧ Below w.heap.size w w' := by
  have hmf : ∀ (fn : Fn) (first cap : Array Value) (w : World), (Instr.makeFunc fn first cap).run Try.prog w = .ok (.func fn first cap) w := fun _ _ _ _ => rfl
  have hB : Below w.heap.size w (w.alloc (.cells #[.pointer (some ⟨s, 0, none⟩)] 54)) := (Below.refl _ _).alloc (Nat.le_refl _) _
  have hR1 := hR.ext hB
  obtain ⟨e0, he0⟩ : ∃ e0, S.e = e0 := ⟨_, rfl⟩
  rw [he0] at he
  have t1 : decide (e0 = 0) = false := by simpa using he
  have t2 : decide ((e0 : Int) = 0) = false := by simp; omega
  have t3 : ((e0 : Int) == 0) = false := by simp; omega
  have t4 : ((e0 : Int) != 0) = true := by simp; omega
  have HE := hid he0
  clear he he0
  go_enter_defers Try.func139, Try.ntmps139
  go_wp2_with (go_at_call 35; (with_reducible refine (rErr_is hR1 HE).mono ?_); rintro e w' ⟨rfl, rfl⟩)
  exact ⟨_, results_none rfl _ _ _, rfl, hB⟩
set_option maxRecDepth 100000 in
set_option maxHeartbeats 3200000 in
theorem wholeB_any {s c : Nat} {a : Option Addr} {S S1 : RS} {w : World} {p0 p1 p2 : Value} {G : Nat → Prop} {Q : World → Prop} (hR : RdIs w s a c S) (he : S.e = 0) (hGs : G s) (hGl : ∀ k, G k → s ≤ k ∧ k < w.heap.size)
    (H : Hid (∀ W, Below w.heap.size w W → Calls Try.prog 148 #[p0, p1, p2] W fun e W' => e = .returned (.tuple #[]) ∧ (∃ a' c', RdIs W' s a' c' S1) ∧ Q W' ∧ Mut G W W'))
    (hQ : ∀ W W', Q W → Mut (fun k => k = s) W W' → Q W') :
    Calls Try.prog 139 #[.pointer (some ⟨s, 0, none⟩), .func (.func 148) #[] #[p0, p1, p2]] w fun e w' => e = .returned (.tuple #[]) ∧ (∃ a' c', RdIs w' s a' c' (wholeS S S1)) ∧ Q w' ∧ Mut G w w' := by
  have hmf : ∀ (fn : Fn) (first cap : Array Value) (w : World), (Instr.makeFunc fn first cap).run Try.prog w = .ok (.func fn first cap) w := fun _ _ _ _ => rfl
  have hB : Below w.heap.size w (w.alloc (.cells #[.pointer (some ⟨s, 0, none⟩)] 54)) := (Below.refl _ _).alloc (Nat.le_refl _) _
  have hR1 := hR.ext hB
  obtain ⟨n, hn⟩ : ∃ n, S.b.length = n := ⟨_, rfl⟩
  have c0 := hR1.c0
  rw [hn] at c0
  have HE := hid he
  have HN := hid hn
  have HQ := hid hQ
  have HGL := hid hGl
  have HGS := hid hGs
  have hB2 : Below w.heap.size w ((w.alloc (.cells #[.pointer (some ⟨s, 0, none⟩)] 54)).alloc (.cells #[.slice a n c] 40)) := hB.alloc (by simp) _
  have hg2 : ((w.alloc (.cells #[.pointer (some ⟨s, 0, none⟩)] 54)).alloc (.cells #[.slice a n c] 40)).cell? ⟨w.heap.size, 0, none⟩ = some (.pointer (some ⟨s, 0, none⟩)) := by simp
  have hh2 : ((w.alloc (.cells #[.pointer (some ⟨s, 0, none⟩)] 54)).alloc (.cells #[.slice a n c] 40)).cell? ⟨w.heap.size + 1, 0, none⟩ = some (.slice a n c) := by simp
  have HRW := hid (hR.ext hB2)
  have CK := hid (H.out _ hB2)
  clear he hn hQ hGl hGs
  go_enter_defers Try.func139, Try.ntmps139
  go_wp2_with (first
    | (go_at_call 35; (with_reducible refine (rErr_is hR1 HE).mono ?_); rintro e w' ⟨rfl, rfl⟩)
    | (go_at_call 148; refine CK.out.mono ?_; rintro e w3 ⟨rfl, ⟨a3, c3, hR3⟩, hQ3, hM3⟩))
  have hg3 := cell_mut hg2 hM3 (fun h => by have := (HGL.out _ h).2; simp at this)
  have hh3 := cell_mut hh2 hM3 (fun h => by have := (HGL.out _ h).2; simp at this; omega)
  refine leaves_cons (f := 161) (args := #[.pointer (some ⟨w.heap.size, 0, none⟩), .pointer (some ⟨w.heap.size + 1, 0, none⟩)]) (by simp) (by simp [go_sem]) ?_
  by_cases he1 : S1.e = 0
  · refine (wholeD_ok (h := w.heap.size + 1) .returning hR3 hg3 he1).mono ?_
    rintro e u' w'' ⟨rfl, rfl, rfl⟩
    exact ⟨_, results_none rfl _ _ _, rfl, ⟨a3, c3, by unfold wholeS; rw [if_pos he1]; exact hR3⟩, hQ3, (Mut.of_below hB2).trans hM3⟩
  · refine (wholeD_bad .returning hR3 hg3 hh3 he1).mono ?_
    rintro e u' w'' ⟨rfl, rfl, rfl⟩
    have hrow3 : ByteRow w3 a S.b := HRW.out.row.mutT hM3 (fun b off e hne hg => by have := HRW.out.far b off e hne; have := (HGL.out b hg).1; omega)
    have hRp := hR3.put HN.out.symm hrow3 HRW.out.far HRW.out.cap HRW.out.byt HRW.out.len
    exact ⟨_, results_none rfl _ _ _, rfl, ⟨a, c, by unfold wholeS; rw [if_neg he1]; exact hRp⟩, HQ.out _ _ hQ3 mut1, ((Mut.of_below hB2).trans hM3).trans (mut1.mono (fun k _ e => by rw [e]; exact HGS.out))⟩

set_option maxRecDepth 100000 in
set_option maxHeartbeats 1600000 in
theorem wholeL_skip {s c : Nat} {a : Option Addr} {S : RS} {w : World} {p0 p1 p2 : Value} (hR : RdIs w s a c S) (he : S.e ≠ 0) :
    Calls Try.prog 139 #[.pointer (some ⟨s, 0, none⟩), .func (.func 142) #[] #[p0, p1, p2]] w fun e w' => e = .returned (.tuple #[]) ∧ Below w.heap.size w w' := by
  have hmf : ∀ (fn : Fn) (first cap : Array Value) (w : World), (Instr.makeFunc fn first cap).run Try.prog w = .ok (.func fn first cap) w := fun _ _ _ _ => rfl
  have hB : Below w.heap.size w (w.alloc (.cells #[.pointer (some ⟨s, 0, none⟩)] 54)) := (Below.refl _ _).alloc (Nat.le_refl _) _
  have hR1 := hR.ext hB
  obtain ⟨e0, he0⟩ : ∃ e0, S.e = e0 := ⟨_, rfl⟩
  rw [he0] at he
  have t1 : decide (e0 = 0) = false := by simpa using he
  have t2 : decide ((e0 : Int) = 0) = false := by simp; omega
  have t3 : ((e0 : Int) == 0) = false := by simp; omega
  have t4 : ((e0 : Int) != 0) = true := by simp; omega
  have HE := hid he0
  clear he he0
  go_enter_defers Try.func139, Try.ntmps139
  go_wp2_with (go_at_call 35; (with_reducible refine (rErr_is hR1 HE).mono ?_); rintro e w' ⟨rfl, rfl⟩)
  exact ⟨_, results_none rfl _ _ _, rfl, hB⟩
set_option maxRecDepth 100000 in
set_option maxHeartbeats 3200000 in
theorem wholeL_any {s c : Nat} {a : Option Addr} {S S1 : RS} {w : World} {p0 p1 p2 : Value} {G : Nat → Prop} {Q : World → Prop} (hR : RdIs w s a c S) (he : S.e = 0) (hGs : G s) (hGl : ∀ k, G k → s ≤ k ∧ k < w.heap.size)
    (H : Hid (∀ W, Below w.heap.size w W → Calls Try.prog 142 #[p0, p1, p2] W fun e W' => e = .returned (.tuple #[]) ∧ (∃ a' c', RdIs W' s a' c' S1) ∧ Q W' ∧ Mut G W W'))
    (hQ : ∀ W W', Q W → Mut (fun k => k = s) W W' → Q W') :
    Calls Try.prog 139 #[.pointer (some ⟨s, 0, none⟩), .func (.func 142) #[] #[p0, p1, p2]] w fun e w' => e = .returned (.tuple #[]) ∧ (∃ a' c', RdIs w' s a' c' (wholeS S S1)) ∧ Q w' ∧ Mut G w w' := by
  have hmf : ∀ (fn : Fn) (first cap : Array Value) (w : World), (Instr.makeFunc fn first cap).run Try.prog w = .ok (.func fn first cap) w := fun _ _ _ _ => rfl
  have hB : Below w.heap.size w (w.alloc (.cells #[.pointer (some ⟨s, 0, none⟩)] 54)) := (Below.refl _ _).alloc (Nat.le_refl _) _
  have hR1 := hR.ext hB
  obtain ⟨n, hn⟩ : ∃ n, S.b.length = n := ⟨_, rfl⟩
  have c0 := hR1.c0
  rw [hn] at c0
  have HE := hid he
  have HN := hid hn
  have HQ := hid hQ
  have HGL := hid hGl
  have HGS := hid hGs
  have hB2 : Below w.heap.size w ((w.alloc (.cells #[.pointer (some ⟨s, 0, none⟩)] 54)).alloc (.cells #[.slice a n c] 40)) := hB.alloc (by simp) _
  have hg2 : ((w.alloc (.cells #[.pointer (some ⟨s, 0, none⟩)] 54)).alloc (.cells #[.slice a n c] 40)).cell? ⟨w.heap.size, 0, none⟩ = some (.pointer (some ⟨s, 0, none⟩)) := by simp
  have hh2 : ((w.alloc (.cells #[.pointer (some ⟨s, 0, none⟩)] 54)).alloc (.cells #[.slice a n c] 40)).cell? ⟨w.heap.size + 1, 0, none⟩ = some (.slice a n c) := by simp
  have HRW := hid (hR.ext hB2)
  have CK := hid (H.out _ hB2)
  clear he hn hQ hGl hGs
  go_enter_defers Try.func139, Try.ntmps139
  go_wp2_with (first
    | (go_at_call 35; (with_reducible refine (rErr_is hR1 HE).mono ?_); rintro e w' ⟨rfl, rfl⟩)
    | (go_at_call 142; refine CK.out.mono ?_; rintro e w3 ⟨rfl, ⟨a3, c3, hR3⟩, hQ3, hM3⟩))
  have hg3 := cell_mut hg2 hM3 (fun h => by have := (HGL.out _ h).2; simp at this)
  have hh3 := cell_mut hh2 hM3 (fun h => by have := (HGL.out _ h).2; simp at this; omega)
  refine leaves_cons (f := 161) (args := #[.pointer (some ⟨w.heap.size, 0, none⟩), .pointer (some ⟨w.heap.size + 1, 0, none⟩)]) (by simp) (by simp [go_sem]) ?_
  by_cases he1 : S1.e = 0
  · refine (wholeD_ok (h := w.heap.size + 1) .returning hR3 hg3 he1).mono ?_
    rintro e u' w'' ⟨rfl, rfl, rfl⟩
    exact ⟨_, results_none rfl _ _ _, rfl, ⟨a3, c3, by unfold wholeS; rw [if_pos he1]; exact hR3⟩, hQ3, (Mut.of_below hB2).trans hM3⟩
  · refine (wholeD_bad .returning hR3 hg3 hh3 he1).mono ?_
    rintro e u' w'' ⟨rfl, rfl, rfl⟩
    have hrow3 : ByteRow w3 a S.b := HRW.out.row.mutT hM3 (fun b off e hne hg => by have := HRW.out.far b off e hne; have := (HGL.out b hg).1; omega)
    have hRp := hR3.put HN.out.symm hrow3 HRW.out.far HRW.out.cap HRW.out.byt HRW.out.len
    exact ⟨_, results_none rfl _ _ _, rfl, ⟨a, c, by unfold wholeS; rw [if_neg he1]; exact hRp⟩, HQ.out _ _ hQ3 mut1, ((Mut.of_below hB2).trans hM3).trans (mut1.mono (fun k _ e => by rw [e]; exact HGS.out))⟩
end Go.Proofs.Yteodaakdjnjhmaa
