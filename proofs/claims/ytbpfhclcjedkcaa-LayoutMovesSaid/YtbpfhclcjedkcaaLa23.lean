/- Parts of the proof: X104. -/
import Derived.Test.YtbpfhclcjedkcaaLa20
import Derived.Test.YtbpfhclcjedkcaaLa6
namespace Go.Proofs.Ytbpfhclcjedkcaa
open Go.RowKit
/-! ### layer 17: the document's example -/
def l3 : List Pid := [(1, 1), (2, 1), (3, 1)]
def v3 : View := ⟨1, l3, [[(1, 1), (2, 1)], [(3, 1)]], l3⟩
theorem first3 : firstV l3 ⟨1, 2, 0⟩ = (v3, 0) := by kernel_rfl
structure Box3 (W : World) (s : Nat) : Prop where
  a0 : W.cell? ⟨s, 0, none⟩ = some (.int .u16 1)
  a1 : W.cell? ⟨s, 1, none⟩ = some (.int .u32 1)
  b0 : W.cell? ⟨s + 1, 0, none⟩ = some (.int .u16 2)
  b1 : W.cell? ⟨s + 1, 1, none⟩ = some (.int .u32 1)
  c0 : W.cell? ⟨s + 1 + 1, 0, none⟩ = some (.int .u16 3)
  c1 : W.cell? ⟨s + 1 + 1, 1, none⟩ = some (.int .u32 1)
theorem Box3.ext {W W' : World} {s : Nat} (h : Box3 W s) (hb : Below W.heap.size W W') : Box3 W' s :=
  ⟨cell_to h.a0 hb, cell_to h.a1 hb, cell_to h.b0 hb, cell_to h.b1 hb, cell_to h.c0 hb, cell_to h.c1 hb⟩
theorem Box3.made (w : World) : Box3 (((w.alloc (.cells #[.int .u16 1, .int .u32 1] 26)).alloc (.cells #[.int .u16 2, .int .u32 1] 26)).alloc (.cells #[.int .u16 3, .int .u32 1] 26)) w.heap.size := by
  have h0 : ∀ o o' : Obj, Below (w.alloc o).heap.size (w.alloc o) ((w.alloc o).alloc o') := fun o o' => (Below.refl _ _).alloc (Nat.le_refl _) _
  have k0 : (w.alloc (.cells #[.int .u16 1, .int .u32 1] 26)).cell? ⟨w.heap.size, 0, none⟩ = some (.int .u16 1) := by simp
  have k1 : (w.alloc (.cells #[.int .u16 1, .int .u32 1] 26)).cell? ⟨w.heap.size, 1, none⟩ = some (.int .u32 1) := by simp
  have m0 : ((w.alloc (.cells #[.int .u16 1, .int .u32 1] 26)).alloc (.cells #[.int .u16 2, .int .u32 1] 26)).cell? ⟨w.heap.size + 1, 0, none⟩ = some (.int .u16 2) := by simp
  have m1 : ((w.alloc (.cells #[.int .u16 1, .int .u32 1] 26)).alloc (.cells #[.int .u16 2, .int .u32 1] 26)).cell? ⟨w.heap.size + 1, 1, none⟩ = some (.int .u32 1) := by simp
  have z : ((w.alloc (.cells #[.int .u16 1, .int .u32 1] 26)).alloc (.cells #[.int .u16 2, .int .u32 1] 26)).heap.size = w.heap.size + 1 + 1 := by simp
  have c : ∀ W : World, (W.alloc (.cells #[.int .u16 3, .int .u32 1] 26)).cell? ⟨W.heap.size, 0, none⟩ = some (.int .u16 3) ∧ (W.alloc (.cells #[.int .u16 3, .int .u32 1] 26)).cell? ⟨W.heap.size, 1, none⟩ = some (.int .u32 1) := fun W => ⟨by simp, by simp⟩
  have cc := c ((w.alloc (.cells #[.int .u16 1, .int .u32 1] 26)).alloc (.cells #[.int .u16 2, .int .u32 1] 26))
  rw [z] at cc
  have e : ∀ W : World, ∀ o, Below W.heap.size W (W.alloc o) := fun W o => (Below.refl _ _).alloc (Nat.le_refl _) _
  exact ⟨cell_to (cell_to k0 (e _ _)) (e _ _), cell_to (cell_to k1 (e _ _)) (e _ _), cell_to m0 (e _ _), cell_to m1 (e _ _), cc.1, cc.2⟩
theorem row3 (W : World) : PidRow (W.alloc (.cells #[.int .u16 1, .int .u32 1, .int .u16 2, .int .u32 1, .int .u16 3, .int .u32 1] 26)) (some ⟨W.heap.size, 0, none⟩) l3 :=
  .inr ⟨_, 0, rfl, by simp, fun i hi => by
    have : i = 0 ∨ i = 1 ∨ i = 2 := by simp [l3] at hi; omega
    rcases this with rfl | rfl | rfl <;> exact ⟨by simp [l3], by simp [l3]⟩⟩
theorem row2 (W : World) : PidRow (W.alloc (.cells #[.int .u16 1, .int .u32 1, .int .u16 2, .int .u32 1] 26)) (some ⟨W.heap.size, 0, none⟩) [(1, 1), (2, 1)] :=
  .inr ⟨_, 0, rfl, by simp, fun i hi => by
    have : i = 0 ∨ i = 1 := by simp at hi; omega
    rcases this with rfl | rfl <;> exact ⟨by simp, by simp⟩⟩
set_option maxRecDepth 100000 in
set_option maxHeartbeats 3200000 in
theorem awakeL_any (w : World) : Calls Try.prog 45 #[] w fun e w' => e = .returned (.bool true) ∧ Below w.heap.size w w' := by
  have hal : ∀ (W : World) (o : Obj), Below W.heap.size W (W.alloc o) := fun W o => (Below.refl _ _).alloc (Nat.le_refl _) _
  obtain ⟨W3, hW3⟩ : ∃ W3, (((w.alloc (.cells #[.int .u16 1, .int .u32 1] 26)).alloc (.cells #[.int .u16 2, .int .u32 1] 26)).alloc (.cells #[.int .u16 3, .int .u32 1] 26)) = W3 := ⟨_, rfl⟩
  have hz3 : W3.heap.size = w.heap.size + 1 + 1 + 1 := by rw [← hW3]; simp
  have hb3 : Below w.heap.size w W3 := by rw [← hW3]; exact ((hal w _).trans ((hal _ _).mono (by simp))).trans ((hal _ _).mono (by simp; omega))
  have hx3 : Box3 W3 w.heap.size := by rw [← hW3]; exact Box3.made w
  have hr3 := row3 W3
  rw [hz3] at hr3
  have C1 := hid (first_any (c := 3) (n := 3) (hid first3) (hid rfl) (by omega) hr3 (by intro p hp; unfold ok; simp [l3] at hp; rcases hp with rfl | rfl | rfl <;> decide) ⟨by decide, by decide⟩)
  have HB4 := hid (hb3.trans ((hal W3 (.cells #[.int .u16 1, .int .u32 1, .int .u16 2, .int .u32 1, .int .u16 3, .int .u32 1] 26)).mono hb3.size))
  have HX4 := hid (hx3.ext (hal W3 (.cells #[.int .u16 1, .int .u32 1, .int .u16 2, .int .u32 1, .int .u16 3, .int .u32 1] 26)))
  obtain ⟨i0, i1, j0, j1, k0, k1⟩ := id hx3
  clear hr3 hx3 hb3
  go_enter Try.func45, Try.ntmps45
  go_wp2_with fail
  (with_reducible refine C1.out.mono ?_)
  rintro e w5 hres
  clear i0 i1 j0 j1 k0 k1 hz3 hW3
  unfold BuildRes at hres
  obtain ⟨qm, ql, qd, km, kl, kd, rfl, hst, hm⟩ := hres
  have hb5 : Below (W3.alloc (.cells #[.int .u16 1, .int .u32 1, .int .u16 2, .int .u32 1, .int .u16 3, .int .u32 1] 26)).heap.size (W3.alloc (.cells #[.int .u16 1, .int .u32 1, .int .u16 2, .int .u32 1, .int .u16 3, .int .u32 1] 26)) w5 := hm.below (Nat.le_refl _) (fun k e => e.elim)
  have hb05 := HB4.out.trans (hb5.mono HB4.out.size)
  have hx5 := HX4.out.ext hb5
  have hv5 := hst.r
  obtain ⟨X5, hX5⟩ : ∃ X5, w5.alloc (.cells #[.int .u64 v3.id, .slice qm v3.ms.length km, .slice ql v3.ls.length kl, .slice qd v3.ds.length kd] 33) = X5 := ⟨_, rfl⟩
  have e5 : Below w5.heap.size w5 X5 := by rw [← hX5]; exact hal _ _
  have s5 : X5.heap.size = w5.heap.size + 1 := by rw [← hX5]; simp
  have y5 : ViewBox X5 w5.heap.size v3 qm ql qd km kl kd := by rw [← hX5]; exact ViewBox.made w5
  have x5 := hx5.ext e5
  obtain ⟨X6, hX6⟩ : ∃ X6, X5.alloc (.cells #[.int .u16 1, .int .u32 1, .int .u16 2, .int .u32 1, .int .u16 3, .int .u32 1] 26) = X6 := ⟨_, rfl⟩
  have e6 : Below X5.heap.size X5 X6 := by rw [← hX6]; exact hal _ _
  have s6 : X6.heap.size = w5.heap.size + 1 + 1 := by rw [← hX6]; simp [s5]
  have x6 := x5.ext e6
  have r6 : PidRow X6 (some ⟨w5.heap.size + 1, 0, none⟩) l3 := by rw [← hX6, ← s5]; exact row3 X5
  obtain ⟨X7, hX7⟩ : ∃ X7, X6.alloc (.cells #[.int .u16 1, .int .u32 1, .int .u16 2, .int .u32 1] 26) = X7 := ⟨_, rfl⟩
  have e7 : Below X6.heap.size X6 X7 := by rw [← hX7]; exact hal _ _
  have s7 : X7.heap.size = w5.heap.size + 1 + 1 + 1 := by rw [← hX7]; simp [s6]
  have x7 := x6.ext e7
  have r7 : PidRow X7 (some ⟨w5.heap.size + 1 + 1, 0, none⟩) [(1, 1), (2, 1)] := by rw [← hX7, ← s6]; exact row2 X6
  obtain ⟨X8, hX8⟩ : ∃ X8, X7.alloc (.cells #[.int .u16 3, .int .u32 1] 26) = X8 := ⟨_, rfl⟩
  have e8 : Below X7.heap.size X7 X8 := by rw [← hX8]; exact hal _ _
  have s8 : X8.heap.size = w5.heap.size + 1 + 1 + 1 + 1 := by rw [← hX8]; simp [s7]
  have x8 := x7.ext e8
  have r8 : PidRow X8 (some ⟨w5.heap.size + 1 + 1 + 1, 0, none⟩) [(3, 1)] := by rw [← hX8, ← s7]; exact PidRow.one X7 3 1
  obtain ⟨X9, hX9⟩ : ∃ X9, X8.alloc (.cells #[.slice (some ⟨w5.heap.size + 1 + 1, 0, none⟩) 2 2, .slice (some ⟨w5.heap.size + 1 + 1 + 1, 0, none⟩) 1 1] 30) = X9 := ⟨_, rfl⟩
  have e9 : Below X8.heap.size X8 X9 := by rw [← hX9]; exact hal _ _
  have s9 : X9.heap.size = w5.heap.size + 1 + 1 + 1 + 1 + 1 := by rw [← hX9]; simp [s8]
  have x9 := x8.ext e9
  have n0 : X9.cell? ⟨w5.heap.size + 1 + 1 + 1 + 1, 0, none⟩ = some (.slice (some ⟨w5.heap.size + 1 + 1, 0, none⟩) 2 2) := by rw [← hX9, ← s8]; simp
  have n1 : X9.cell? ⟨w5.heap.size + 1 + 1 + 1 + 1, 1, none⟩ = some (.slice (some ⟨w5.heap.size + 1 + 1 + 1, 0, none⟩) 1 1) := by rw [← hX9, ← s8]; simp
  obtain ⟨X10, hX10⟩ : ∃ X10, X9.alloc (.cells #[.int .u16 1, .int .u32 1, .int .u16 2, .int .u32 1, .int .u16 3, .int .u32 1] 26) = X10 := ⟨_, rfl⟩
  have e10 : Below X9.heap.size X9 X10 := by rw [← hX10]; exact hal _ _
  have r10 : PidRow X10 (some ⟨w5.heap.size + 1 + 1 + 1 + 1 + 1, 0, none⟩) l3 := by rw [← hX10, ← s9]; exact row3 X9
  have p6 := (((r6.ext e7).ext e8).ext e9).ext e10
  have p7 := ((r7.ext e8).ext e9).ext e10
  have p8 := (r8.ext e9).ext e10
  have hvl : ViewR X10 (some ⟨w5.heap.size + 1, 0, none⟩) (some ⟨w5.heap.size + 1 + 1 + 1 + 1, 0, none⟩) (some ⟨w5.heap.size + 1 + 1 + 1 + 1 + 1, 0, none⟩) v3 :=
    ⟨p6, .inr ⟨_, 0, rfl, by have := e10.size; omega, fun i hi => by
      have : i = 0 ∨ i = 1 := by simp [v3] at hi; omega
      rcases this with rfl | rfl
      · exact ⟨_, 2, by rw [Nat.zero_add]; exact cell_to n0 e10, p7⟩
      · exact ⟨_, 1, by rw [Nat.zero_add]; exact cell_to n1 e10, p8⟩⟩, r10, by decide, by decide, by decide, by decide⟩
  have hva := (((((hv5.ext e5).ext e6).ext e7).ext e8).ext e9).ext e10
  have hb10 : Below w.heap.size w X10 := ((((((hb05.trans (e5.mono hb05.size)).trans (e6.mono (by have := hb05.size; omega))).trans (e7.mono (by have := hb05.size; omega))).trans (e8.mono (by have := hb05.size; omega))).trans (e9.mono (by have := hb05.size; omega))).trans (e10.mono (by have := hb05.size; omega)))
  have CS : Calls Try.prog 20 #[.agg #[.int .u64 v3.id, .slice qm v3.ms.length km, .slice ql v3.ls.length kl, .slice qd v3.ds.length kd], .agg #[.int .u64 1, .slice (some ⟨w5.heap.size + 1, 0, none⟩) 3 3, .slice (some ⟨w5.heap.size + 1 + 1 + 1 + 1, 0, none⟩) 2 2, .slice (some ⟨w5.heap.size + 1 + 1 + 1 + 1 + 1, 0, none⟩) 3 3]] X10 fun e w' => e = .returned (.bool true) ∧ Below X10.heap.size X10 w' := by
    have h := refSame_any v3 v3 qm ql qd (some ⟨w5.heap.size + 1, 0, none⟩) (some ⟨w5.heap.size + 1 + 1 + 1 + 1, 0, none⟩) (some ⟨w5.heap.size + 1 + 1 + 1 + 1 + 1, 0, none⟩) km kl kd 3 2 3 X10 hva hvl
    rw [sameB_refl] at h
    exact h
  have CS := hid CS
  have HB10 := hid hb10
  obtain ⟨a0, a1, b0, b1, c0, c1⟩ := x5
  obtain ⟨a0', a1', b0', b1', c0', c1'⟩ := x6
  obtain ⟨-, -, -, -, c02, c12⟩ := x7
  obtain ⟨a09, a19, b09, b19, c09, c19⟩ := x9
  obtain ⟨y0, y1, y2, y3⟩ := y5
  clear hb5 hb05 hx5 hv5 hst hm e5 e6 e7 e8 e9 e10 r6 r7 r8 r10 p6 p7 p8 hvl hva hb10 n0 n1 x8 C1 HX4 HB4
  go_wp2_with fail
  (with_reducible refine CS.out.mono ?_)
  rintro e w11 ⟨rfl, hb11⟩
  have HB11 := hid (HB10.out.trans (hb11.mono HB10.out.size))
  clear hb11 CS hX5 hX6 hX7 hX8 hX9 hX10 a0 a1 b0 b1 c0 c1 a0' a1' b0' b1' c0' c1' c02 c12 a09 a19 b09 b19 c09 c19 y0 y1 y2 y3
  go_wp2
  go_ret
  exact ⟨rfl, HB11.out⟩
end Go.Proofs.Ytbpfhclcjedkcaa

