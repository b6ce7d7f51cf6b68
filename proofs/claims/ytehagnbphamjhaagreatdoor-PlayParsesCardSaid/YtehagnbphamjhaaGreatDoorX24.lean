/- Parts of the proof: X24. -/
import Derived.Test.YtehagnbphamjhaaGreatDoorGPlayBack9
namespace Go.Proofs.YtehagnbphamjhaaGreatDoor
open Go.RowKit

/-! ### cmd.Check -/
theorem CmdR.zero (w : World) (k : Int) : CmdR w none none none none ⟨k, (0, 0), 0, 0, [], zeroV⟩ :=
  ⟨.inl rfl, by simp, by simp, ⟨.inl rfl, .inl rfl, .inl rfl, by simp [zeroV], by simp [zeroV], by simp [zeroV], by simp [zeroV]⟩⟩
theorem CmdR.some {w : World} {da am al ad : Option Addr} {c : CmdD} (h : CmdR w da am al ad c) (k : Int) : CmdR w da none none none ⟨k, c.fr, c.num, c.vw, c.data, zeroV⟩ :=
  ⟨h.dr, h.dl, h.db, ⟨.inl rfl, .inl rfl, .inl rfl, by simp [zeroV], by simp [zeroV], by simp [zeroV], by simp [zeroV]⟩⟩
theorem CmdR.view {w : World} {da am al ad : Option Addr} {c : CmdD} (h : CmdR w da am al ad c) (k : Int) : CmdR w none am al ad ⟨k, (0, 0), 0, 0, [], c.v⟩ :=
  ⟨.inl rfl, by simp, by simp, h.v⟩
theorem below_set {B : Nat} {w W : World} {b o : Nat} {u : Value} (h : Below B w W) (hb : B ≤ b) : Below B w (W.setCell ⟨b, o, none⟩ u) := h.setCell (p := ⟨b, o, none⟩) hb u
structure Box10 (w : World) (b : Nat) (u0 u1 u2 u3 u4 u5 u6 u7 u8 u9 : Value) : Prop where
  c0 : w.cell? ⟨b, 0, none⟩ = some u0
  c1 : w.cell? ⟨b, 1, none⟩ = some u1
  c2 : w.cell? ⟨b, 2, none⟩ = some u2
  c3 : w.cell? ⟨b, 3, none⟩ = some u3
  c4 : w.cell? ⟨b, 4, none⟩ = some u4
  c5 : w.cell? ⟨b, 5, none⟩ = some u5
  c6 : w.cell? ⟨b, 6, none⟩ = some u6
  c7 : w.cell? ⟨b, 7, none⟩ = some u7
  c8 : w.cell? ⟨b, 8, none⟩ = some u8
  c9 : w.cell? ⟨b, 9, none⟩ = some u9
  f : ∀ j, w.frozen? ⟨b, j, none⟩ = false
theorem Box10.ext {w w' : World} {b : Nat} {u0 u1 u2 u3 u4 u5 u6 u7 u8 u9 : Value} (h : Box10 w b u0 u1 u2 u3 u4 u5 u6 u7 u8 u9) {B : Nat} (hb : Below B w w') (hB : b < B) : Box10 w' b u0 u1 u2 u3 u4 u5 u6 u7 u8 u9 := by
  have g : ∀ k, w'.cell? ⟨b, k, none⟩ = w.cell? ⟨b, k, none⟩ := fun k => hb.cell (by exact hB)
  exact ⟨(g 0).trans h.c0, (g 1).trans h.c1, (g 2).trans h.c2, (g 3).trans h.c3, (g 4).trans h.c4, (g 5).trans h.c5, (g 6).trans h.c6, (g 7).trans h.c7, (g 8).trans h.c8, (g 9).trans h.c9, fun j => (hb.frozen (by exact hB)).trans (h.f j)⟩
theorem Box10.made (w : World) (u0 u1 u2 u3 u4 u5 u6 u7 u8 u9 : Value) (t : TypeId) {b : Nat} (h : b = w.heap.size) : Box10 (w.alloc (.cells #[u0, u1, u2, u3, u4, u5, u6, u7, u8, u9] t)) b u0 u1 u2 u3 u4 u5 u6 u7 u8 u9 := by
  subst h
  exact ⟨by simp, by simp, by simp, by simp, by simp, by simp, by simp, by simp, by simp, by simp, fun j => World.frozen?_alloc_at _ _ _ _ rfl⟩
section
variable {A : CmdD} {da am al ad : Option Addr} {dc cm cl cd : Nat} {w : World} {r : Bool} {k : Int} (hA : CmdR w da am al ad A)
include hA
end

end Go.Proofs.YtehagnbphamjhaaGreatDoor

