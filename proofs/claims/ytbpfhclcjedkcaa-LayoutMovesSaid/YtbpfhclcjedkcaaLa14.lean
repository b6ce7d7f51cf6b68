/- Parts of the proof: X32. -/
import Derived.Test.YtbpfhclcjedkcaaLa13
namespace Go.Proofs.Ytbpfhclcjedkcaa
open Go.RowKit

/-! ### lists of lists, each in a block of the call's own; boxes of four cells -/
theorem infoPs : (Try.prog.info? 30).map (fun i => (i.zero, i.size, i.bytes)) = some (some (.slice none 0 0), 1, 24) := by kernel_rfl
theorem OwnP.grownN {w w' : World} {base : Nat} {v : Value} {xs : List Pid} {row : Option Nat} (h : OwnP w base v xs) (hg : w.grownBy w' row) (hne : ∀ g, v.ownBlock = some g → row ≠ some g) : OwnP w' base v xs := by
  refine ⟨h.1, ?_⟩
  rcases h.2 with hn | ⟨g, cap, cur, rfl, hbb, hgg, rest⟩
  · exact .inl hn
  · exact .inr ⟨g, cap, cur, rfl, hbb, (hg.block g (Array.getElem?_eq_some_iff.1 hgg).1 (fun e => hne g rfl e.symm)).trans hgg, rest⟩
theorem OwnP.mutN {G : Nat → Prop} {w w' : World} {base : Nat} {v : Value} {xs : List Pid} (h : OwnP w base v xs) (hm : Mut G w w') (hG : ∀ g, v.ownBlock = some g → ¬ G g) : OwnP w' base v xs := by
  refine ⟨h.1, ?_⟩
  rcases h.2 with hn | ⟨g, cap, cur, rfl, hbb, hgg, rest⟩
  · exact .inl hn
  · exact .inr ⟨g, cap, cur, rfl, hbb, (hm.block g (Array.getElem?_eq_some_iff.1 hgg).1 (hG g rfl)).trans hgg, rest⟩
theorem OwnP.blk {w : World} {base : Nat} {v : Value} {xs : List Pid} (h : OwnP w base v xs) {g : Nat} (hg : v.ownBlock = some g) : base ≤ g ∧ g < w.heap.size := World.ownsRow.lt h g hg
def OwnLL (w : World) (base : Nat) (v : Value) (Ls : List (List Pid)) : Prop :=
  ∃ cells : List Value, w.ownsRow base 30 1 v Ls.length cells ∧ ∀ i (h : i < Ls.length), ∃ vi, cells[i]? = some vi ∧ OwnP w base vi Ls[i] ∧ ∀ g, vi.ownBlock = some g → v.ownBlock ≠ some g
theorem OwnLL.nil (w : World) (base : Nat) : OwnLL w base (.slice none 0 0) [] := ⟨[], World.ownsRow_nil _ _ _ _, fun i h => by simp at h⟩
theorem OwnLL.ext {w w' : World} {base : Nat} {v : Value} {Ls : List (List Pid)} (h : OwnLL w base v Ls) (hb : Below w.heap.size w w') : OwnLL w' base v Ls := by
  obtain ⟨cells, ho, he⟩ := h
  refine ⟨cells, ⟨ho.1, ?_⟩, fun i hi => ?_⟩
  · rcases ho.2 with hn | ⟨g, cap, cur, rfl, hbb, hgg, rest⟩
    · exact .inl hn
    · exact .inr ⟨g, cap, cur, rfl, hbb, (hb.block g (Array.getElem?_eq_some_iff.1 hgg).1).trans hgg, rest⟩
  · obtain ⟨vi, h1, h2, h3⟩ := he i hi
    exact ⟨vi, h1, h2.ext hb, h3⟩
theorem OwnLL.mutT {G : Nat → Prop} {w w' : World} {base : Nat} {v : Value} {Ls : List (List Pid)} (h : OwnLL w base v Ls) (hm : Mut G w w') (hG : ∀ k, G k → k < base) : OwnLL w' base v Ls := by
  obtain ⟨cells, ho, he⟩ := h
  refine ⟨cells, ⟨ho.1, ?_⟩, fun i hi => ?_⟩
  · rcases ho.2 with hn | ⟨g, cap, cur, rfl, hbb, hgg, rest⟩
    · exact .inl hn
    · exact .inr ⟨g, cap, cur, rfl, hbb, (hm.block g (Array.getElem?_eq_some_iff.1 hgg).1 (fun hg => by have := hG g hg; omega)).trans hgg, rest⟩
  · obtain ⟨vi, h1, h2, h3⟩ := he i hi
    exact ⟨vi, h1, h2.mutT hm hG, h3⟩
theorem OwnLL.mono {w : World} {b b' : Nat} {v : Value} {Ls : List (List Pid)} (h : OwnLL w b v Ls) (hb : b' ≤ b) : OwnLL w b' v Ls := by
  obtain ⟨cells, ho, he⟩ := h
  refine ⟨cells, ⟨ho.1, ?_⟩, fun i hi => ?_⟩
  · rcases ho.2 with hn | ⟨g, cap, cur, rfl, hbb, rest⟩
    · exact .inl hn
    · exact .inr ⟨g, cap, cur, rfl, by omega, rest⟩
  · obtain ⟨vi, h1, h2, h3⟩ := he i hi
    exact ⟨vi, h1, h2.mono2 hb, h3⟩
theorem OwnLL.row {w : World} {base : Nat} {v : Value} {Ls : List (List Pid)} (h : OwnLL w base v Ls) : ∃ a c, v = .slice a Ls.length c ∧ LeafRow w a Ls := by
  obtain ⟨cells, ho, he⟩ := h
  have hcells := fun g => World.ownsRow.cells (g := g) ho
  rcases ho.2 with ⟨rfl, hn⟩ | ⟨g, cap, cur, rfl, hb, hg, hnc, hcm, hcs, htake⟩
  · exact ⟨none, 0, by rw [hn], .inl (List.length_eq_zero_iff.1 hn)⟩
  · refine ⟨_, cap, rfl, .inr ⟨g, 0, rfl, (Array.getElem?_eq_some_iff.1 hg).1, fun i hi => ?_⟩⟩
    obtain ⟨vi, h1, h2, _⟩ := he i hi
    have := hcells g rfl i _ h1
    rw [addr_add] at this
    obtain ⟨ai, ci, e, hr, _⟩ := h2.row
    exact ⟨ai, ci, by rw [this, e], hr⟩
theorem OwnLL.blk {w : World} {base : Nat} {v : Value} {Ls : List (List Pid)} (h : OwnLL w base v Ls) {g : Nat} (hg : v.ownBlock = some g) : base ≤ g ∧ g < w.heap.size := by
  obtain ⟨cells, ho, _⟩ := h
  exact World.ownsRow.lt ho g hg
theorem off2t {w : World} {b q j : Nat} {x : Value} (hc : j ≠ q) : (w.setCell ⟨b, q, none⟩ x).cell? ⟨b, j, none⟩ = w.cell? ⟨b, j, none⟩ :=
  World.cell?_setCell_other _ _ _ _ (by intro e; injection e with e1 e2; exact hc e2.symm)
/-- a block of four cells that may be written -/
structure BoxV (w : World) (b : Nat) (v0 v1 v2 v3 : Value) : Prop where
  c0 : w.cell? ⟨b, 0, none⟩ = some v0
  c1 : w.cell? ⟨b, 1, none⟩ = some v1
  c2 : w.cell? ⟨b, 2, none⟩ = some v2
  c3 : w.cell? ⟨b, 3, none⟩ = some v3
  f0 : w.frozen? ⟨b, 0, none⟩ = false
  f1 : w.frozen? ⟨b, 1, none⟩ = false
  f2 : w.frozen? ⟨b, 2, none⟩ = false
  f3 : w.frozen? ⟨b, 3, none⟩ = false
section
variable {w w' : World} {b : Nat} {v0 v1 v2 v3 : Value}
theorem BoxV.lt (h : BoxV w b v0 v1 v2 v3) : b < w.heap.size := World.block_lt_of_cell? w _ h.c0
theorem BoxV.ext (h : BoxV w b v0 v1 v2 v3) (hb : Below w.heap.size w w') : BoxV w' b v0 v1 v2 v3 :=
  ⟨cell_toB h.c0 hb, cell_toB h.c1 hb, cell_toB h.c2 hb, cell_toB h.c3 hb, (hb.frozen (by exact h.lt)).trans h.f0, (hb.frozen (by exact h.lt)).trans h.f1, (hb.frozen (by exact h.lt)).trans h.f2, (hb.frozen (by exact h.lt)).trans h.f3⟩
theorem BoxV.made (w : World) (t : TypeId) (v0 v1 v2 v3 : Value) : BoxV (w.alloc (.cells #[v0, v1, v2, v3] t)) w.heap.size v0 v1 v2 v3 := ⟨by simp, by simp, by simp, by simp, by simp, by simp, by simp, by simp⟩
theorem BoxV.mutT {G : Nat → Prop} (h : BoxV w b v0 v1 v2 v3) (hm : Mut G w w') (hG : ¬ G b) : BoxV w' b v0 v1 v2 v3 := by
  have g : ∀ j, w'.frozen? ⟨b, j, none⟩ = w.frozen? ⟨b, j, none⟩ := fun j => World.frozen?_of_block (w := w) (a := ⟨b, j, none⟩) (hm.block b h.lt hG)
  exact ⟨cell_mut h.c0 hm hG, cell_mut h.c1 hm hG, cell_mut h.c2 hm hG, cell_mut h.c3 hm hG, (g 0).trans h.f0, (g 1).trans h.f1, (g 2).trans h.f2, (g 3).trans h.f3⟩
theorem BoxV.put (h : BoxV w b v0 v1 v2 v3) (u0 u1 u2 u3 : Value) : BoxV ((((w.setCell ⟨b, 0, none⟩ u0).setCell ⟨b, 1, none⟩ u1).setCell ⟨b, 2, none⟩ u2).setCell ⟨b, 3, none⟩ u3) b u0 u1 u2 u3 := by
  obtain ⟨c0, c1, c2, c3, f0, f1, f2, f3⟩ := h
  refine ⟨?_, ?_, ?_, ?_, by simp [f0], by simp [f1], by simp [f2], by simp [f3]⟩
  · rw [off2t (by omega), off2t (by omega), off2t (by omega)]; exact World.cell?_setCell_same _ _ _ c0
  · rw [off2t (by omega), off2t (by omega)]; exact World.cell?_setCell_same _ _ _ (by rw [off2t (by omega)]; exact c1)
  · rw [off2t (by omega)]; exact World.cell?_setCell_same _ _ _ (by rw [off2t (by omega), off2t (by omega)]; exact c2)
  · exact World.cell?_setCell_same _ _ _ (by rw [off2t (by omega), off2t (by omega), off2t (by omega)]; exact c3)
theorem mutV (w : World) (b : Nat) (u0 u1 u2 u3 : Value) : Mut (fun k => k = b) w ((((w.setCell ⟨b, 0, none⟩ u0).setCell ⟨b, 1, none⟩ u1).setCell ⟨b, 2, none⟩ u2).setCell ⟨b, 3, none⟩ u3) :=
  ((mut1.trans mut1).trans mut1).trans mut1
end
/-! ### lengths of what is read -/
end Go.Proofs.Ytbpfhclcjedkcaa

