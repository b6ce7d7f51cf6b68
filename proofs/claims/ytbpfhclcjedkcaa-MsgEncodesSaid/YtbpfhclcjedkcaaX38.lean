/- Parts of the proof: X38. -/
import Derived.Test.YtbpfhclcjedkcaaGMsgEncodes5
namespace Go.Proofs.Ytbpfhclcjedkcaa
open Go.RowKit

/-! ### cmd.Get -/
section
variable {w w' : World} {b : Nat} {u0 u1 u2 u3 u4 u5 u6 u7 u8 u9 : Value}
theorem Box10.lt (h : Box10 w b u0 u1 u2 u3 u4 u5 u6 u7 u8 u9) : b < w.heap.size := World.block_lt_of_cell? w _ h.c0
theorem Box10.mutT {G : Nat → Prop} (h : Box10 w b u0 u1 u2 u3 u4 u5 u6 u7 u8 u9) (hm : Mut G w w') (hG : ¬ G b) : Box10 w' b u0 u1 u2 u3 u4 u5 u6 u7 u8 u9 :=
  ⟨cell_mut h.c0 hm hG, cell_mut h.c1 hm hG, cell_mut h.c2 hm hG, cell_mut h.c3 hm hG, cell_mut h.c4 hm hG, cell_mut h.c5 hm hG, cell_mut h.c6 hm hG, cell_mut h.c7 hm hG, cell_mut h.c8 hm hG, cell_mut h.c9 hm hG, fun j => (World.frozen?_of_block (w := w) (a := ⟨b, j, none⟩) (hm.block b h.lt hG)).trans (h.f j)⟩
theorem Box10.set0 (h : Box10 w b u0 u1 u2 u3 u4 u5 u6 u7 u8 u9) (x : Value) : Box10 (w.setCell ⟨b, 0, none⟩ x) b x u1 u2 u3 u4 u5 u6 u7 u8 u9 :=
  ⟨World.cell?_setCell_same _ _ _ h.c0, by rw [off2t (by omega)]; exact h.c1, by rw [off2t (by omega)]; exact h.c2, by rw [off2t (by omega)]; exact h.c3, by rw [off2t (by omega)]; exact h.c4, by rw [off2t (by omega)]; exact h.c5, by rw [off2t (by omega)]; exact h.c6, by rw [off2t (by omega)]; exact h.c7, by rw [off2t (by omega)]; exact h.c8, by rw [off2t (by omega)]; exact h.c9, fun j => by simp [h.f j]⟩
theorem Box10.set1 (h : Box10 w b u0 u1 u2 u3 u4 u5 u6 u7 u8 u9) (x : Value) : Box10 (w.setCell ⟨b, 1, none⟩ x) b u0 x u2 u3 u4 u5 u6 u7 u8 u9 :=
  ⟨by rw [off2t (by omega)]; exact h.c0, World.cell?_setCell_same _ _ _ h.c1, by rw [off2t (by omega)]; exact h.c2, by rw [off2t (by omega)]; exact h.c3, by rw [off2t (by omega)]; exact h.c4, by rw [off2t (by omega)]; exact h.c5, by rw [off2t (by omega)]; exact h.c6, by rw [off2t (by omega)]; exact h.c7, by rw [off2t (by omega)]; exact h.c8, by rw [off2t (by omega)]; exact h.c9, fun j => by simp [h.f j]⟩
theorem Box10.set2 (h : Box10 w b u0 u1 u2 u3 u4 u5 u6 u7 u8 u9) (x : Value) : Box10 (w.setCell ⟨b, 2, none⟩ x) b u0 u1 x u3 u4 u5 u6 u7 u8 u9 :=
  ⟨by rw [off2t (by omega)]; exact h.c0, by rw [off2t (by omega)]; exact h.c1, World.cell?_setCell_same _ _ _ h.c2, by rw [off2t (by omega)]; exact h.c3, by rw [off2t (by omega)]; exact h.c4, by rw [off2t (by omega)]; exact h.c5, by rw [off2t (by omega)]; exact h.c6, by rw [off2t (by omega)]; exact h.c7, by rw [off2t (by omega)]; exact h.c8, by rw [off2t (by omega)]; exact h.c9, fun j => by simp [h.f j]⟩
theorem Box10.set3 (h : Box10 w b u0 u1 u2 u3 u4 u5 u6 u7 u8 u9) (x : Value) : Box10 (w.setCell ⟨b, 3, none⟩ x) b u0 u1 u2 x u4 u5 u6 u7 u8 u9 :=
  ⟨by rw [off2t (by omega)]; exact h.c0, by rw [off2t (by omega)]; exact h.c1, by rw [off2t (by omega)]; exact h.c2, World.cell?_setCell_same _ _ _ h.c3, by rw [off2t (by omega)]; exact h.c4, by rw [off2t (by omega)]; exact h.c5, by rw [off2t (by omega)]; exact h.c6, by rw [off2t (by omega)]; exact h.c7, by rw [off2t (by omega)]; exact h.c8, by rw [off2t (by omega)]; exact h.c9, fun j => by simp [h.f j]⟩
theorem Box10.set4 (h : Box10 w b u0 u1 u2 u3 u4 u5 u6 u7 u8 u9) (x : Value) : Box10 (w.setCell ⟨b, 4, none⟩ x) b u0 u1 u2 u3 x u5 u6 u7 u8 u9 :=
  ⟨by rw [off2t (by omega)]; exact h.c0, by rw [off2t (by omega)]; exact h.c1, by rw [off2t (by omega)]; exact h.c2, by rw [off2t (by omega)]; exact h.c3, World.cell?_setCell_same _ _ _ h.c4, by rw [off2t (by omega)]; exact h.c5, by rw [off2t (by omega)]; exact h.c6, by rw [off2t (by omega)]; exact h.c7, by rw [off2t (by omega)]; exact h.c8, by rw [off2t (by omega)]; exact h.c9, fun j => by simp [h.f j]⟩
theorem Box10.set5 (h : Box10 w b u0 u1 u2 u3 u4 u5 u6 u7 u8 u9) (x : Value) : Box10 (w.setCell ⟨b, 5, none⟩ x) b u0 u1 u2 u3 u4 x u6 u7 u8 u9 :=
  ⟨by rw [off2t (by omega)]; exact h.c0, by rw [off2t (by omega)]; exact h.c1, by rw [off2t (by omega)]; exact h.c2, by rw [off2t (by omega)]; exact h.c3, by rw [off2t (by omega)]; exact h.c4, World.cell?_setCell_same _ _ _ h.c5, by rw [off2t (by omega)]; exact h.c6, by rw [off2t (by omega)]; exact h.c7, by rw [off2t (by omega)]; exact h.c8, by rw [off2t (by omega)]; exact h.c9, fun j => by simp [h.f j]⟩
theorem Box10.set6 (h : Box10 w b u0 u1 u2 u3 u4 u5 u6 u7 u8 u9) (x : Value) : Box10 (w.setCell ⟨b, 6, none⟩ x) b u0 u1 u2 u3 u4 u5 x u7 u8 u9 :=
  ⟨by rw [off2t (by omega)]; exact h.c0, by rw [off2t (by omega)]; exact h.c1, by rw [off2t (by omega)]; exact h.c2, by rw [off2t (by omega)]; exact h.c3, by rw [off2t (by omega)]; exact h.c4, by rw [off2t (by omega)]; exact h.c5, World.cell?_setCell_same _ _ _ h.c6, by rw [off2t (by omega)]; exact h.c7, by rw [off2t (by omega)]; exact h.c8, by rw [off2t (by omega)]; exact h.c9, fun j => by simp [h.f j]⟩
theorem Box10.set7 (h : Box10 w b u0 u1 u2 u3 u4 u5 u6 u7 u8 u9) (x : Value) : Box10 (w.setCell ⟨b, 7, none⟩ x) b u0 u1 u2 u3 u4 u5 u6 x u8 u9 :=
  ⟨by rw [off2t (by omega)]; exact h.c0, by rw [off2t (by omega)]; exact h.c1, by rw [off2t (by omega)]; exact h.c2, by rw [off2t (by omega)]; exact h.c3, by rw [off2t (by omega)]; exact h.c4, by rw [off2t (by omega)]; exact h.c5, by rw [off2t (by omega)]; exact h.c6, World.cell?_setCell_same _ _ _ h.c7, by rw [off2t (by omega)]; exact h.c8, by rw [off2t (by omega)]; exact h.c9, fun j => by simp [h.f j]⟩
theorem Box10.set8 (h : Box10 w b u0 u1 u2 u3 u4 u5 u6 u7 u8 u9) (x : Value) : Box10 (w.setCell ⟨b, 8, none⟩ x) b u0 u1 u2 u3 u4 u5 u6 u7 x u9 :=
  ⟨by rw [off2t (by omega)]; exact h.c0, by rw [off2t (by omega)]; exact h.c1, by rw [off2t (by omega)]; exact h.c2, by rw [off2t (by omega)]; exact h.c3, by rw [off2t (by omega)]; exact h.c4, by rw [off2t (by omega)]; exact h.c5, by rw [off2t (by omega)]; exact h.c6, by rw [off2t (by omega)]; exact h.c7, World.cell?_setCell_same _ _ _ h.c8, by rw [off2t (by omega)]; exact h.c9, fun j => by simp [h.f j]⟩
theorem Box10.set9 (h : Box10 w b u0 u1 u2 u3 u4 u5 u6 u7 u8 u9) (x : Value) : Box10 (w.setCell ⟨b, 9, none⟩ x) b u0 u1 u2 u3 u4 u5 u6 u7 u8 x :=
  ⟨by rw [off2t (by omega)]; exact h.c0, by rw [off2t (by omega)]; exact h.c1, by rw [off2t (by omega)]; exact h.c2, by rw [off2t (by omega)]; exact h.c3, by rw [off2t (by omega)]; exact h.c4, by rw [off2t (by omega)]; exact h.c5, by rw [off2t (by omega)]; exact h.c6, by rw [off2t (by omega)]; exact h.c7, by rw [off2t (by omega)]; exact h.c8, World.cell?_setCell_same _ _ _ h.c9, fun j => by simp [h.f j]⟩
theorem Box10.put (h : Box10 w b u0 u1 u2 u3 u4 u5 u6 u7 u8 u9) (v0 v1 v2 v3 v4 v5 v6 v7 v8 v9 : Value) : Box10 ((((((((((w.setCell ⟨b, 0, none⟩ v0).setCell ⟨b, 1, none⟩ v1).setCell ⟨b, 2, none⟩ v2).setCell ⟨b, 3, none⟩ v3).setCell ⟨b, 4, none⟩ v4).setCell ⟨b, 5, none⟩ v5).setCell ⟨b, 6, none⟩ v6).setCell ⟨b, 7, none⟩ v7).setCell ⟨b, 8, none⟩ v8).setCell ⟨b, 9, none⟩ v9) b v0 v1 v2 v3 v4 v5 v6 v7 v8 v9 :=
  ((((((((((h.set0 v0).set1 v1).set2 v2).set3 v3).set4 v4).set5 v5).set6 v6).set7 v7).set8 v8).set9 v9)
end
end Go.Proofs.Ytbpfhclcjedkcaa

