/- Parts of the proof: X34 X35. -/
import Derived.Deep.DeepCutAuto
import Derived.Test.YtbpfhclcjedkcaaX33
namespace Go.Proofs.Ytbpfhclcjedkcaa
open Go.RowKit

/-! ### slices.Clone -/
theorem PidRow.nilA {w : World} {xs : List Pid} (h : PidRow w none xs) : xs = [] := by
  rcases h with h | ⟨b, off, h, _⟩
  · exact h
  · cases h
end Go.Proofs.Ytbpfhclcjedkcaa

namespace Go.Proofs.Ytbpfhclcjedkcaa
open Go.RowKit

/-! ### view.Copy -/
theorem OwnP.put4 {w : World} {base b : Nat} {v : Value} {xs : List Pid} {u0 u1 u2 u3 : Value} (h : OwnP w base v xs) (hb : ∀ g, v.ownBlock = some g → g ≠ b) : OwnP ((((w.setCell ⟨b, 0, none⟩ u0).setCell ⟨b, 1, none⟩ u1).setCell ⟨b, 2, none⟩ u2).setCell ⟨b, 3, none⟩ u3) base v xs :=
  h.mutN (mutV w b u0 u1 u2 u3) (fun g hg e => hb g hg e)
theorem below_put4 {B : Nat} {w W : World} {b : Nat} {u0 u1 u2 u3 : Value} (h : Below B w W) (hb : B ≤ b) : Below B w ((((W.setCell ⟨b, 0, none⟩ u0).setCell ⟨b, 1, none⟩ u1).setCell ⟨b, 2, none⟩ u2).setCell ⟨b, 3, none⟩ u3) :=
  below_set (below_set (below_set (below_set h hb) hb) hb) hb
/-- the copy in its box, without its leaves -/
structure CopyS (W2 wx : World) (b3 : Nat) (i : Int) (vm vd : Value) (V : View) : Prop where
  bx : BoxV wx b3 (.int .u64 i) vm (.slice none 0 0) vd
  om : OwnP wx W2.heap.size vm V.ms
  od : OwnP wx W2.heap.size vd V.ds
  nm : ∀ g, vm.ownBlock = some g → g ≠ b3
  nd : ∀ g, vd.ownBlock = some g → g ≠ b3
  nn : ∀ g, vm.ownBlock = some g → vd.ownBlock ≠ some g
  le : W2.heap.size ≤ b3
  b : Below W2.heap.size W2 wx
theorem CopyS.of {W2 w7 : World} {b3 : Nat} {i : Int} {vm vd z0 z1 z2 z3 : Value} {V : View} (bx : BoxV w7 b3 z0 z1 z2 z3) (om : OwnP w7 W2.heap.size vm V.ms) (od : OwnP w7 W2.heap.size vd V.ds) (nm : ∀ g, vm.ownBlock = some g → g ≠ b3) (nd : ∀ g, vd.ownBlock = some g → g ≠ b3) (nn : ∀ g, vm.ownBlock = some g → vd.ownBlock ≠ some g) (le : W2.heap.size ≤ b3) (b : Below W2.heap.size W2 w7) :
    CopyS W2 ((((w7.setCell ⟨b3, 0, none⟩ (.int .u64 i)).setCell ⟨b3, 1, none⟩ vm).setCell ⟨b3, 2, none⟩ (.slice none 0 0)).setCell ⟨b3, 3, none⟩ vd) b3 i vm vd V :=
  ⟨bx.put _ _ _ _, om.put4 nm, od.put4 nd, nm, nd, nn, le, below_put4 b le⟩
theorem CopyS.made {W2 w7 : World} {i : Int} {vm vd : Value} {V : View} (om : OwnP w7 W2.heap.size vm V.ms) (od : OwnP w7 W2.heap.size vd V.ds) (nn : ∀ g, vm.ownBlock = some g → vd.ownBlock ≠ some g) (b : Below W2.heap.size W2 w7) :
    CopyS W2 (w7.alloc (.cells #[.int .u64 i, vm, .slice none 0 0, vd] 33)) w7.heap.size i vm vd V :=
  ⟨BoxV.made _ _ _ _ _ _, om.ext ((Below.refl _ _).alloc (Nat.le_refl _) _), od.ext ((Below.refl _ _).alloc (Nat.le_refl _) _), fun g hg e => by have := (om.blk hg).2; omega, fun g hg e => by have := (od.blk hg).2; omega, nn, b.size, b.alloc b.size _⟩

end Go.Proofs.Ytbpfhclcjedkcaa

