import Derived.Test.YtjjahefedpfnaaaDoorN1
namespace Go.Proofs.YtjjahefedpfnaaaDoor
open Go.RowKit
section
variable (x y : Int) (a : Option Addr) (c : Nat) (xs : List Pid) (w : World)
end
theorem sortL_eq {xs ys : List Pid} (h : ys.Perm xs) (hs : ys.Pairwise fun x y => (!(ahead y x)) = true) (hok : ∀ p ∈ ys, ok p) : sortL xs = ys := by
  rw [← sortL_perm h hok]
  exact List.mergeSort_of_pairwise hs
end Go.Proofs.YtjjahefedpfnaaaDoor
