import Derived.Test.YtjjahefedpfnaaaDoorMaps
namespace Go.Proofs.YtjjahefedpfnaaaDoor
open Go.RowKit

def mayB (p : Pid) : Bool := decide (p.1 < 16) && (p.2 != 0)
def memFrom (n : Nat) : List (Int × Unit) → List Pid → Bool
  | _, [] => decide (0 < n) && decide (n ≤ 24)
  | S, p :: l => if (look p.1 S).isSome = true then false else if mayB p then memFrom n (ins p.1 () S) l else false
def membersB (xs : List Pid) : Bool := memFrom xs.length [] xs
theorem memFrom_drop {n : Nat} {S : List (Int × Unit)} {xs : List Pid} {k : Nat} (h : k < xs.length) {x y : Int} (hx : (x, y) = xs[k]) :
    memFrom n S (xs.drop k) = if (look x S).isSome = true then false else if mayB (x, y) then memFrom n (ins x () S) (xs.drop (k + 1)) else false := by
  rw [List.drop_eq_getElem_cons h, ← hx]; rfl

end Go.Proofs.YtjjahefedpfnaaaDoor
