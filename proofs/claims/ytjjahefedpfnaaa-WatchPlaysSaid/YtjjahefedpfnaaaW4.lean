import Derived.Test.YtjjahefedpfnaaaW3
namespace Go.Proofs.Ytjjahefedpfnaaa
open Go.RowKit

/-- the members' ranks, as a map: in insertion order -/
def ranksFrom : List (Pid × Int) → List Pid → Nat → List (Pid × Int)
  | S, [], _ => S
  | S, p :: l, k => ranksFrom (if (look p S).isSome = true then S else ins p (k : Int) S) l (k + 1)
def ranksL (xs : List Pid) : List (Pid × Int) := ranksFrom [] xs 0
theorem ranksFrom_drop {S : List (Pid × Int)} {xs : List Pid} {k : Nat} (h : k < xs.length) {x y : Int} (hx : (x, y) = xs[k]) :
    ranksFrom S (xs.drop k) k = ranksFrom (if (look (x, y) S).isSome = true then S else ins (x, y) (k : Int) S) (xs.drop (k + 1)) (k + 1) := by
  rw [List.drop_eq_getElem_cons h, ← hx]; rfl

/-- risingFrom: the rest of 'rising' -/
def risFrom (S : List (Pid × Int)) : Int → List Pid → Bool
  | _, [] => true
  | last, p :: l => match look p S with
    | none => false
    | some k => if k ≤ last then false else risFrom S k l
theorem risFrom_drop {S : List (Pid × Int)} {last : Int} {xs : List Pid} {k : Nat} (h : k < xs.length) {x y : Int} (hx : (x, y) = xs[k]) :
    risFrom S last (xs.drop k) = match look (x, y) S with | none => false | some k' => if k' ≤ last then false else risFrom S k' (xs.drop (k + 1)) := by
  rw [List.drop_eq_getElem_cons h, ← hx]; rfl

end Go.Proofs.Ytjjahefedpfnaaa
