import Derived.Test.YtjjahefedpfnaaaDoorR2
namespace Go.Proofs.YtjjahefedpfnaaaDoor
open Go.RowKit

def greatB (V : View) : Bool := decide (40 < V.ms.length) || (decide (40 < V.ls.length) || (decide (40 < V.ds.length) || V.ls.any fun l => decide (40 < l.length)))
theorem any_drop {ls : List (List Pid)} {k : Nat} (h : k < ls.length) {l : List Pid} (hl : l = ls[k]) (f : List Pid → Bool) : (ls.drop k).any f = (f l || (ls.drop (k + 1)).any f) := by
  rw [List.drop_eq_getElem_cons h, List.any_cons, ← hl]

/-! ### Quorum, Leaf, Rank -/
/-- how many of the leaders from place k on are among S, each at its first place -/
def quoFrom (ds : List Pid) (S : List (Pid × Unit)) : Nat → List Pid → Nat
  | _, [] => 0
  | k, p :: r => (if (look p S).isSome = true ∧ atIx ds p = (k : Int) then 1 else 0) + quoFrom ds S (k + 1) r
def quoN (ds l : List Pid) : Nat := quoFrom ds (unionL [] l) 0 ds
def quorumB (V : View) (l : List Pid) : Bool := decide (V.ds.length / 2 < quoN V.ds l)
theorem quoFrom_drop {ds : List Pid} {S : List (Pid × Unit)} {k : Nat} (h : k < ds.length) {x y : Int} (hx : (x, y) = ds[k]) :
    quoFrom ds S k (ds.drop k) = (if (look (x, y) S).isSome = true ∧ atIx ds (x, y) = (k : Int) then 1 else 0) + quoFrom ds S (k + 1) (ds.drop (k + 1)) := by
  rw [List.drop_eq_getElem_cons h, ← hx]; rfl
theorem quoFrom_le (ds : List Pid) (S : List (Pid × Unit)) : ∀ (r : List Pid) (k : Nat), quoFrom ds S k r ≤ r.length
  | [], _ => Nat.le_refl _
  | p :: r, k => by
    have := quoFrom_le ds S r (k + 1)
    unfold quoFrom
    simp only [List.length_cons]
    split <;> omega
end Go.Proofs.YtjjahefedpfnaaaDoor
