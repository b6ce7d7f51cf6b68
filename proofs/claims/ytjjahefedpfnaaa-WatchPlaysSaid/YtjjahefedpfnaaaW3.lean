import Derived.Test.YtjjahefedpfnaaaMaps
namespace Go.Proofs.Ytjjahefedpfnaaa
open Go.RowKit

def mayB (p : Pid) : Bool := decide (p.1 < 16) && (p.2 != 0)
theorem may_any (x y : Int) (w : World) : Calls Try.prog 125 #[.agg #[.int .u16 x, .int .u32 y]] w fun e w' => e = .returned (.bool (mayB (x, y))) ∧ Below w.heap.size w w' := by
  have hB : Below w.heap.size w (w.alloc (.cells #[.int .u16 x, .int .u32 y] 32)) := (Below.refl _ _).alloc (Nat.le_refl _) _
  by_cases h1 : x < 16
  · have h1' : decide (x < 16) = true := by simpa using h1
    go_enter Try.func125, Try.ntmps125
    go_wp2
    go_ret
    exact ⟨ret_bool (by simp [mayB, h1]), hB⟩
  · have h1' : decide (x < 16) = false := by simpa using h1
    go_enter Try.func125, Try.ntmps125
    go_wp2
    go_ret
    exact ⟨ret_bool (by unfold mayB; rw [show decide ((x, y).1 < 16) = false from h1']; rfl), hB⟩

theorem may_is {x y : Int} {w : World} {bm : Bool} (h : Hid (mayB (x, y) = bm)) : Calls Try.prog 125 #[.agg #[.int .u16 x, .int .u32 y]] w fun e w' => e = .returned (.bool bm) ∧ Below w.heap.size w w' := by
  have := may_any x y w
  rw [h.out] at this
  exact this

def memFrom (n : Nat) : List (Int × Unit) → List Pid → Bool
  | _, [] => decide (0 < n) && decide (n ≤ 24)
  | S, p :: l => if (look p.1 S).isSome = true then false else if mayB p then memFrom n (ins p.1 () S) l else false
def membersB (xs : List Pid) : Bool := memFrom xs.length [] xs
theorem memFrom_drop {n : Nat} {S : List (Int × Unit)} {xs : List Pid} {k : Nat} (h : k < xs.length) {x y : Int} (hx : (x, y) = xs[k]) :
    memFrom n S (xs.drop k) = if (look x S).isSome = true then false else if mayB (x, y) then memFrom n (ins x () S) (xs.drop (k + 1)) else false := by
  rw [List.drop_eq_getElem_cons h, ← hx]; rfl

end Go.Proofs.Ytjjahefedpfnaaa
