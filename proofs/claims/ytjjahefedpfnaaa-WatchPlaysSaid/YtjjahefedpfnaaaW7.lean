import Derived.Test.YtjjahefedpfnaaaW6
namespace Go.Proofs.Ytjjahefedpfnaaa
open Go.RowKit

/-- the lists' lengths, together -/
def lens (ls : List (List Pid)) : Nat := (ls.map List.length).sum
theorem lens_take_succ {ls : List (List Pid)} {k : Nat} (h : k < ls.length) : lens (ls.take (k + 1)) = lens (ls.take k) + ls[k].length := by
  unfold lens
  rw [List.take_succ_eq_append_getElem h, List.map_append, List.sum_append]
  simp only [List.map_cons, List.map_nil, List.sum_cons, List.sum_nil, Nat.add_zero]
theorem lens_take_le (ls : List (List Pid)) (k : Nat) : lens (ls.take k) ≤ lens ls := by
  unfold lens
  have h : ls = ls.take k ++ ls.drop k := (List.take_append_drop k ls).symm
  conv => rhs; rw [h]
  rw [List.map_append, List.sum_append]
  omega
theorem lens_take_all {ls : List (List Pid)} {k : Nat} (h : ls.length ≤ k) : lens (ls.take k) = lens ls := by rw [List.take_of_length_le h]
theorem flatten_take_succ {ls : List (List Pid)} {k : Nat} (h : k < ls.length) : (ls.take (k + 1)).flatten = (ls.take k).flatten ++ ls[k] := by
  rw [List.take_succ_eq_append_getElem h, List.flatten_append]; simp only [List.flatten_cons, List.flatten_nil, List.append_nil]
theorem lens_flatten (ls : List (List Pid)) : ls.flatten.length = lens ls := by unfold lens; rw [List.length_flatten]

end Go.Proofs.Ytjjahefedpfnaaa
