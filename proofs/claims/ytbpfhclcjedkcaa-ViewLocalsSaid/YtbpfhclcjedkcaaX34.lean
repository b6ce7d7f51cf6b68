import Derived.Test.YtbpfhclcjedkcaaX33
namespace Go.Proofs.Ytbpfhclcjedkcaa
open Go.RowKit

/-! ### slices.Clone -/
theorem PidRow.nilA {w : World} {xs : List Pid} (h : PidRow w none xs) : xs = [] := by
  rcases h with h | ⟨b, off, h, _⟩
  · exact h
  · cases h
set_option maxRecDepth 100000 in
set_option maxHeartbeats 800000 in
theorem clone_any {a : Option Addr} {c : Nat} {xs : List Pid} {w : World} (hn : xs.length ≤ 549755813888) (hrow : PidRow w a xs) :
   Calls Try.prog 80 #[.slice a xs.length c] w fun e w' => ∃ v, e = .returned v ∧ OwnP w' w.heap.size v xs ∧ Below w.heap.size w w' := by
  cases a with
  | none =>
    have hx := hrow.nilA
    subst hx
    have hnil : ∀ W, (binOp .eql 30 (.slice none 0 c) (.slice none 0 0)).run Try.prog W = .ok (.bool true) W := fun W => Lib.run_eql_slice_nil W 30 26 none 0 c 0 0 Try.underlying30
    go_enter Try.func80, Try.ntmps80
    go_wp2
    go_ret
    exact ⟨_, rfl, OwnP.nil _ _, Below.refl _ _⟩
  | some a =>
    have hnil : ∀ W, (binOp .eql 30 (.slice (some a) xs.length c) (.slice none 0 0)).run Try.prog W = .ok (.bool false) W := fun W => Lib.run_eql_slice_nil W 30 26 (some a) xs.length c 0 0 Try.underlying30
    have hown : OwnP (w.alloc (.cells #[] 26)) w.heap.size (.slice (some ⟨w.heap.size, 0, none⟩) 0 0) [] := World.ownsRow_made (w := w) #[] 0 (Nat.le_refl _) (by unfold maxLen; omega) (by simp)
    have hB : Below w.heap.size w (w.alloc (.cells #[] 26)) := (Below.refl _ _).alloc (Nat.le_refl _) _
    have hr1 := hrow.ext hB
    go_enter Try.func80, Try.ntmps80
    go_wp2_with (at_builtin; refine wpList_appendP hown hr1 ?cb ?cz rfl rfl rfl rfl ?_; rotate_right; intro v4 w4 hown4 hg4 hnil4)
    case cb => simp; omega
    case cz => simp
    go_ret
    exact ⟨v4, rfl, hown4, hB.grown hg4 hB.size (fun g hg => (World.ownsRow.lt hown g hg).1)⟩
theorem clone_is {a : Option Addr} {c n : Nat} {xs : List Pid} {w : World} (hn : Hid (xs.length = n)) (hl : n ≤ 549755813888) (hrow : PidRow w a xs) :
   Calls Try.prog 80 #[.slice a n c] w fun e w' => ∃ v, e = .returned v ∧ OwnP w' w.heap.size v xs ∧ Below w.heap.size w w' := by
  have hn := hn.out; subst hn
  exact clone_any hl hrow
end Go.Proofs.Ytbpfhclcjedkcaa
