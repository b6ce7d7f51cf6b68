import Derived.Test.YtbpfhclcjedkcaaL1
namespace Go.Proofs.Ytbpfhclcjedkcaa
open Go.RowKit

theorem quiet_of {P : Program} {f : FuncId} {args : Array Value} {w0 : World} {U : ExtW w0} {v v' : Value} (h : Calls P f args U.W fun e w' => e = .returned v ∧ Below U.W.heap.size U.W w') (hv : v = v') :
    Calls P f args U.W fun e w' => e = .returned v' ∧ ∃ U' : ExtW w0, w' = U'.W := by
  subst hv
  exact h.mono fun _ _ ⟨h1, h2⟩ => ⟨h1, ⟨_, U.h.trans (h2.mono U.h.size)⟩, rfl⟩

section
variable (V : View) (am al ad : Option Addr) (cm cl cd : Nat) (x y : Int) (w : World)
end
/-! ### two quorums meet -/
theorem mem_unionL {p : Pid} : ∀ {xs : List Pid} {L : List (Pid × Unit)}, p ∈ keys (unionL L xs) ↔ p ∈ keys L ∨ p ∈ xs
  | [], L => by simp [unionL]
  | q :: l, L => by
    simp only [unionL]
    rw [mem_unionL]
    have : p ∈ keys (add1 q L) ↔ p ∈ keys L ∨ p = q := by
      by_cases h : q ∈ keys L
      · rw [add1_of_mem h]
        constructor
        · exact .inl
        · rintro (h1 | rfl)
          · exact h1
          · exact h
      · rw [add1_of_not h]; simp [keys]
    rw [this, List.mem_cons, or_assoc]
theorem quo_add {ds : List Pid} {Sa Sb : List (Pid × Unit)} : ∀ (r : List Pid) (k : Nat), (∀ p ∈ r, ¬ (p ∈ keys Sa ∧ p ∈ keys Sb)) → quoFrom ds Sa k r + quoFrom ds Sb k r ≤ r.length
  | [], _, _ => by simp [quoFrom]
  | p :: r, k, h => by
    have ih := quo_add (ds := ds) r (k + 1) (fun q hq => h q (List.mem_cons_of_mem _ hq))
    have hp := h p (List.mem_cons_self ..)
    simp only [quoFrom, look_isSome, List.length_cons]
    by_cases ha : p ∈ keys Sa
    · have hb : p ∉ keys Sb := fun hb => hp ⟨ha, hb⟩
      simp only [ha, hb, true_and, false_and, if_false]
      split <;> omega
    · simp only [ha, false_and, if_false]
      split <;> omega
theorem quorums_meet {V : View} {a b : List Pid} (ha : quorumB V a = true) (hb : quorumB V b = true) : ∃ p ∈ a, p ∈ b ∧ p ∈ V.ds := by
  apply Classical.byContradiction
  intro hno
  have h : ∀ p ∈ V.ds, ¬ (p ∈ keys (unionL [] a) ∧ p ∈ keys (unionL [] b)) := by
    rintro p hp ⟨h1, h2⟩
    rw [mem_unionL] at h1 h2
    simp only [keys, List.map_nil, List.not_mem_nil, false_or] at h1 h2
    exact hno ⟨p, h1, h2, hp⟩
  have := quo_add (ds := V.ds) V.ds 0 h
  unfold quorumB quoN at ha hb
  have ha' := of_decide_eq_true ha
  have hb' := of_decide_eq_true hb
  clear ha hb
  omega

end Go.Proofs.Ytbpfhclcjedkcaa
