import Derived.Test.YtjjahefedpfnaaaDoorB3
import Derived.Outline
namespace Go.Proofs.YtjjahefedpfnaaaDoor
open Go.RowKit
theorem pick_val {x n : Int} (hn : 0 < n) : (if x.tmod n < 0 then x.tmod n + n else x.tmod n) = x % n := by
  have h1 := Int.tmod_eq_emod (a := x) (b := n)
  have h2 := Int.emod_nonneg x (show n ≠ 0 by omega)
  have h3 := Int.emod_lt_of_pos x hn
  by_cases hc : 0 ≤ x ∨ n ∣ x
  · rw [if_pos hc] at h1
    rw [h1]; split <;> simp at * <;> omega
  · rw [if_neg hc] at h1
    have h5 : x % n ≠ 0 := fun e => hc (.inr (Int.dvd_of_emod_eq_zero e))
    have h4 : (n.natAbs : Int) = n := by omega
    rw [h1, h4]
    split <;> omega
/-- a row from a place on, up to a place -/
theorem PidRow.from {w : World} {a : Option Addr} {xs : List Pid} (h : PidRow w a xs) {k c : Nat} (hc : xs.length ≤ c) : PidRow w (if c = k then a else a.map (·.add (k * 2))) (xs.drop k) := by
  by_cases hk : k < xs.length
  · rw [if_neg (by omega)]
    obtain ⟨b, off, rfl, hb, hcell⟩ := h.get (by omega)
    refine .inr ⟨b, off + k * 2, by simp [addr_add], hb, fun i hi => ?_⟩
    simp only [List.length_drop] at hi
    have := hcell (k + i) (by omega)
    rw [List.getElem_drop, show off + k * 2 + i * 2 = off + (k + i) * 2 by omega]
    exact this
  · rw [List.drop_eq_nil_of_le (by omega)]; exact .inl rfl
theorem PidRow.upto {w : World} {a : Option Addr} {xs : List Pid} (h : PidRow w a xs) (k : Nat) : PidRow w a (xs.take k) := by
  rcases h with rfl | ⟨b, off, rfl, hb, hcell⟩
  · exact .inl (by simp)
  · refine .inr ⟨b, off, rfl, hb, fun i hi => ?_⟩
    simp only [List.length_take] at hi
    have := hcell i (by omega)
    simpa using this

/-! ### sets as lists -/
theorem mem_keys_union {p : Pid} {L : List (Pid × Unit)} {xs : List Pid} : p ∈ keys (unionL L xs) ↔ p ∈ keys L ∨ p ∈ xs := mem_unionL
theorem keys_union_nd {L : List (Pid × Unit)} {xs : List Pid} (h : (keys L).Nodup) : (keys (unionL L xs)).Nodup := union_keys_nodup xs L h
theorem union_all : ∀ (xs : List Pid) (L : List (Pid × Unit)), (∀ p ∈ xs, p ∈ keys L) → unionL L xs = L ∧ unionN L xs = 0
  | [], L, _ => ⟨rfl, rfl⟩
  | p :: l, L, h => by
    have hp := h p (List.mem_cons_self ..)
    have ha := add1_of_mem hp
    obtain ⟨h1, h2⟩ := union_all l L (fun q hq => h q (List.mem_cons_of_mem _ hq))
    unfold unionL unionN
    rw [ha, if_pos (look_isSome.2 hp)]
    exact ⟨h1, by omega⟩

theorem run_from {a : Option Addr} {n c k : Nat} (h : k ≤ n) (W : World) : (Instr.slice 22 (.slice a n c) (some (.int .i64 k)) none none).run Tryd.prog W = .ok (.slice (if c = k then a else a.map (·.add (k * 2))) (n - k) (c - k)) W := by
  have hs : ∀ W, (sizeOf 30).run Tryd.prog W = .ok 2 W := fun W => Tryd.sizeOf30 W
  simp [Instr.slice, run_underlying Tryd.underlying22, Instr.sliceBounds, run_sliceBound, hs, Result.andThen, h]
theorem run_upto {a : Option Addr} {n c k : Nat} (h : k ≤ c) (W : World) : (Instr.slice 22 (.slice a n c) none (some (.int .i64 k)) none).run Tryd.prog W = .ok (.slice (if c = 0 then a else a.map (·.add (0 * 2))) (k - 0) (c - 0)) W := by
  have hs : ∀ W, (sizeOf 30).run Tryd.prog W = .ok 2 W := fun W => Tryd.sizeOf30 W
  simp [Instr.slice, run_underlying Tryd.underlying22, Instr.sliceBounds, run_sliceBound, hs, Result.andThen, h]
theorem PidRow.upto0 {w : World} {a : Option Addr} {xs : List Pid} (h : PidRow w a xs) (k : Nat) {c : Nat} : PidRow w (if c = 0 then a else a.map (·.add (0 * 2))) (xs.take k) := by
  split
  · exact h.upto k
  · have : a.map (·.add (0 * 2)) = a := by
      rcases h.upto k with h1 | ⟨b, off, rfl, _⟩
      · cases a with
        | none => rfl
        | some x => obtain ⟨b, o, s⟩ := x; cases s <;> simp [Addr.add]
      · simp [addr_add]
    rw [this]; exact h.upto k
end Go.Proofs.YtjjahefedpfnaaaDoor
