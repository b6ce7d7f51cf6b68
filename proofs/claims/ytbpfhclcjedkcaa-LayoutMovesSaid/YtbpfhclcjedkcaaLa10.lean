/- Parts of the proof: X8 X17 X5 X6. -/
import Derived.Deep.RegionWith
import Derived.Deep.RegionHeld3
import Derived.Test.YtbpfhclcjedkcaaLa9
import Derived.Test.YtbpfhclcjedkcaaR2
namespace Go.Proofs.Ytbpfhclcjedkcaa
open Go.RowKit
theorem ByteRow.cut {w : World} {a : Option Addr} {bs : List Nat} (h : ByteRow w a bs) {k c : Nat} (hc : bs.length ≤ c) : ByteRow w (if c = k then a else a.map (·.add (k * 1))) (bs.drop k) := by
  by_cases hk : k < bs.length
  · rw [if_neg (by omega)]
    rcases h with rfl | ⟨b, off, rfl, hb, hcell⟩
    · simp at hk
    · refine .inr ⟨b, off + k, by simp [addr_addB], hb, fun i hi => ?_⟩
      simp only [List.length_drop] at hi
      have := hcell (k + i) (by omega)
      rw [List.getElem_drop, show off + k + i = off + (k + i) by omega]
      exact this
  · rw [List.drop_eq_nil_of_le (by omega)]; exact .inl rfl
end Go.Proofs.Ytbpfhclcjedkcaa

namespace Go.Proofs.Ytbpfhclcjedkcaa
open Go.RowKit
/-! ### lent bytes -/
/-- what a row in the making holds, as far as k -/
structure Fill (w : World) (g k : Nat) (F : List Nat) : Prop where
  cells : ∀ j (h : j < F.length), j < k → w.cell? ⟨g, j, none⟩ = some (.int .u8 (F[j] : Nat))
  there : ∀ j, j < F.length → (w.cell? ⟨g, j, none⟩).isSome = true
  fro : ∀ j, w.frozen? ⟨g, j, none⟩ = false
theorem Fill.step {w : World} {g k : Nat} {F : List Nat} (h : Fill w g k F) {x : Nat} (hk : k < F.length) (hx : x = F[k]) : Fill (w.setCell ⟨g, k, none⟩ (.int .u8 x)) g (k + 1) F := by
  refine ⟨fun j hj hjk => ?_, fun j hj => ?_, fun j => by simp [h.fro]⟩
  · by_cases e : j = k
    · subst e
      obtain ⟨v, hv⟩ := Option.isSome_iff_exists.1 (h.there j hj)
      rw [World.cell?_setCell_same _ _ _ hv, hx]
    · rw [World.cell?_setCell_other _ _ _ _ (by simp <;> omega)]
      exact h.cells j hj (by omega)
  · by_cases e : j = k
    · subst e
      obtain ⟨v, hv⟩ := Option.isSome_iff_exists.1 (h.there j hj)
      rw [World.cell?_setCell_same _ _ _ hv]; rfl
    · rw [World.cell?_setCell_other _ _ _ _ (by simp <;> omega)]
      exact h.there j hj
theorem Fill.made (w : World) (Z : Array Value) (F : List Nat) (h : F.length ≤ Z.size) : Fill (w.alloc (.cells Z 5)) w.heap.size 0 F := by
  refine ⟨fun j _ h => by omega, fun j hj => ?_, fun j => by simp⟩
  have : (w.alloc (.cells Z 5)).cell? ⟨w.heap.size, j, none⟩ = Z[j]? := by simp
  rw [this]; simp; omega
theorem Fill.row {w : World} {g k : Nat} {F : List Nat} (h : Fill w g k F) (hk : F.length ≤ k) (hg : g < w.heap.size) : ByteRow w (some ⟨g, 0, none⟩) F :=
  .inr ⟨g, 0, rfl, hg, fun i hi => by rw [Nat.zero_add]; exact h.cells i hi (by omega)⟩
end Go.Proofs.Ytbpfhclcjedkcaa

namespace Go.Proofs.Ytbpfhclcjedkcaa
open Go.RowKit
/-! ### the forms, and the readers, in plain words -/
/-- what is left to read, and what stopped it -/
structure RS where
  b : List Nat
  e : Nat
def zeroV : View := ⟨0, [], [], []⟩
/-! ### what was laid is read as it was -/
end Go.Proofs.Ytbpfhclcjedkcaa

namespace Go.Proofs.Ytbpfhclcjedkcaa
open Go.RowKit
/-! ### commands and beats in plain words -/
instance : DecidableEq View := fun a b => by
  obtain ⟨a1, a2, a3, a4⟩ := a
  obtain ⟨b1, b2, b3, b4⟩ := b
  exact decidable_of_iff (a1 = b1 ∧ a2 = b2 ∧ a3 = b3 ∧ a4 = b4) (by simp)
structure CmdD where
  kind : Int
  fr : Pid
  num : Nat
  vw : Nat
  data : List Nat
  v : View
end Go.Proofs.Ytbpfhclcjedkcaa

