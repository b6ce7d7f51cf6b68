/- Parts of the proof: E5. -/
import Derived.Test.YtehagnbphamjhaaGreatDoorE4
namespace Go.Proofs.YtehagnbphamjhaaGreatDoor
open Go.RowKit
/-- a rumor's cells -/
def RL (r : Nat → Int) : List Value := (rumC r).toList
theorem RumBox.range {w : World} {b : Nat} {r : Nat → Int} (h : RumBox w b r) : w.rangeAt b 0 (RL r) := fun j v hv => by
  have hj : j < 16 := by have := (List.getElem?_eq_some_iff.1 hv).1; simpa [RL] using this
  rw [Nat.zero_add, h j hj]
  have := rumC_get r hj
  unfold RL at hv
  rw [Array.getElem?_toList] at hv
  rw [← hv, this]
theorem RumBox.madeV (w : World) (r : Nat → Int) : RumBox (w.alloc (.cells (RL r).toArray 230)) w.heap.size r := RumBox.made w r
/-- what is known of a view -/
structure Fine (V : View) : Prop where
  wf : WfView V
  ls : ∀ l ∈ V.ls, l.length ≤ 549755813888
  ds : V.ds.length ≤ 549755813888
  ms : V.ms.length ≤ 549755813888
  nl : V.ls.length ≤ 549755813888
abbrev vcells (V : View) (am al ad : Option Addr) (cm cl cd : Nat) : Array Value := #[.int .u64 V.id, .slice am V.ms.length cm, .slice al V.ls.length cl, .slice ad V.ds.length cd]

end Go.Proofs.YtehagnbphamjhaaGreatDoor

