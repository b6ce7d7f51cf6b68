import Derived.Test.YtjjahefedpfnaaaE15
import Derived.Test.YtjjahefedpfnaaaS1
import Derived.Deep.DeepCutAuto
namespace Go.Proofs.Ytjjahefedpfnaaa
open Go.RowKit
theorem up4_a {am al ad : Option Addr} {w : World} (hV : ViewR w am al ad fourV) : Calls Try.prog 48 #[.agg #[.int .u64 1, .slice am 4 4, .slice al 2 2, .slice ad 2 2], .agg #[.int .u32 0, .int .u32 0, .int .u32 0, .int .u32 0, .int .u32 0, .int .u32 0, .int .u32 0, .int .u32 0, .int .u32 0, .int .u32 0, .int .u32 0, .int .u32 0, .int .u32 0, .int .u32 0, .int .u32 0, .int .u32 0], .agg #[.int .u16 2, .int .u32 1]] w
    fun e w' => e = .returned (.tuple #[.agg #[.int .u16 1, .int .u32 1], .bool true]) ∧ Below w.heap.size w w' := by
  have := up_any r0 fourV am al ad 4 2 2 2 1 w hV fourS.fine
  rw [show upP fourV (hasRu r0) (2, 1) = some (1, 1) by decide] at this
  exact this
theorem up4_b {am al ad : Option Addr} {w : World} (hV : ViewR w am al ad fourV) : Calls Try.prog 48 #[.agg #[.int .u64 1, .slice am 4 4, .slice al 2 2, .slice ad 2 2], .agg #[.int .u32 0, .int .u32 0, .int .u32 0, .int .u32 0, .int .u32 0, .int .u32 0, .int .u32 0, .int .u32 0, .int .u32 0, .int .u32 0, .int .u32 0, .int .u32 0, .int .u32 0, .int .u32 0, .int .u32 0, .int .u32 0], .agg #[.int .u16 3, .int .u32 1]] w
    fun e w' => e = .returned (.tuple #[.agg #[.int .u16 1, .int .u32 1], .bool true]) ∧ Below w.heap.size w w' := by
  have := up_any r0 fourV am al ad 4 2 2 3 1 w hV fourS.fine
  rw [show upP fourV (hasRu r0) (3, 1) = some (1, 1) by decide] at this
  exact this
theorem up4_c {am al ad : Option Addr} {w : World} (hV : ViewR w am al ad fourV) : Calls Try.prog 48 #[.agg #[.int .u64 1, .slice am 4 4, .slice al 2 2, .slice ad 2 2], .agg (RL r1).toArray, .agg #[.int .u16 2, .int .u32 1]] w
    fun e w' => e = .returned (.tuple #[.agg #[.int .u16 3, .int .u32 1], .bool true]) ∧ Below w.heap.size w w' := by
  have := up_any r1 fourV am al ad 4 2 2 2 1 w hV fourS.fine
  rw [show upP fourV (hasRu r1) (2, 1) = some (3, 1) by decide] at this
  exact this
theorem chief4 {am al ad : Option Addr} {w : World} (hV : ViewR w am al ad fourV) : Calls Try.prog 47 #[.agg #[.int .u64 1, .slice am 4 4, .slice al 2 2, .slice ad 2 2], .agg (RL r1).toArray] w
    fun e w' => e = .returned (.tuple #[.agg #[.int .u16 3, .int .u32 1], .bool true]) ∧ Below w.heap.size w w' := by
  have := chiefA_any r1 fourV am al ad 4 2 2 w hV fourS.fine
  rw [show chiefP fourV (hasRu r1) = some (3, 1) by decide] at this
  exact this
theorem down4 {am al ad : Option Addr} {w : World} (hV : ViewR w am al ad fourV) : Calls Try.prog 49 #[.agg #[.int .u64 1, .slice am 4 4, .slice al 2 2, .slice ad 2 2], .agg #[.int .u32 0, .int .u32 0, .int .u32 0, .int .u32 0, .int .u32 0, .int .u32 0, .int .u32 0, .int .u32 0, .int .u32 0, .int .u32 0, .int .u32 0, .int .u32 0, .int .u32 0, .int .u32 0, .int .u32 0, .int .u32 0], .agg #[.int .u16 1, .int .u32 1]] w
    fun e w' => ∃ a c, e = .returned (.slice a 2 c) ∧ PidRow w' a [(2, 1), (3, 1)] ∧ Below w.heap.size w w' := by
  have := down_any r0 fourV am al ad 4 2 2 1 1 w hV fourS
  rw [show downP fourV (hasRu r0) (1, 1) = [(2, 1), (3, 1)] by decide] at this
  refine Calls.mono this ?_
  rintro e w' ⟨v, rfl, hown, hb⟩
  obtain ⟨a, c, rfl, hrow, -⟩ := hown.row
  exact ⟨a, c, rfl, hrow, hb⟩
def PtrTo (w : World) (b : Nat) (v0 v1 : Value) : Prop := w.cell? ⟨b, 0, none⟩ = some v0 ∧ w.cell? ⟨b, 1, none⟩ = some v1
theorem PtrTo.ext {w w' : World} {b : Nat} {v0 v1 : Value} (h : PtrTo w b v0 v1) (hb : Below w.heap.size w w') : PtrTo w' b v0 v1 := ⟨cell_to h.1 hb, cell_to h.2 hb⟩
end Go.Proofs.Ytjjahefedpfnaaa
