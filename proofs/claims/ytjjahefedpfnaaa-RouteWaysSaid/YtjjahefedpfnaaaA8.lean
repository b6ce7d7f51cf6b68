import Derived.Test.YtjjahefedpfnaaaAA
import Derived.ChangeKeysEq
namespace Go.Proofs.Ytjjahefedpfnaaa
open Go.RowKit
theorem eql_mask (a b c d : Int) (w : World) : (binOp .eql 83 (.agg #[.int .u64 a, .int .u64 b]) (.agg #[.int .u64 c, .int .u64 d])).run Try.prog w = .ok (.bool (decide ((a, b) = (c, d)))) w := by
  obtain ⟨i, hi⟩ : ∃ i, Try.prog.info? 65 = some i := Option.isSome_iff_exists.1 (show (Try.prog.info? 65).isSome = true by kernel_rfl)
  have hc : Try.prog.cellsOf 65 = 1 := by kernel_rfl
  have h := run_equalIn_array (P := Try.prog) (w := w) 9999 (e := 65) (n := 2) #[.int .u64 a, .int .u64 b] #[.int .u64 c, .int .u64 d] Try.underlying83 hi
  go_simp
  simp only [Op.eqItems]
  go_simp
  by_cases h1 : a = c <;> by_cases h2 : b = d <;> simp [h1, h2]
end Go.Proofs.Ytjjahefedpfnaaa
