/- Parts of the proof: X46. -/
import Derived.Test.YtbpfhclcjedkcaaGMsgEncodes7
namespace Go.Proofs.Ytbpfhclcjedkcaa
open Go.RowKit

/-! ### the reference's Get of a command -/
theorem cmdCheckR_is {A : CmdD} {da am al ad : Option Addr} {dc cm cl cd : Nat} {w : World} {r : Int} (h : Hid ((cmdChk A : Int) = r)) (hV : ViewR w am al ad A.v) (hsum : lens A.v.ls ≤ 549755813888) (hfr : okP A.fr) :
   Calls Try.prog 102 #[.agg (cmdL da am al ad dc cm cl cd A)] w fun e w' => e = .returned (.int .i64 r) ∧ Below w.heap.size w w' := by
  have := cmdCheckR_any (da := da) (dc := dc) (cm := cm) (cl := cl) (cd := cd) hV hsum hfr
  rw [h.out] at this; exact this

end Go.Proofs.Ytbpfhclcjedkcaa

