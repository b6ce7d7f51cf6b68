import Derived.Test.YtbpfhclcjedkcaaR4
namespace Go.Proofs.Ytbpfhclcjedkcaa
open Go.RowKit

theorem rel {P : Program} {f : FuncId} {args : Array Value} {w0 W : World} {v v' : Value} (hb : Below w0.heap.size w0 W) (h : Calls P f args W fun e w' => e = .returned v ∧ Below W.heap.size W w') (hv : v = v') :
    Calls P f args W fun e w' => e = .returned v' ∧ Below w0.heap.size w0 w' := by
  subst hv
  exact h.mono fun _ _ ⟨h1, h2⟩ => ⟨h1, hb.trans (h2.mono hb.size)⟩

end Go.Proofs.Ytbpfhclcjedkcaa
