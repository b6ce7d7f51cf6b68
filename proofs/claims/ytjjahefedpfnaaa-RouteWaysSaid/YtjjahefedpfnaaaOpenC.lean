import Derived.Test.YtjjahefedpfnaaaOpen
namespace Go.Proofs.Ytjjahefedpfnaaa
open Go.RowKit
section
variable {H : Type} {enc : TypeId × Value → H} {w : World}
set_option maxRecDepth 100000 in
theorem slice_cap {t e : TypeId} (ht : Try.prog.underlying t = some (.slice e)) {a : Option Addr} {n c : Nat} {d : DataW H} {p : List MemPlace} (h : DataW.Trod enc Try.prog w 0 (fun _ => true) true t (.slice a n c) d p) : n ≤ c := by
  obtain ⟨fuel, hf⟩ := h
  rcases Go.Deep.open_slice (x := (d, p)) ht (by simpa [Value.cells] using hf) with ⟨hv, _⟩ | ⟨a, len, cap, m, k, D, Pl, hv, _, hl, _⟩
  · cases hv; exact Nat.le_refl _
  · cases hv; exact hl
set_option maxRecDepth 100000 in
theorem open_pidsC {base : Nat} {v : Value} {d : DataW H} {p : List MemPlace} (hv : Value.okWide Try.prog w .any base 33 v) (h : DataW.Trod enc Try.prog w 0 (fun _ => true) true 33 v d p) (hs : Sz 33 d) :
    ∃ (a : Option Addr) (c : Nat) (xs : List Pid), v = .slice a xs.length c ∧ PidRow w a xs ∧ WfPids xs ∧ xs.length ≤ 17592186044416 ∧ xs.length ≤ c := by
  obtain ⟨a, c, xs, rfl, h1, h2, h3⟩ := open_pidsV hv h hs
  exact ⟨a, c, xs, rfl, h1, h2, h3, slice_cap Try.underlying33 h⟩
end
end Go.Proofs.Ytjjahefedpfnaaa
