import Derived.Test.YtjjahefedpfnaaaOpenC
namespace Go.Proofs.Ytjjahefedpfnaaa
open Go.RowKit Go.Deep Go.Joins Go.ChangeShapes
/-- the bytes behind a slice's address -/
def BRow (w : World) (a : Option Addr) (bs : List Int) : Prop :=
  bs = [] ∨ ∃ b off, a = some ⟨b, off, none⟩ ∧ b < w.heap.size ∧ ∀ i (h : i < bs.length), w.cell? ⟨b, off + i, none⟩ = some (.int .u8 bs[i])
theorem BRow.ext {w w' : World} {a : Option Addr} {bs : List Int} (h : BRow w a bs) (hb : Below w.heap.size w w') : BRow w' a bs := by
  rcases h with rfl | ⟨b, off, rfl, hlt, hc⟩
  · exact .inl rfl
  · exact .inr ⟨b, off, rfl, by have := hb.size; omega, fun i hi => by rw [hb.cell (by exact hlt)]; exact hc i hi⟩
theorem BRow.at {w wr : World} {a : Option Addr} {bs : List Int} (h : BRow w a bs) {B : Nat} (hb : Below B w wr) (hB : B = w.heap.size) {k : Nat} (hk : k < bs.length) :
    ∃ b off x, a = some ⟨b, off, none⟩ ∧ x = bs[k] ∧ wr.cell? ⟨b, off + k, none⟩ = some (.int .u8 x) := by
  subst hB
  rcases h with rfl | ⟨b, off, rfl, hlt, hc⟩
  · simp at hk
  · exact ⟨b, off, bs[k], rfl, rfl, by rw [hb.cell (by exact hlt)]; exact hc k hk⟩
def WfBytes (bs : List Int) : Prop := ∀ x ∈ bs, 0 ≤ x ∧ x ≤ 255
theorem bytes47 : Try.prog.bytesOf 5 = 1 := by kernel_rfl
theorem cells5 : Try.prog.cellsOf 5 = 1 := by kernel_rfl
section
variable {H : Type} {enc : TypeId × Value → H} {w : World}
set_option maxRecDepth 100000 in
theorem open_bytes {base : Nat} {v : Value} {d : DataW H} {p : List MemPlace} (hv : Value.okWide Try.prog w .any base 47 v) (h : DataW.Trod enc Try.prog w 0 (fun _ => true) true 47 v d p) (hs : Sz 47 d) :
    ∃ (a : Option Addr) (c : Nat) (xs : List Int), v = .slice a xs.length c ∧ BRow w a xs ∧ WfBytes xs ∧ xs.length ≤ 140737488355328 ∧ xs.length ≤ c := by
  obtain ⟨a0, len0, cap0, rfl⟩ := Go.WideShapes.okWide_slice Try.underlying47 hv
  have hcap := slice_cap Try.underlying47 h
  obtain ⟨fuel, hf⟩ := h
  rcases open_ints (x := (d, p)) Try.underlying47 Try.underlying5 cells5 (by simpa [Value.cells] using hf) with ⟨hcs, _⟩ | ⟨a, len, cap, zs, hcs, _, hl, hm, hz, hx, hcell, hwf⟩
  · cases hcs
    exact ⟨none, 0, [], rfl, .inl rfl, (by intro x hx; cases hx), by simp, Nat.le_refl _⟩
  · cases hcs
    simp only [if_true] at hz
    have hd : d = .slice (lits .u8 (zs.take len0)) (lits .u8 (zs.drop len0)) := congrArg Prod.fst hx
    rw [hd] at hs
    obtain ⟨hw, _⟩ := hs.slice Try.underlying47
    rw [bytes47] at hw
    simp only [lits, List.length_map, List.length_take, List.length_drop] at hw
    have hlen : len0 ≤ 140737488355328 := by unfold reachBytes at hw; omega
    have hzl : (zs.take len0).length = len0 := by simp; omega
    refine ⟨some a, cap0, zs.take len0, by rw [hzl], ?_, ?_, by rw [hzl]; exact hlen, by rw [hzl]; exact hl⟩
    · by_cases h0 : len0 = 0
      · subst h0; exact .inl (by simp)
      · have ha := hcell 0 (by omega)
        have hsp : a.spot = none := by simpa [Addr.add] using World.cell?_spot ha
        obtain ⟨b, off, sp⟩ := a
        simp only at hsp
        subst hsp
        refine .inr ⟨b, off, rfl, ?_, fun i hi => ?_⟩
        · have := World.block_lt_of_cell? w _ ha
          simpa [addr_add] using this
        · have g := hcell i (by omega)
          rw [addr_add] at g
          rw [g]
          simp [show i < zs.length by omega]
    · intro x hx'
      have := hwf x (List.mem_of_mem_take hx')
      exact bounds_u8 this
end
end Go.Proofs.Ytjjahefedpfnaaa
