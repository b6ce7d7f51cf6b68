import Derived.Test.YtjjahefedpfnaaaOpenB
import Derived.Deep.Strs
namespace Go.Proofs.Ytjjahefedpfnaaa
open Go.RowKit Go.Deep Go.Joins Go.ChangeShapes
/-- an act, as data -/
structure Act where
  k : Int
  p : Pid
  l : List Pid
/-- the acts behind a slice's address -/
def ActRow (w : World) (a : Option Addr) (xs : List Act) : Prop :=
  xs = [] ∨ ∃ b off, a = some ⟨b, off, none⟩ ∧ b < w.heap.size ∧ ∀ i (h : i < xs.length), ∃ ai ci, w.cell? ⟨b, off + i * 4, none⟩ = some (.int .i64 xs[i].k) ∧ w.cell? ⟨b, off + i * 4 + 1, none⟩ = some (.int .u16 xs[i].p.1) ∧ w.cell? ⟨b, off + i * 4 + 2, none⟩ = some (.int .u32 xs[i].p.2) ∧ w.cell? ⟨b, off + i * 4 + 3, none⟩ = some (.slice ai xs[i].l.length ci) ∧ PidRow w ai xs[i].l
theorem ActRow.ext {w w' : World} {a : Option Addr} {xs : List Act} (h : ActRow w a xs) (hb : Below w.heap.size w w') : ActRow w' a xs := by
  rcases h with rfl | ⟨b, off, rfl, hlt, hc⟩
  · exact .inl rfl
  · refine .inr ⟨b, off, rfl, by have := hb.size; omega, fun i hi => ?_⟩
    obtain ⟨ai, ci, h1, h2, h3, h4, h5⟩ := hc i hi
    exact ⟨ai, ci, by rw [hb.cell (by exact hlt)]; exact h1, by rw [hb.cell (by exact hlt)]; exact h2, by rw [hb.cell (by exact hlt)]; exact h3, by rw [hb.cell (by exact hlt)]; exact h4, h5.ext hb⟩
theorem ActRow.at {w : World} {a : Option Addr} {xs : List Act} (h : ActRow w a xs) {k : Nat} (hk : k < xs.length) :
    ∃ b off ai ci kd x y l, a = some ⟨b, off, none⟩ ∧ xs[k] = ⟨kd, (x, y), l⟩ ∧ w.cell? ⟨b, off + k * 4, none⟩ = some (.int .i64 kd) ∧ w.cell? ⟨b, off + k * 4 + 1, none⟩ = some (.int .u16 x) ∧ w.cell? ⟨b, off + k * 4 + 1 + 1, none⟩ = some (.int .u32 y) ∧ w.cell? ⟨b, off + k * 4 + 1 + 1 + 1, none⟩ = some (.slice ai l.length ci) ∧ PidRow w ai l := by
  rcases h with rfl | ⟨b, off, rfl, hlt, hc⟩
  · simp at hk
  · obtain ⟨ai, ci, h1, h2, h3, h4, h5⟩ := hc k hk
    exact ⟨b, off, ai, ci, xs[k].k, xs[k].p.1, xs[k].p.2, xs[k].l, rfl, rfl, h1, h2, h3, h4, h5⟩
def WfActs (xs : List Act) : Prop := ∀ x ∈ xs, (-9223372036854775808 ≤ x.k ∧ x.k ≤ 9223372036854775807) ∧ (0 ≤ x.p.1 ∧ x.p.1 < 65536 ∧ 0 ≤ x.p.2 ∧ x.p.2 < 4294967296) ∧ WfPids x.l ∧ x.l.length ≤ 17592186044416
theorem bytes35 : Try.prog.bytesOf 35 = 40 := by kernel_rfl
theorem cells35 : Try.prog.cellsOf 35 = 4 := by kernel_rfl
theorem cells3 : Try.prog.cellsOf 3 = 1 := by kernel_rfl
theorem Sz.field {H : Type} {t : TypeId} {f0 f1 f2 : Field} {d0 d1 d2 : DataW H} (h : Sz t (.agg [d0, d1, d2])) (ht : Try.prog.underlying t = some (.struct #[f0, f1, f2])) : Sz f2.type d2 := fun n hn => h n (by
  have e : (DataW.agg [d0, d1, d2]).weights Try.prog t = d0.weights Try.prog f0.type ++ (d1.weights Try.prog f1.type ++ (d2.weights Try.prog f2.type ++ [])) := by
    simp [DataW.weights, ht, DataW.weightsEach]
  rw [e]; simp [hn])
section
variable {H : Type} {enc : TypeId × Value → H} {w : World}
set_option maxRecDepth 100000 in
theorem open_act15 {n : Nat} {cs : List Value} {x : DataW H × List MemPlace} (h : DataW.trod enc Try.prog w 0 (fun _ => true) true n 35 cs = some x) (hs : Sz 35 x.1) :
    ∃ (A : Act) (ai : Option Addr) (ci : Nat), cs = [.int .i64 A.k, .int .u16 A.p.1, .int .u32 A.p.2, .slice ai A.l.length ci] ∧ PidRow w ai A.l ∧ (-9223372036854775808 ≤ A.k ∧ A.k ≤ 9223372036854775807) ∧ (0 ≤ A.p.1 ∧ A.p.1 < 65536 ∧ 0 ≤ A.p.2 ∧ A.p.2 < 4294967296) ∧ WfPids A.l ∧ A.l.length ≤ 17592186044416 := by
  obtain ⟨y0, y1, y2, m, hx, hl, h0, h1, h2⟩ := trod_struct3 Try.underlying35 h
  rw [cells35] at hl
  obtain ⟨c0, c1, c2, c3, rfl⟩ : ∃ c0 c1 c2 c3, cs = [c0, c1, c2, c3] := by
    rcases cs with _ | ⟨c0, _ | ⟨c1, _ | ⟨c2, _ | ⟨c3, _ | ⟨c4, r⟩⟩⟩⟩⟩
    · simp at hl
    · simp at hl
    · simp at hl
    · simp at hl
    · exact ⟨c0, c1, c2, c3, rfl⟩
    · simp at hl
  rw [hx] at hs
  have hs2 := Sz.field hs Try.underlying35
  have e0 : (([c0, c1, c2, c3] : List Value).drop 0).take (Try.prog.cellsOf 3) = [c0] := by rw [cells3]; rfl
  have e1 : (([c0, c1, c2, c3] : List Value).drop 1).take (Try.prog.cellsOf 32) = [c1, c2] := by rw [cells36]; rfl
  have e2 : (([c0, c1, c2, c3] : List Value).drop 3).take (Try.prog.cellsOf 33) = [c3] := by rw [cells23]; rfl
  obtain ⟨i, hi, _, wi⟩ := DataW.trod_int Try.underlying3 (e0 ▸ h0)
  cases hi
  obtain ⟨p, q, hpq, b0, b1, b2, b3⟩ := open_pid (x := y1) (e1 ▸ h1)
  simp at hpq
  obtain ⟨rfl, rfl⟩ := hpq
  obtain ⟨ai, ci, l, rfl, hr, hw, hb⟩ := open_pids (x := y2) (e2 ▸ h2) hs2
  have bk := bounds_i64 wi
  exact ⟨⟨i, (p, q), l⟩, ai, ci, rfl, hr, ⟨by simp only; omega, by simp only; omega⟩, ⟨b0, b1, b2, b3⟩, hw, hb⟩
set_option maxRecDepth 100000 in
theorem open_acts15 {base : Nat} {v : Value} {d : DataW H} {p : List MemPlace} (hv : Value.okWide Try.prog w .any base 22 v) (h : DataW.Trod enc Try.prog w 0 (fun _ => true) true 22 v d p) (hs : Sz 22 d) :
    ∃ (a : Option Addr) (c : Nat) (xs : List Act), v = .slice a xs.length c ∧ ActRow w a xs ∧ WfActs xs ∧ xs.length ≤ 17592186044416 ∧ xs.length ≤ c := by
  obtain ⟨a0, len0, cap0, rfl⟩ := Go.WideShapes.okWide_slice Try.underlying22 hv
  have hcap := slice_cap Try.underlying22 h
  obtain ⟨fuel, hf⟩ := h
  rcases open_slice (x := (d, p)) Try.underlying22 (by simpa [Value.cells] using hf) with ⟨hcs, _⟩ | ⟨a, len, cap, m, k, D, Pl, hcs, _, hl, hm, hmm, hx, hel⟩
  · cases hcs
    exact ⟨none, 0, [], rfl, .inl rfl, (by intro x hx; cases hx), by simp, Nat.le_refl _⟩
  · cases hcs
    simp only [if_true] at hmm
    subst hmm
    rw [cells35] at hel
    have hd := congrArg Prod.fst hx
    simp only at hd
    rw [hd] at hs
    obtain ⟨hw, hse⟩ := hs.slice Try.underlying22
    rw [bytes35] at hw
    simp only [List.length_map, List.length_range] at hw
    have hlen : len0 ≤ 17592186044416 := by unfold reachBytes at hw; omega
    have hex : ∀ i, ∃ A : Act, i < len0 → ∃ ai ci, w.cell? (a.add (i * 4)) = some (.int .i64 A.k) ∧ w.cell? ((a.add (i * 4)).add 1) = some (.int .u16 A.p.1) ∧ w.cell? ((a.add (i * 4)).add 2) = some (.int .u32 A.p.2) ∧ w.cell? ((a.add (i * 4)).add 3) = some (.slice ai A.l.length ci) ∧ PidRow w ai A.l ∧ (-9223372036854775808 ≤ A.k ∧ A.k ≤ 9223372036854775807) ∧ (0 ≤ A.p.1 ∧ A.p.1 < 65536 ∧ 0 ≤ A.p.2 ∧ A.p.2 < 4294967296) ∧ WfPids A.l ∧ A.l.length ≤ 17592186044416 := by
      intro i
      by_cases hi : i < len0
      · obtain ⟨cs', h1, h2⟩ := hel i (by omega)
        obtain ⟨A, ai, ci, rfl, g1, g2, g3, g4, g5⟩ := open_act15 h2 (hse _ (List.mem_map.2 ⟨i, by simpa using hi, rfl⟩))
        obtain ⟨_, _, hc⟩ := World.cells?_some h1
        exact ⟨A, fun _ => ⟨ai, ci, by simpa [Addr.add] using hc 0 (by omega), by simpa using hc 1 (by omega), by simpa using hc 2 (by omega), by simpa using hc 3 (by omega), g1, g2, g3, g4, g5⟩⟩
      · exact ⟨⟨0, (0, 0), []⟩, fun h => absurd h hi⟩
    obtain ⟨f, hf⟩ := Classical.axiomOfChoice hex
    refine ⟨some a, m, (List.range len0).map f, by simp, ?_, ?_, by simpa using hlen, by simpa using hl⟩
    · by_cases h0 : len0 = 0
      · subst h0; exact .inl rfl
      · obtain ⟨_, _, ha, _⟩ := hf 0 (by omega)
        have hsp : a.spot = none := by simpa [Addr.add] using World.cell?_spot ha
        obtain ⟨b, off, sp⟩ := a
        simp only at hsp
        subst hsp
        refine .inr ⟨b, off, rfl, ?_, fun i hi => ?_⟩
        · have := World.block_lt_of_cell? w _ ha
          simpa [addr_add] using this
        · have hi' : i < len0 := by simpa using hi
          obtain ⟨ai, ci, g1, g2, g3, g4, g5, _⟩ := hf i hi'
          rw [addr_add] at g1
          rw [addr_add, addr_add] at g2 g3 g4
          exact ⟨ai, ci, by simpa using g1, by simpa using g2, by simpa using g3, by simpa using g4, by simpa using g5⟩
    · intro x hx'
      obtain ⟨i, hi, rfl⟩ := List.mem_map.1 hx'
      obtain ⟨_, _, _, _, _, _, _, g⟩ := hf i (by simpa using hi)
      exact g
end
end Go.Proofs.Ytjjahefedpfnaaa
