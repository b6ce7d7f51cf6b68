import Derived.Test.YtjjahefedpfnaaaW5
import Derived.Lib.AppendZerosOnto
import Derived.Lib.SliceRun
namespace Go.Proofs.Ytjjahefedpfnaaa
open Go.RowKit

theorem info36 : (Try.prog.info? 32).map (fun i => (i.zero, i.size, i.bytes)) = some (some (.agg #[.int .u16 0, .int .u32 0]), 2, 8) := by kernel_rfl

def pidCells (xs : List Pid) : List Value := xs.flatMap fun p => [.int .u16 p.1, .int .u32 p.2]
theorem pidCells_length : ∀ (xs : List Pid), (pidCells xs).length = xs.length * 2
  | [] => rfl
  | p :: l => by
    have := pidCells_length l
    unfold pidCells at this ⊢
    simp only [List.flatMap_cons, List.length_append, List.length_cons, List.length_nil, this]
    omega
theorem pidCells_append (xs ys : List Pid) : pidCells (xs ++ ys) = pidCells xs ++ pidCells ys := by simp [pidCells]
theorem pidCells_get : ∀ (xs : List Pid) (i : Nat) (h : i < xs.length), (pidCells xs)[i * 2]? = some (.int .u16 xs[i].1) ∧ (pidCells xs)[i * 2 + 1]? = some (.int .u32 xs[i].2)
  | p :: l, 0, _ => by simp [pidCells]
  | p :: l, i + 1, h => by
    have := pidCells_get l i (by simpa using h)
    have e : pidCells (p :: l) = [.int .u16 p.1, .int .u32 p.2] ++ pidCells l := by simp [pidCells]
    rw [e, show (i + 1) * 2 = i * 2 + 2 by omega]
    constructor
    · rw [List.getElem?_append_right (by simp)]
      simpa using this.1
    · rw [List.getElem?_append_right (by simp)]
      simpa using this.2
theorem pidCells_one (xs : List Pid) : ∀ u ∈ pidCells xs, u.oneCell' = true := by
  intro u hu
  obtain ⟨p, _, hp⟩ := List.mem_flatMap.1 hu
  simp at hp
  rcases hp with rfl | rfl <;> rfl
theorem addr_add (b off n : Nat) : (⟨b, off, none⟩ : Addr).add n = ⟨b, off + n, none⟩ := by
  unfold Addr.add; split <;> simp_all
/-- the cells of a row, one by one -/
theorem PidRow.cells {w : World} {b off : Nat} {xs : List Pid} (hc : ∀ i (h : i < xs.length), w.cell? ⟨b, off + i * 2, none⟩ = some (.int .u16 xs[i].1) ∧ w.cell? ⟨b, off + i * 2 + 1, none⟩ = some (.int .u32 xs[i].2)) :
    ∀ j u, (pidCells xs)[j]? = some u → w.cell? ((⟨b, off, none⟩ : Addr).add j) = some u := by
  intro j u hu
  have hj : j < (pidCells xs).length := (List.getElem?_eq_some_iff.1 hu).1
  rw [pidCells_length] at hj
  rw [addr_add]
  have hi : j / 2 < xs.length := by omega
  obtain ⟨h1, h2⟩ := hc (j / 2) hi
  obtain ⟨g1, g2⟩ := pidCells_get xs (j / 2) hi
  rcases Nat.mod_two_eq_zero_or_one j with hm | hm
  · have e : j / 2 * 2 = j := by omega
    rw [e] at h1 g1
    rw [h1, ← g1, hu]
  · have e : j / 2 * 2 + 1 = j := by omega
    rw [e] at g2
    rw [show off + j = off + j / 2 * 2 + 1 by omega, h2, ← g2, hu]

/-- a slice value that owns a row of processes, from block base on -/
def OwnP (w : World) (base : Nat) (v : Value) (xs : List Pid) : Prop := w.ownsRow base 32 2 v xs.length (pidCells xs)
theorem OwnP.nil (w : World) (base : Nat) : OwnP w base (.slice none 0 0) [] := World.ownsRow_nil _ _ _ _
theorem OwnP.row {w : World} {base : Nat} {v : Value} {xs : List Pid} (h : OwnP w base v xs) : ∃ a c, v = .slice a xs.length c ∧ PidRow w a xs ∧ ∀ b off, a = some ⟨b, off, none⟩ → base ≤ b := by
  have hcells := fun g => World.ownsRow.cells (g := g) h
  rcases h.2 with ⟨rfl, hn⟩ | ⟨g, cap, cur, rfl, hb, hg, hnc, hcm, hcs, htake⟩
  · exact ⟨none, 0, by rw [hn], .inl (List.length_eq_zero_iff.1 hn), by simp⟩
  · refine ⟨_, cap, rfl, .inr ⟨g, 0, rfl, (Array.getElem?_eq_some_iff.1 hg).1, fun i hi => ?_⟩, fun b off e => by cases e; exact hb⟩
    obtain ⟨g1, g2⟩ := pidCells_get xs i hi
    have h1 := hcells g rfl _ _ g1
    have h2 := hcells g rfl _ _ g2
    rw [addr_add] at h1 h2
    exact ⟨h1, h2⟩
theorem OwnP.ext {w w' : World} {base : Nat} {v : Value} {xs : List Pid} (h : OwnP w base v xs) (hb : Below w.heap.size w w') : OwnP w' base v xs := by
  refine ⟨h.1, ?_⟩
  rcases h.2 with hn | ⟨g, cap, cur, rfl, hbb, hgg, rest⟩
  · exact .inl hn
  · exact .inr ⟨g, cap, cur, rfl, hbb, (hb.block g (Array.getElem?_eq_some_iff.1 hgg).1).trans hgg, rest⟩

theorem run_appendP {w : World} {base : Nat} {v : Value} {xs ys : List Pid} (hown : OwnP w base v xs) {a : Option Addr} {c : Nat} (hy : PidRow w a ys) (hlen : xs.length + ys.length ≤ 1099511627776) (hbase : base ≤ w.heap.size) (ty : TypeId) :
    ∃ v' w', (Builtin.append_ #[33, 33] ty #[v, .slice a ys.length c]).run Try.prog w = .ok v' w' ∧ OwnP w' base v' (xs ++ ys) ∧ w.grownBy w' v.ownBlock ∧ (v' = .slice none 0 0 ↔ v = .slice none 0 0 ∧ ys = []) := by
  obtain ⟨i0, hi, hz0, hz1, hz2⟩ := info_parts info36
  rcases hy with rfl | ⟨b, off, rfl, hlt, hc⟩
  · refine ⟨v, w, ?_, by simpa using hown, ⟨rfl, rfl, rfl, Nat.le_refl _, fun _ _ _ => rfl⟩, by simp⟩
    rcases hown.2 with ⟨rfl, hn⟩ | ⟨g, cap, cur, rfl, hb, hg, hnc, hcm, hcs, htake⟩
    · cases a <;> simp [Builtin.append_, run_underlying Try.underlying33, sizeOf, typeInfo, hi, Builtin.lenOf, Builtin.firstCells, loadCells, loadCellsFrom]
    · cases a <;> simp [Builtin.append_, run_underlying Try.underlying33, sizeOf, typeInfo, hi, Builtin.lenOf, Builtin.firstCells, loadCells, loadCellsFrom, hnc, storeCells]
  · obtain ⟨v', w', hr, h2, h3, h4⟩ := run_append_own (P := Try.prog) w base 33 ty 32 i0 _ 2 8 Try.underlying33 hi hz0 hz1 hz2 rfl (by decide) v xs.length (pidCells xs) hown ⟨b, off, none⟩ ys.length c (pidCells ys) (pidCells_length ys) (PidRow.cells hc) (pidCells_one ys) (by unfold maxLen; omega) (by omega) hbase
    refine ⟨v', w', hr, ?_, h3, ?_⟩
    · unfold OwnP; rw [List.length_append, pidCells_append]; exact h2
    · rw [h4, List.length_eq_zero_iff]

/-- 'append(out, ys...)' at the operation -/
theorem wpList_appendP {w : World} {ops : Array Oper} {rest : List Oper} {o : Oper} {a : Act} {Q : Exit → Act → World → Prop} {s x : Operand} {base : Nat} {v : Value} {xs ys : List Pid} (hown : OwnP w base v xs) {ad : Option Addr} {c : Nat} (hy : PidRow w ad ys)
    (hlen : xs.length + ys.length ≤ 1099511627776) (hbase : base ≤ w.heap.size)
    (hg : o.guard = none) (ho : o.op = .call { callee := .builtin .append, args := #[s, x], argTypes := #[33, 33] }) (hs : a.eval s = v) (hx : a.eval x = .slice ad ys.length c)
    (h : ∀ v' w', OwnP w' base v' (xs ++ ys) → w.grownBy w' v.ownBlock → (v' = .slice none 0 0 ↔ v = .slice none 0 0 ∧ ys = []) → wpList Try.prog ops Q rest (a.put o.dst v') w') : wpList Try.prog ops Q (o :: rest) a w := by
  obtain ⟨v', w', hr, h2, h3, h4⟩ := run_appendP hown (c := c) hy hlen hbase o.type
  exact Lib.wpList_append_run w hg s x 33 33 ho _ _ hs hx v' w' hr (h v' w' h2 h3 h4)

end Go.Proofs.Ytjjahefedpfnaaa
