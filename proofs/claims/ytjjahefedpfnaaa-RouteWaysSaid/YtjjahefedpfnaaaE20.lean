import Derived.Test.YtjjahefedpfnaaaE19
namespace Go.Proofs.Ytjjahefedpfnaaa
open Go.RowKit
theorem OwnP.made1 (w : World) (x y : Int) {base : Nat} (hb : base ≤ w.heap.size) : OwnP (w.alloc (.cells #[.int .u16 x, .int .u32 y] 32)) base (.slice (some ⟨w.heap.size, 0, none⟩) 1 1) [(x, y)] :=
  ⟨rfl, .inr ⟨w.heap.size, 1, #[.int .u16 x, .int .u32 y], rfl, hb, heap_alloc_new w _, Nat.le_refl _, by unfold maxLen; omega, rfl, rfl⟩⟩
theorem OwnP.head {w : World} {base : Nat} {v : Value} {xs : List Pid} (h : OwnP w base v xs) (h0 : xs ≠ []) : ∃ g c, v = .slice (some ⟨g, 0, none⟩) xs.length c ∧ PidRow w (some ⟨g, 0, none⟩) xs := by
  rcases h.2 with ⟨rfl, hn⟩ | ⟨g, cap, cur, rfl, hb, rest⟩
  · exact absurd (List.length_eq_zero_iff.1 hn) h0
  · obtain ⟨a, c, e, hr, _⟩ := h.row
    cases e
    exact ⟨g, cap, rfl, hr⟩
theorem PidRow.prefix {w : World} {a : Option Addr} {xs l : List Pid} (h : PidRow w a xs) (hp : l <+: xs) : PidRow w a l := by
  obtain ⟨t, rfl⟩ := hp
  rcases h with h | ⟨b, off, rfl, hlt, hc⟩
  · exact .inl (List.append_eq_nil_iff.1 h).1
  · refine .inr ⟨b, off, rfl, hlt, fun i hi => ?_⟩
    have := hc i (by simp; omega)
    rw [List.getElem_append_left hi] at this
    exact this
/-- what stands at the head of an own row, or elsewhere, is as it was -/
def Keeps (w w' : World) (xs : List Pid) : Prop := ∀ (b : Nat) (l : List Pid), l <+: xs → PidRow w (some ⟨b, 0, none⟩) l → PidRow w' (some ⟨b, 0, none⟩) l
theorem keep_appendP {w : World} {base : Nat} {v : Value} {xs ys : List Pid} (hown : OwnP w base v xs) {a : Option Addr} {c : Nat} (hy : PidRow w a ys) (hlen : xs.length + ys.length ≤ 1099511627776) (hbase : base ≤ w.heap.size) (ty : TypeId) :
    ∃ v' w', (Builtin.append_ #[33, 33] ty #[v, .slice a ys.length c]).run Try.prog w = .ok v' w' ∧ OwnP w' base v' (xs ++ ys) ∧ w.grownBy w' v.ownBlock ∧ Keeps w w' xs := by
  obtain ⟨v', w', hr, h2, h3, h4⟩ := run_appendP hown (c := c) hy hlen hbase ty
  refine ⟨v', w', hr, h2, h3, fun b l hl hrow => ?_⟩
  by_cases hl0 : l = []
  · exact .inl hl0
  have hlt : b < w.heap.size := by
    rcases hrow with h | ⟨b', off, e, hb', _⟩
    · exact absurd h hl0
    · cases e; exact hb'
  by_cases hv : v.ownBlock = some b
  · rcases hown.2 with ⟨rfl, hn⟩ | ⟨g, cap, cur, rfl, hb, hg, hnc, hcm, hcs, htake⟩
    · cases hv
    · have hgb : g = b := by simpa [Value.ownBlock] using hv
      subst hgb
      obtain ⟨i0, hi, hz0, hz1, hz2⟩ := info_parts info36
      rcases hy with rfl | ⟨b2, off2, rfl, hlt2, hc2⟩
      · have : v' = .slice (some ⟨g, 0, none⟩) xs.length cap ∧ w' = w := by
          have e : (Builtin.append_ #[33, 33] ty #[.slice (some ⟨g, 0, none⟩) xs.length cap, .slice a ([] : List Pid).length c]).run Try.prog w = .ok (.slice (some ⟨g, 0, none⟩) xs.length cap) w := by
            cases a <;> simp [Builtin.append_, run_underlying Try.underlying33, sizeOf, typeInfo, hi, Builtin.lenOf, Builtin.firstCells, loadCells, loadCellsFrom, hnc, storeCells]
          rw [e] at hr
          simp at hr; exact ⟨hr.1.symm, hr.2.symm⟩
        rw [this.2]; exact hrow
      · by_cases hroom : xs.length + ys.length ≤ cap
        · have e := run_append_room (P := Try.prog) w 33 ty 32 i0 Try.underlying33 hi g xs.length cap cur hg ⟨b2, off2, none⟩ ys.length c (pidCells ys) (by rw [hz1]; exact pidCells_length ys) (PidRow.cells hc2) (pidCells_one ys) hroom (by rw [hz1, pidCells_length, hcs, ← Nat.add_mul]; exact Nat.mul_le_mul_right _ hroom)
          rw [e] at hr
          simp only [Result.ok.injEq] at hr
          obtain ⟨rfl, rfl⟩ := hr
          obtain ⟨g', c', e', hr'⟩ := h2.head (by intro h; have := (List.append_eq_nil_iff.1 h).1; subst this; exact hl0 (List.prefix_nil.1 hl))
          simp only [Value.slice.injEq, Option.some.injEq, Addr.mk.injEq] at e'
          obtain ⟨⟨rfl, _⟩, _⟩ := e'
          exact hr'.prefix (hl.trans (List.prefix_append _ _))
        · have holds : ∀ j u, (pidCells xs)[j]? = some u → w.cell? ((⟨g, 0, none⟩ : Addr).add j) = some u := World.ownsRow.cells (g := g) hown rfl
          have e := run_append_grow (P := Try.prog) w 33 ty 32 i0 _ Try.underlying33 hi hz0 ⟨g, 0, none⟩ xs.length cap (pidCells xs) (by rw [hz1]; exact pidCells_length xs) holds ⟨b2, off2, none⟩ ys.length c (pidCells ys) (by rw [hz1]; exact pidCells_length ys) (PidRow.cells hc2) (by omega) (by omega) (growslice_fits (by omega) (by rw [hz2]; omega))
          rw [e] at hr
          simp only [Result.ok.injEq] at hr
          obtain ⟨-, rfl⟩ := hr
          exact hrow.ext ((Below.refl _ _).drew.alloc (Nat.le_refl _) _)
  · have hb := h3.block b hlt (fun e => hv e.symm)
    rcases hrow with h | ⟨b', off, e, hb', hc⟩
    · exact absurd h hl0
    · cases e
      refine .inr ⟨_, _, rfl, by have := h3.size; omega, fun i hi => ?_⟩
      obtain ⟨g1, g2⟩ := hc i hi
      exact ⟨(World.cell?_of_block (w := w) hb).trans g1, (World.cell?_of_block (w := w) hb).trans g2⟩
theorem step_appendK {w : World} {o : Oper} {a : Go.Act} {K : Go.Act → World → Prop} {Q : Exit → Go.Act → World → Prop} {y : Nat → Option Bool} {s x : Operand} {base : Nat} {v : Value} {xs ys : List Pid} {ad : Option Addr} {n c : Nat} (hw : Region.wanted o y = true) (hown : OwnP w base v xs) (hn : Hid (n = ys.length)) (hy : PidRow w ad ys)
    (hlen : xs.length + ys.length ≤ 1099511627776) (hbase : base ≤ w.heap.size)
    (ho : o.op = .call { callee := .builtin .append, args := #[s, x], argTypes := #[33, 33] }) (hs : a.eval s = v) (hx : a.eval x = .slice ad n c)
    (h : ∀ v' w', OwnP w' base v' (xs ++ ys) → w.grownBy w' v.ownBlock → Keeps w w' xs → K (a.put o.dst v') w') : if Region.wanted o y = true then Oper.wp Try.prog o a w K Q else K (a.put o.dst undef) w := by
  rw [if_pos hw]
  obtain ⟨v', w', hr, h2, h3, h4⟩ := keep_appendP hown (c := c) hy hlen hbase o.type
  exact Lib.wp_append_run w s x 33 33 ho _ _ hs (by rw [hx, hn.out]) v' w' hr (h v' w' h2 h3 h4)
theorem down_is {r : Nat → Int} {V : View} {am al ad : Option Addr} {cm cl cd : Nat} {x y : Int} {w : World} {D : List Pid} {N : Nat} (h : Hid (downP V (hasRu r) (x, y) = D)) (hn : Hid (D.length = N)) (hV : ViewR w am al ad V) (hs : Small V) :
    Calls Try.prog 49 #[viewV V am al ad cm cl cd, .agg (RL r).toArray, .agg #[.int .u16 x, .int .u32 y]] w fun e w' => ∃ a c, e = .returned (.slice a N c) ∧ PidRow w' a D ∧ Below w.heap.size w w' := by
  refine (down_any r V am al ad cm cl cd x y w hV hs).mono ?_
  rintro e w' ⟨v, rfl, hown, hb⟩
  obtain ⟨a, c, rfl, hrow, -⟩ := hown.row
  rw [h.out, hn.out] at *
  rw [h.out] at hrow
  exact ⟨a, c, rfl, hrow, hb⟩
end Go.Proofs.Ytjjahefedpfnaaa
