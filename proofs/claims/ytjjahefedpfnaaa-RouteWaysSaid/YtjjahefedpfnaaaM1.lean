import Derived.Test.YtjjahefedpfnaaaBA
import Derived.Maps.RangeRun
import Derived.Maps.RangeWalk
namespace Go.Proofs.Ytjjahefedpfnaaa
open Go.RowKit
open Go.ChangeMaps (setBlock)

/-- 'range' over the map in block r under way, its iterator in block t: L all, left what is still to come -/
def RangeIs {α β : Type} (w : World) (r t : Nat) (ke : α → Value) (ve : β → Value) (L left : List (α × β)) : Prop :=
  ∃ es clock since seen, w.heap[r]? = some (.map es clock) ∧ es.toList.map (fun e => (e.key, e.val)) = L.map (fun p => (ke p.1, ve p.2)) ∧ bornOk es clock ∧
    w.heap[t]? = some (.mapIter (some r) since seen clock) ∧ (∀ x ∈ es.toList, x.born < since) ∧ since ≤ clock ∧
    (es.toList.filter fun e => !seen.contains e.born).map (fun e => (e.key, e.val)) = left.map (fun p => (ke p.1, ve p.2))

section
set_option linter.unusedSectionVars false
variable {α β : Type} [DecidableEq α] {ke : α → Value} {ve : β → Value} {P : Program} {K : TypeId} {w : World} {r t : Nat} {L left : List (α × β)}

theorem RangeIs.map (h : RangeIs w r t ke ve L left) : MapIs w r ke ve L := by
  obtain ⟨es, clock, since, seen, h1, h2, h3, _⟩ := h
  exact ⟨es, clock, h1, h2, h3⟩
theorem RangeIs.lt (h : RangeIs w r t ke ve L left) : t < w.heap.size := by
  obtain ⟨es, clock, since, seen, _, _, _, h1, _⟩ := h
  exact (Array.getElem?_eq_some_iff.1 h1).1
theorem RangeIs.ne (h : RangeIs w r t ke ve L left) : t ≠ r := by
  obtain ⟨es, clock, since, seen, h0, _, _, h1, _⟩ := h
  intro e; subst e; rw [h0] at h1; cases h1
theorem RangeIs.same {w' : World} (h : RangeIs w r t ke ve L left) (h1 : w'.heap[r]? = w.heap[r]?) (h2 : w'.heap[t]? = w.heap[t]?) : RangeIs w' r t ke ve L left := by
  obtain ⟨es, clock, since, seen, a1, a2, a3, a4, a5⟩ := h
  exact ⟨es, clock, since, seen, h1.trans a1, a2, a3, h2.trans a4, a5⟩
theorem RangeIs.mut {F : Nat → Prop} {w' : World} (h : RangeIs w r t ke ve L left) (hm : Mut F w w') (hr : ¬ F r) (ht : ¬ F t) : RangeIs w' r t ke ve L left :=
  h.same (hm.block r h.map.lt hr) (hm.block t h.lt ht)
theorem RangeIs.ext {w' : World} (h : RangeIs w r t ke ve L left) (hb : Below w.heap.size w w') : RangeIs w' r t ke ve L left :=
  h.same (hb.block _ h.map.lt) (hb.block _ h.lt)

theorem MapIs.range (h : MapIs w r ke ve L) {ty K e : TypeId} (ht : P.underlying ty = some (.map K e)) :
    ∃ w', (Instr.range ty (.map (some r))).run P w = .ok (.pointer (some ⟨w.heap.size, 0, none⟩)) w' ∧ RangeIs w' r w.heap.size ke ve L L ∧ Below w.heap.size w w' := by
  have hlt := h.lt
  obtain ⟨es, clock, hb, he, hbn⟩ := h
  refine ⟨_, run_range_map w ty K e r es clock ht hb, ⟨es, clock, clock, #[], ((MapKept.heap_alloc w _).2 r hlt).trans hb, he, hbn, (MapKept.heap_alloc w _).1, hbn.2, Nat.le_refl _, ?_⟩, (Below.refl _ _).alloc (Nat.le_refl _) _⟩
  rw [List.filter_eq_self.2 (by simp)]; exact he

theorem filter_push (seen : Array Nat) (es : List MapEntry) (b : Nat) : (es.filter fun e => !(seen.push b).contains e.born) = (es.filter fun e => !seen.contains e.born).filter fun e => e.born != b := by
  rw [List.filter_filter]
  congr 1
  funext e
  by_cases hb : e.born = b <;> simp [Array.contains_push, bne, hb]
theorem filter_split {s u : List MapEntry} {e : MapEntry} (hn : ((s ++ e :: u).map (·.born)).Nodup) : (s ++ e :: u).filter (fun x => x.born != e.born) = s ++ u := by
  rw [List.map_append, List.map_cons, List.nodup_append] at hn
  obtain ⟨_, h2, h3⟩ := hn
  rw [List.nodup_cons] at h2
  have hs : s.filter (fun x => x.born != e.born) = s := List.filter_eq_self.2 fun x hx => by
    have := h3 x.born (List.mem_map_of_mem hx) e.born (by simp)
    simpa using this
  have hu : u.filter (fun x => x.born != e.born) = u := List.filter_eq_self.2 fun x hx => by
    have : x.born ≠ e.born := fun hq => h2.1 (hq ▸ List.mem_map_of_mem hx)
    simpa using this
  rw [List.filter_append, List.filter_cons, hs, hu]
  simp

/-- the step -/
theorem RangeIs.next (h : RangeIs w r t ke ve L left) (ty : TypeId) :
    (left = [] ∧ (Instr.next (.pointer (some ⟨t, 0, none⟩)) false ty).run P w = .ok (.tuple #[.bool false]) w) ∨
    ∃ (p : α × β) (s u : List (α × β)) (w' : World), left = s ++ p :: u ∧ (Instr.next (.pointer (some ⟨t, 0, none⟩)) false ty).run P w = .ok (.tuple #[.bool true, ke p.1, ve p.2]) w' ∧
      RangeIs w' r t ke ve L (s ++ u) ∧ But t w w' ∧ (Instr.entry (.pointer (some ⟨t, 0, none⟩))).run P w' = .ok (.tuple #[ke p.1, ve p.2]) w' := by
  have hne := h.ne
  obtain ⟨es, clock, since, seen, h1, h2, h3, h4, h5, h6, h7⟩ := h
  rcases run_next_at (P := P) w ty t r since clock seen es clock h4 h1 h5 h6 with ⟨h0, hrun⟩ | ⟨e, he, w1, hal, hrun⟩
  · refine .inl ⟨?_, hrun⟩
    have : (leftOf es seen).toList = [] := by rw [← Array.length_toList] at h0; exact List.length_eq_zero_iff.1 h0
    unfold leftOf at this
    rw [Array.toList_filter] at this
    rw [this] at h7
    exact List.map_eq_nil_iff.1 h7.symm
  · right
    unfold leftOf at he
    rw [Array.toList_filter] at he
    obtain ⟨s, u, hsu⟩ := List.append_of_mem he
    have hes : e ∈ es.toList := (List.mem_filter.1 he).1
    rw [hsu] at h7
    rw [List.map_append, List.map_cons] at h7
    obtain ⟨s', q', hl, hs', hq'⟩ := List.map_eq_append_iff.1 h7.symm
    obtain ⟨p, u', rfl, hp, hu'⟩ := List.map_eq_cons_iff.1 hq'
    have hk : e.key = ke p.1 := (congrArg Prod.fst hp).symm
    have hv : e.val = ve p.2 := (congrArg Prod.snd hp).symm
    rw [hk, hv] at hrun
    have hw1 : But t w w1 ∧ w1.heap = w.heap := by rcases hal with rfl | rfl <;> exact ⟨⟨rfl, rfl, rfl, rfl, fun _ _ => rfl⟩, rfl⟩
    have htlt : t < w1.heap.size := by rw [hw1.2]; exact (Array.getElem?_eq_some_iff.1 h4).1
    have hset : (setBlock w1 t (.mapIter (some r) since (seen.push e.born) clock)).heap[t]? = some (.mapIter (some r) since (seen.push e.born) clock) := by
      simp [setBlock, htlt]
    have hrr : (setBlock w1 t (.mapIter (some r) since (seen.push e.born) clock)).heap[r]? = some (.map es clock) := by
      rw [show (setBlock w1 t (.mapIter (some r) since (seen.push e.born) clock)).heap[r]? = w1.heap[r]? by simp [setBlock, hne], hw1.2, h1]
    refine ⟨p, s', u', _, hl, hrun, ⟨es, clock, since, seen.push e.born, hrr, h2, h3, hset, h5, h6, ?_⟩, ?_, ?_⟩
    · rw [filter_push, hsu, filter_split, List.map_append, List.map_append, hs', hu']
      have hn := h3.1
      exact List.Nodup.sublist (List.Sublist.map _ (by rw [← hsu]; exact List.filter_sublist)) hn
    · refine ⟨hw1.1.os, hw1.1.tape, hw1.1.output, by simp [setBlock, hw1.2], fun k hk => ?_⟩
      rw [show (setBlock w1 t (.mapIter (some r) since (seen.push e.born) clock)).heap[k]? = w1.heap[k]? by simp [setBlock, Ne.symm hk], hw1.2]
    · rw [← hk, ← hv]
      exact run_entry_at _ t r since seen es clock e hset hrr hes h3.1

theorem filter_modify {p : MapEntry → Bool} {f : MapEntry → MapEntry} : ∀ (l : List MapEntry) (j : Nat), (∀ x, l[j]? = some x → p x = false ∧ p (f x) = false) → (l.modify j f).filter p = l.filter p
  | [], j, _ => by simp
  | x :: l, 0, h => by
    obtain ⟨h1, h2⟩ := h x rfl
    simp [List.modify_zero_cons, List.filter_cons, h1, h2]
  | x :: l, j + 1, h => by
    rw [List.modify_succ_cons, List.filter_cons, List.filter_cons, filter_modify l j (fun y hy => h y (by simpa using hy))]

/-- a store at a key that is there and has been met -/
theorem RangeIs.update (h : RangeIs w r t ke ve L left) (kk : KeyOk P K ke) (hinj : ∀ x y, ke x = ke y → x = y) {ty e : TypeId} (ht : P.underlying ty = some (.map K e)) (x : α) (v : β) (hx : (look x L).isSome = true) (hl : ∀ p ∈ left, p.1 ≠ x) :
    ∃ w', (Instr.mapUpdate ty (.map (some r)) (ke x) (ve v)).run P w = .ok () w' ∧ RangeIs w' r t ke ve (ins x v L) left ∧ But r w w' := by
  have hne := h.ne
  obtain ⟨es, clock, since, seen, h1, h2, h3, h4, h5, h6, h7⟩ := h
  have hf := find_run (w := w) kk h2 x
  have hlk := lookI_look x L 0
  cases hq : lookI x L 0 with
  | none => rw [hq] at hlk; rw [← hlk] at hx; simp at hx
  | some q =>
    obtain ⟨j, u⟩ := q
    have hlt := lookI_lt hq
    obtain ⟨_, _, ⟨u', hu'⟩, hins⟩ := lookI_some hq
    simp only [Nat.sub_zero] at hu' hins hlt
    rw [hq] at hf
    have hj : ∃ e0, es[j]? = some e0 ∧ e0.key = ke x := by
      have : (es.toList.map (fun e => (e.key, e.val)))[j]? = some (ke x, ve u') := by rw [h2, List.getElem?_map, hu']; rfl
      rw [List.getElem?_map] at this
      cases hej : es.toList[j]? with
      | none => rw [hej] at this; simp at this
      | some e0 =>
        rw [hej] at this
        simp at this
        exact ⟨e0, by simpa using hej, this.1⟩
    obtain ⟨e0, hej, hek⟩ := hj
    obtain ⟨w', hrun, hM, hbut⟩ := MapIs.update (L := L) ⟨es, clock, h1, h2, h3⟩ kk ht x v
    have hw' : w' = { w with heap := w.heap.setIfInBounds r (.map (es.modify j fun e => { e with key := ke x, val := ve v }) clock) } := by
      have : (Instr.mapUpdate ty (.map (some r)) (ke x) (ve v)).run P w = .ok () { w with heap := w.heap.setIfInBounds r (.map (es.modify j fun e => { e with key := ke x, val := ve v }) clock) } := by
        simp [Instr.mapUpdate, run_underlying ht, MapKept.run_getObj_map h1, kk.check, hf, hej, hek, Instr.keyThatStays, kk.same, MapKept.run_setObj_map _ h1, Result.andThen]
      rw [this] at hrun
      cases hrun
      rfl
    refine ⟨w', hrun, ?_, hbut⟩
    have hmem : e0 ∈ es.toList := by
      have : es.toList[j]? = some e0 := by simpa using hej
      exact List.mem_of_getElem? this
    have hseen : seen.contains e0.born = true := by
      cases hc : seen.contains e0.born
      · exfalso
        have : (e0.key, e0.val) ∈ left.map (fun p => (ke p.1, ve p.2)) := by
          rw [← h7]
          exact List.mem_map_of_mem (f := fun e : MapEntry => (e.key, e.val)) (List.mem_filter.2 ⟨hmem, by rw [hc]; rfl⟩)
        obtain ⟨p, hp, hpe⟩ := List.mem_map.1 this
        exact hl p hp (hinj _ _ ((congrArg Prod.fst hpe).trans hek))
      · rfl
    have hrlt : r < w.heap.size := (Array.getElem?_eq_some_iff.1 h1).1
    obtain ⟨es', clock', g1, g2, g3⟩ := hM
    have hes : es' = (es.modify j fun e => { e with key := ke x, val := ve v }) ∧ clock' = clock := by
      rw [hw'] at g1
      simp [hrlt] at g1
      exact ⟨g1.1.symm, g1.2.symm⟩
    obtain ⟨rfl, rfl⟩ := hes
    refine ⟨_, _, since, seen, g1, g2, g3, (hbut.block t hne).trans h4, ?_, h6, ?_⟩
    · intro y hy
      simp only [Array.toList_modify] at hy
      obtain ⟨i, hi⟩ := List.mem_iff_getElem?.1 hy
      rw [List.getElem?_modify] at hi
      cases hyi : es.toList[i]? with
      | none => rw [hyi] at hi; simp at hi
      | some z =>
        rw [hyi] at hi
        have hz := h5 z (List.mem_of_getElem? hyi)
        have : y.born = z.born := by
          simp at hi
          rw [← hi]
          split <;> rfl
        rw [this]; exact hz
    · rw [Array.toList_modify, filter_modify, h7]
      intro y hy
      have : y = e0 := by
        have h8 : es.toList[j]? = some e0 := by simpa using hej
        rw [hy] at h8; exact Option.some.inj h8
      subst this
      exact ⟨by simp only [hseen]; rfl, by simp only [hseen]; rfl⟩
end

section
variable {α β : Type} [DecidableEq α] {ke : α → Value} {ve : β → Value} {P : Program} {w : World} {ops : Array Oper} {rest : List Oper} {o : Oper} {a : Act} {Q : Exit → Act → World → Prop} {r t : Nat} {L left : List (α × β)}
theorem wpList_range_is (hM : MapIs w r ke ve L) {ty K e : TypeId} (ht : P.underlying ty = some (.map K e)) {m : Operand} (hg : o.guard = none) (hop : o.op = Op.range ty m) (hm : a.eval m = .map (some r))
    (hK : ∀ w', RangeIs w' r w.heap.size ke ve L L → Below w.heap.size w w' → wpList P ops Q rest (a.put o.dst (.pointer (some ⟨w.heap.size, 0, none⟩))) w') : wpList P ops Q (o :: rest) a w := by
  refine wpList_plain hg fun K' hK' => ?_
  obtain ⟨w', hrun, r1, r2⟩ := hM.range ht
  unfold Oper.wp
  simp [execOp, hop, hm, hrun, Result.andThen]
  exact hK' _ _ (hK w' r1 r2)
theorem wpList_next_is (h : RangeIs w r t ke ve L left) {it : Operand} (hg : o.guard = none) (hop : o.op = Op.next it false) (hit : a.eval it = .pointer (some ⟨t, 0, none⟩))
    (hDone : Hid (left = []) → wpList P ops Q rest (a.put o.dst (.tuple #[.bool false])) w)
    (hMore : ∀ (p : α × β) (s u : List (α × β)) (w' : World), Hid (left = s ++ p :: u) → RangeIs w' r t ke ve L (s ++ u) → But t w w' → (Instr.entry (.pointer (some ⟨t, 0, none⟩))).run P w' = .ok (.tuple #[ke p.1, ve p.2]) w' →
      wpList P ops Q rest (a.put o.dst (.tuple #[.bool true, ke p.1, ve p.2])) w') : wpList P ops Q (o :: rest) a w := by
  refine wpList_plain hg fun K' hK' => ?_
  unfold Oper.wp
  rcases h.next (P := P) o.type with ⟨hl, hrun⟩ | ⟨p, s, u, w', hl, hrun, hR, hB, hE⟩
  · simp [execOp, hop, hit, hrun, Result.andThen]
    exact hK' _ _ (hDone hl)
  · simp [execOp, hop, hit, hrun, Result.andThen]
    exact hK' _ _ (hMore p s u w' hl hR hB hE)
end
end Go.Proofs.Ytjjahefedpfnaaa
