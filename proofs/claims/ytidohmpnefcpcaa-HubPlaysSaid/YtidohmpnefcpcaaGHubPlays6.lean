/- Parts of the proof: M1 R4 R5 Shelf T1 P1 T2 S1 N1 KA KB KC KD KE KF KG. -/
import Derived.Maps.RangeRun
import Derived.Maps.RangeWalk
import Derived.Shelf.SlSortCmp.NoneTotal
import Derived.Lib.EndianBits
import Derived.Sort.OwnSortedInts
import Derived.RangeFuncNested
import Derived.RangeFuncBound
import Derived.RangeFuncCalls
import Derived.RangeFuncLeaves
import Derived.Shelf.Abstract
import Derived.Shelf.RegionOpen
import Derived.OwnWalkIn
import Derived.TacticsInMore
import Derived.LoopNIn
import Derived.LoopIn
import Derived.RegionIn
import Derived.Sort.MapsRangeIn
import Derived.Test.YtidohmpnefcpcaaKV
namespace Go.Proofs.Ytidohmpnefcpcaa
open Go.RowKit
open Go.ChangeMaps (setBlock)

/-- 'range' over the map in block r under way, its iterator in block t: L all, left what is still to come -/
def RangeIs {α β : Type} (w : World) (r t : Nat) (ke : α → Value) (ve : β → Value) (L left : List (α × β)) : Prop :=
  ∃ es clock since seen, w.heap[r]? = some (.map es clock) ∧ es.toList.map (fun e => (e.key, e.val)) = L.map (fun p => (ke p.1, ve p.2)) ∧ bornOk es clock ∧
    w.heap[t]? = some (.mapIter (some r) since seen clock) ∧ (∀ x ∈ es.toList, x.born < since) ∧ since ≤ clock ∧
    (es.toList.filter fun e => !seen.contains e.born).map (fun e => (e.key, e.val)) = left.map (fun p => (ke p.1, ve p.2))

section
set_option linter.unusedSectionVars false
variable {α β : Type} [DecidableEq α] {ke : α → Value} {ve : β → Value} {P : Program} {K : TypeId} {w : World} {r t : Nat} {L left : List (α × β)}

theorem RangeIs.map (h : RangeIs w r t ke ve L left) : MapIs w r ke ve L := by
  obtain ⟨es, clock, since, seen, h1, h2, h3, _⟩ := h
  exact ⟨es, clock, h1, h2, h3⟩
theorem RangeIs.lt (h : RangeIs w r t ke ve L left) : t < w.heap.size := by
  obtain ⟨es, clock, since, seen, _, _, _, h1, _⟩ := h
  exact (Array.getElem?_eq_some_iff.1 h1).1
theorem RangeIs.ne (h : RangeIs w r t ke ve L left) : t ≠ r := by
  obtain ⟨es, clock, since, seen, h0, _, _, h1, _⟩ := h
  intro e; subst e; rw [h0] at h1; cases h1
theorem RangeIs.same {w' : World} (h : RangeIs w r t ke ve L left) (h1 : w'.heap[r]? = w.heap[r]?) (h2 : w'.heap[t]? = w.heap[t]?) : RangeIs w' r t ke ve L left := by
  obtain ⟨es, clock, since, seen, a1, a2, a3, a4, a5⟩ := h
  exact ⟨es, clock, since, seen, h1.trans a1, a2, a3, h2.trans a4, a5⟩
theorem RangeIs.mut {F : Nat → Prop} {w' : World} (h : RangeIs w r t ke ve L left) (hm : Mut F w w') (hr : ¬ F r) (ht : ¬ F t) : RangeIs w' r t ke ve L left :=
  h.same (hm.block r h.map.lt hr) (hm.block t h.lt ht)
theorem RangeIs.ext {w' : World} (h : RangeIs w r t ke ve L left) (hb : Below w.heap.size w w') : RangeIs w' r t ke ve L left :=
  h.same (hb.block _ h.map.lt) (hb.block _ h.lt)

theorem MapIs.range (h : MapIs w r ke ve L) {ty K e : TypeId} (ht : P.underlying ty = some (.map K e)) :
    ∃ w', (Instr.range ty (.map (some r))).run P w = .ok (.pointer (some ⟨w.heap.size, 0, none⟩)) w' ∧ RangeIs w' r w.heap.size ke ve L L ∧ Below w.heap.size w w' := by
  have hlt := h.lt
  obtain ⟨es, clock, hb, he, hbn⟩ := h
  refine ⟨_, run_range_map w ty K e r es clock ht hb, ⟨es, clock, clock, #[], ((MapKept.heap_alloc w _).2 r hlt).trans hb, he, hbn, (MapKept.heap_alloc w _).1, hbn.2, Nat.le_refl _, ?_⟩, (Below.refl _ _).alloc (Nat.le_refl _) _⟩
  rw [List.filter_eq_self.2 (by simp)]; exact he

theorem filter_push (seen : Array Nat) (es : List MapEntry) (b : Nat) : (es.filter fun e => !(seen.push b).contains e.born) = (es.filter fun e => !seen.contains e.born).filter fun e => e.born != b := by
  rw [List.filter_filter]
  congr 1
  funext e
  by_cases hb : e.born = b <;> simp [Array.contains_push, bne, hb]
theorem filter_split {s u : List MapEntry} {e : MapEntry} (hn : ((s ++ e :: u).map (·.born)).Nodup) : (s ++ e :: u).filter (fun x => x.born != e.born) = s ++ u := by
  rw [List.map_append, List.map_cons, List.nodup_append] at hn
  obtain ⟨_, h2, h3⟩ := hn
  rw [List.nodup_cons] at h2
  have hs : s.filter (fun x => x.born != e.born) = s := List.filter_eq_self.2 fun x hx => by
    have := h3 x.born (List.mem_map_of_mem hx) e.born (by simp)
    simpa using this
  have hu : u.filter (fun x => x.born != e.born) = u := List.filter_eq_self.2 fun x hx => by
    have : x.born ≠ e.born := fun hq => h2.1 (hq ▸ List.mem_map_of_mem hx)
    simpa using this
  rw [List.filter_append, List.filter_cons, hs, hu]
  simp

/-- the step -/
theorem RangeIs.next (h : RangeIs w r t ke ve L left) (ty : TypeId) :
    (left = [] ∧ (Instr.next (.pointer (some ⟨t, 0, none⟩)) false ty).run P w = .ok (.tuple #[.bool false]) w) ∨
    ∃ (p : α × β) (s u : List (α × β)) (w' : World), left = s ++ p :: u ∧ (Instr.next (.pointer (some ⟨t, 0, none⟩)) false ty).run P w = .ok (.tuple #[.bool true, ke p.1, ve p.2]) w' ∧
      RangeIs w' r t ke ve L (s ++ u) ∧ But t w w' ∧ (Instr.entry (.pointer (some ⟨t, 0, none⟩))).run P w' = .ok (.tuple #[ke p.1, ve p.2]) w' := by
  have hne := h.ne
  obtain ⟨es, clock, since, seen, h1, h2, h3, h4, h5, h6, h7⟩ := h
  rcases run_next_at (P := P) w ty t r since clock seen es clock h4 h1 h5 h6 with ⟨h0, hrun⟩ | ⟨e, he, w1, hal, hrun⟩
  · refine .inl ⟨?_, hrun⟩
    have : (leftOf es seen).toList = [] := by rw [← Array.length_toList] at h0; exact List.length_eq_zero_iff.1 h0
    unfold leftOf at this
    rw [Array.toList_filter] at this
    rw [this] at h7
    exact List.map_eq_nil_iff.1 h7.symm
  · right
    unfold leftOf at he
    rw [Array.toList_filter] at he
    obtain ⟨s, u, hsu⟩ := List.append_of_mem he
    have hes : e ∈ es.toList := (List.mem_filter.1 he).1
    rw [hsu] at h7
    rw [List.map_append, List.map_cons] at h7
    obtain ⟨s', q', hl, hs', hq'⟩ := List.map_eq_append_iff.1 h7.symm
    obtain ⟨p, u', rfl, hp, hu'⟩ := List.map_eq_cons_iff.1 hq'
    have hk : e.key = ke p.1 := (congrArg Prod.fst hp).symm
    have hv : e.val = ve p.2 := (congrArg Prod.snd hp).symm
    rw [hk, hv] at hrun
    have hw1 : But t w w1 ∧ w1.heap = w.heap := by rcases hal with rfl | rfl <;> exact ⟨⟨rfl, rfl, rfl, rfl, fun _ _ => rfl⟩, rfl⟩
    have htlt : t < w1.heap.size := by rw [hw1.2]; exact (Array.getElem?_eq_some_iff.1 h4).1
    have hset : (setBlock w1 t (.mapIter (some r) since (seen.push e.born) clock)).heap[t]? = some (.mapIter (some r) since (seen.push e.born) clock) := by
      simp [setBlock, htlt]
    have hrr : (setBlock w1 t (.mapIter (some r) since (seen.push e.born) clock)).heap[r]? = some (.map es clock) := by
      rw [show (setBlock w1 t (.mapIter (some r) since (seen.push e.born) clock)).heap[r]? = w1.heap[r]? by simp [setBlock, hne], hw1.2, h1]
    refine ⟨p, s', u', _, hl, hrun, ⟨es, clock, since, seen.push e.born, hrr, h2, h3, hset, h5, h6, ?_⟩, ?_, ?_⟩
    · rw [filter_push, hsu, filter_split, List.map_append, List.map_append, hs', hu']
      have hn := h3.1
      exact List.Nodup.sublist (List.Sublist.map _ (by rw [← hsu]; exact List.filter_sublist)) hn
    · refine ⟨hw1.1.os, hw1.1.tape, hw1.1.output, by simp [setBlock, hw1.2], fun k hk => ?_⟩
      rw [show (setBlock w1 t (.mapIter (some r) since (seen.push e.born) clock)).heap[k]? = w1.heap[k]? by simp [setBlock, Ne.symm hk], hw1.2]
    · rw [← hk, ← hv]
      exact run_entry_at _ t r since seen es clock e hset hrr hes h3.1

theorem filter_modify {p : MapEntry → Bool} {f : MapEntry → MapEntry} : ∀ (l : List MapEntry) (j : Nat), (∀ x, l[j]? = some x → p x = false ∧ p (f x) = false) → (l.modify j f).filter p = l.filter p
  | [], j, _ => by simp
  | x :: l, 0, h => by
    obtain ⟨h1, h2⟩ := h x rfl
    simp [List.modify_zero_cons, List.filter_cons, h1, h2]
  | x :: l, j + 1, h => by
    rw [List.modify_succ_cons, List.filter_cons, List.filter_cons, filter_modify l j (fun y hy => h y (by simpa using hy))]

/-- a store at a key that is there and has been met -/
theorem RangeIs.update (h : RangeIs w r t ke ve L left) (kk : KeyOk P K ke) (hinj : ∀ x y, ke x = ke y → x = y) {ty e : TypeId} (ht : P.underlying ty = some (.map K e)) (x : α) (v : β) (hx : (look x L).isSome = true) (hl : ∀ p ∈ left, p.1 ≠ x) :
    ∃ w', (Instr.mapUpdate ty (.map (some r)) (ke x) (ve v)).run P w = .ok () w' ∧ RangeIs w' r t ke ve (ins x v L) left ∧ But r w w' := by
  have hne := h.ne
  obtain ⟨es, clock, since, seen, h1, h2, h3, h4, h5, h6, h7⟩ := h
  have hf := find_run (w := w) kk h2 x
  have hlk := lookI_look x L 0
  cases hq : lookI x L 0 with
  | none => rw [hq] at hlk; rw [← hlk] at hx; simp at hx
  | some q =>
    obtain ⟨j, u⟩ := q
    have hlt := lookI_lt hq
    obtain ⟨_, _, ⟨u', hu'⟩, hins⟩ := lookI_some hq
    simp only [Nat.sub_zero] at hu' hins hlt
    rw [hq] at hf
    have hj : ∃ e0, es[j]? = some e0 ∧ e0.key = ke x := by
      have : (es.toList.map (fun e => (e.key, e.val)))[j]? = some (ke x, ve u') := by rw [h2, List.getElem?_map, hu']; rfl
      rw [List.getElem?_map] at this
      cases hej : es.toList[j]? with
      | none => rw [hej] at this; simp at this
      | some e0 =>
        rw [hej] at this
        simp at this
        exact ⟨e0, by simpa using hej, this.1⟩
    obtain ⟨e0, hej, hek⟩ := hj
    obtain ⟨w', hrun, hM, hbut⟩ := MapIs.update (L := L) ⟨es, clock, h1, h2, h3⟩ kk ht x v
    have hw' : w' = { w with heap := w.heap.setIfInBounds r (.map (es.modify j fun e => { e with key := ke x, val := ve v }) clock) } := by
      have : (Instr.mapUpdate ty (.map (some r)) (ke x) (ve v)).run P w = .ok () { w with heap := w.heap.setIfInBounds r (.map (es.modify j fun e => { e with key := ke x, val := ve v }) clock) } := by
        simp [Instr.mapUpdate, run_underlying ht, MapKept.run_getObj_map h1, kk.check, hf, hej, hek, Instr.keyThatStays, kk.same, MapKept.run_setObj_map _ h1, Result.andThen]
      rw [this] at hrun
      cases hrun
      rfl
    refine ⟨w', hrun, ?_, hbut⟩
    have hmem : e0 ∈ es.toList := by
      have : es.toList[j]? = some e0 := by simpa using hej
      exact List.mem_of_getElem? this
    have hseen : seen.contains e0.born = true := by
      cases hc : seen.contains e0.born
      · exfalso
        have : (e0.key, e0.val) ∈ left.map (fun p => (ke p.1, ve p.2)) := by
          rw [← h7]
          exact List.mem_map_of_mem (f := fun e : MapEntry => (e.key, e.val)) (List.mem_filter.2 ⟨hmem, by rw [hc]; rfl⟩)
        obtain ⟨p, hp, hpe⟩ := List.mem_map.1 this
        exact hl p hp (hinj _ _ ((congrArg Prod.fst hpe).trans hek))
      · rfl
    have hrlt : r < w.heap.size := (Array.getElem?_eq_some_iff.1 h1).1
    obtain ⟨es', clock', g1, g2, g3⟩ := hM
    have hes : es' = (es.modify j fun e => { e with key := ke x, val := ve v }) ∧ clock' = clock := by
      rw [hw'] at g1
      simp [hrlt] at g1
      exact ⟨g1.1.symm, g1.2.symm⟩
    obtain ⟨rfl, rfl⟩ := hes
    refine ⟨_, _, since, seen, g1, g2, g3, (hbut.block t hne).trans h4, ?_, h6, ?_⟩
    · intro y hy
      simp only [Array.toList_modify] at hy
      obtain ⟨i, hi⟩ := List.mem_iff_getElem?.1 hy
      rw [List.getElem?_modify] at hi
      cases hyi : es.toList[i]? with
      | none => rw [hyi] at hi; simp at hi
      | some z =>
        rw [hyi] at hi
        have hz := h5 z (List.mem_of_getElem? hyi)
        have : y.born = z.born := by
          simp at hi
          rw [← hi]
          split <;> rfl
        rw [this]; exact hz
    · rw [Array.toList_modify, filter_modify, h7]
      intro y hy
      have : y = e0 := by
        have h8 : es.toList[j]? = some e0 := by simpa using hej
        rw [hy] at h8; exact Option.some.inj h8
      subst this
      exact ⟨by simp only [hseen]; rfl, by simp only [hseen]; rfl⟩
end

section
variable {α β : Type} [DecidableEq α] {ke : α → Value} {ve : β → Value} {P : Program} {w : World} {ops : Array Oper} {rest : List Oper} {o : Oper} {a : Act} {Q : Exit → Act → World → Prop} {r t : Nat} {L left : List (α × β)}
theorem wpList_range_is (hM : MapIs w r ke ve L) {ty K e : TypeId} (ht : P.underlying ty = some (.map K e)) {m : Operand} (hg : o.guard = none) (hop : o.op = Op.range ty m) (hm : a.eval m = .map (some r))
    (hK : ∀ w', RangeIs w' r w.heap.size ke ve L L → Below w.heap.size w w' → wpList P ops Q rest (a.put o.dst (.pointer (some ⟨w.heap.size, 0, none⟩))) w') : wpList P ops Q (o :: rest) a w := by
  refine wpList_plain hg fun K' hK' => ?_
  obtain ⟨w', hrun, r1, r2⟩ := hM.range ht
  unfold Oper.wp
  simp [execOp, hop, hm, hrun, Result.andThen]
  exact hK' _ _ (hK w' r1 r2)
theorem wpList_next_is (h : RangeIs w r t ke ve L left) {it : Operand} (hg : o.guard = none) (hop : o.op = Op.next it false) (hit : a.eval it = .pointer (some ⟨t, 0, none⟩))
    (hDone : Hid (left = []) → wpList P ops Q rest (a.put o.dst (.tuple #[.bool false])) w)
    (hMore : ∀ (p : α × β) (s u : List (α × β)) (w' : World), Hid (left = s ++ p :: u) → RangeIs w' r t ke ve L (s ++ u) → But t w w' → (Instr.entry (.pointer (some ⟨t, 0, none⟩))).run P w' = .ok (.tuple #[ke p.1, ve p.2]) w' →
      wpList P ops Q rest (a.put o.dst (.tuple #[.bool true, ke p.1, ve p.2])) w') : wpList P ops Q (o :: rest) a w := by
  refine wpList_plain hg fun K' hK' => ?_
  unfold Oper.wp
  rcases h.next (P := P) o.type with ⟨hl, hrun⟩ | ⟨p, s, u, w', hl, hrun, hR, hB, hE⟩
  · simp [execOp, hop, hit, hrun, Result.andThen]
    exact hK' _ _ (hDone hl)
  · simp [execOp, hop, hit, hrun, Result.andThen]
    exact hK' _ _ (hMore p s u w' hl hR hB hE)
end
end Go.Proofs.Ytidohmpnefcpcaa

namespace Go.Proofs.Ytidohmpnefcpcaa
open Go.RowKit
theorem PidRow.two (w : World) (x1 y1 x2 y2 : Int) : PidRow (w.alloc (.cells #[.int .u16 x1, .int .u32 y1, .int .u16 x2, .int .u32 y2] 30)) (some ⟨w.heap.size, 0, none⟩) [(x1, y1), (x2, y2)] :=
  .inr ⟨_, 0, rfl, by simp, fun i hi => by
    match i, hi with
    | 0, _ => exact ⟨by simp, by simp⟩
    | 1, _ => exact ⟨by simp, by simp⟩⟩
theorem LeafRow.alloc {w : World} {a : Option Addr} {xs : List (List Pid)} (h : LeafRow w a xs) (o : Obj) : LeafRow (w.alloc o) a xs := h.ext ((Below.refl _ _).alloc (Nat.le_refl _) _)
theorem PidRow.alloc {w : World} {a : Option Addr} {xs : List Pid} (h : PidRow w a xs) (o : Obj) : PidRow (w.alloc o) a xs := h.ext ((Below.refl _ _).alloc (Nat.le_refl _) _)

end Go.Proofs.Ytidohmpnefcpcaa

namespace Go.Proofs.Ytidohmpnefcpcaa
open Go.RowKit

theorem rel {P : Program} {f : FuncId} {args : Array Value} {w0 W : World} {v v' : Value} (hb : Below w0.heap.size w0 W) (h : Calls P f args W fun e w' => e = .returned v ∧ Below W.heap.size W w') (hv : v = v') :
    Calls P f args W fun e w' => e = .returned v' ∧ Below w0.heap.size w0 w' := by
  subst hv
  exact h.mono fun _ _ ⟨h1, h2⟩ => ⟨h1, hb.trans (h2.mono hb.size)⟩

end Go.Proofs.Ytidohmpnefcpcaa

/- The contract of slices.SortFunc at this program: the numbers, and a field a fact. Printed by the kit. -/
namespace Go.Proofs
open Go.Shelf
def Try.sortPid_ren : Go.Shelf.Ren := ⟨fun | 6 => 55 | 15 => 62 | 14 => 61 | 28 => 72 | 29 => 73 | 20 => 64 | 21 => 65 | 22 => 66 | 23 => 67 | 24 => 68 | 25 => 69 | 26 => 70 | 27 => 71 | 46 => 74 | 47 => 75 | 48 => 76 | 49 => 77 | 50 => 78 | 57 => 79 | n => n, fun | 22 => 60 | 24 => 30 | 25 => 109 | 3 => 3 | 39 => 102 | 0 => 0 | 53 => 28 | 55 => 39 | 4 => 4 | 46 => 117 | 45 => 116 | 50 => 121 | 5 => 5 | 9 => 9 | 66 => 124 | 70 => 127 | 76 => 129 | 77 => 130 | n => n, fun | n => n⟩
theorem Try.sortPid : Go.Proofs.SlLaysF0.n6 Try.prog Try.sortPid_ren := {
  mixed := by kernel_rfl
  f6 := ⟨Try.f55.name, by decide, Try.func55.trans (congrArg some (by kernel_rfl))⟩
  f14 := ⟨Try.f61.name, by decide, Try.func61.trans (congrArg some (by kernel_rfl))⟩
  f15 := Try.func62.trans (congrArg some (by kernel_rfl))
  f20 := ⟨Try.f64.name, by decide, Try.func64.trans (congrArg some (by kernel_rfl))⟩
  f21 := ⟨Try.f65.name, by decide, Try.func65.trans (congrArg some (by kernel_rfl))⟩
  f22 := ⟨Try.f66.name, by decide, Try.func66.trans (congrArg some (by kernel_rfl))⟩
  f23 := ⟨Try.f67.name, by decide, Try.func67.trans (congrArg some (by kernel_rfl))⟩
  f24 := ⟨Try.f68.name, by decide, Try.func68.trans (congrArg some (by kernel_rfl))⟩
  f25 := ⟨Try.f69.name, by decide, Try.func69.trans (congrArg some (by kernel_rfl))⟩
  f26 := ⟨Try.f70.name, by decide, Try.func70.trans (congrArg some (by kernel_rfl))⟩
  f27 := ⟨Try.f71.name, by decide, Try.func71.trans (congrArg some (by kernel_rfl))⟩
  f28 := Try.func72.trans (congrArg some (by kernel_rfl))
  f29 := Try.func73.trans (congrArg some (by kernel_rfl))
  f46 := ⟨Try.f74.name, by decide, Try.func74.trans (congrArg some (by kernel_rfl))⟩
  f47 := Try.func75.trans (congrArg some (by kernel_rfl))
  f48 := Try.func76.trans (congrArg some (by kernel_rfl))
  f49 := ⟨Try.f77.name, by decide, Try.func77.trans (congrArg some (by kernel_rfl))⟩
  f50 := ⟨Try.f78.name, by decide, Try.func78.trans (congrArg some (by kernel_rfl))⟩
  f57 := ⟨Try.f79.name, by decide, Try.func79.trans (congrArg some (by kernel_rfl))⟩
  t0 := Try.underlying0
  a0 := Try.isAgg0
  z0 := Try.sizeOf0
  v0 := Try.zeroValue0
  t3 := Try.underlying3
  a3 := Try.isAgg3
  z3 := Try.sizeOf3
  v3 := Try.zeroValue3
  t4 := Try.underlying4
  a4 := Try.isAgg4
  z4 := Try.sizeOf4
  v4 := Try.zeroValue4
  t5 := Try.underlying5
  a5 := Try.isAgg5
  z5 := Try.sizeOf5
  v5 := Try.zeroValue5
  t9 := Try.underlying9
  a9 := Try.isAgg9
  z9 := Try.sizeOf9
  v9 := Try.zeroValue9
  t22 := Try.underlying60
  a22 := Try.isAgg60
  z22 := Try.sizeOf60
  v22 := Try.zeroValue60
  t25 := Try.underlying109
  a25 := Try.isAgg109
  z25 := Try.sizeOf109
  v25 := Try.zeroValue109
  t39 := Try.underlying102
  a39 := Try.isAgg102
  z39 := Try.sizeOf102
  v39 := Try.zeroValue102
  t45 := Try.underlying116
  a45 := Try.isAgg116
  z45 := Try.sizeOf116
  v45 := Try.zeroValue116
  t46 := Try.underlying117
  a46 := Try.isAgg117
  z46 := Try.sizeOf117
  v46 := Try.zeroValue117
  t50 := Try.underlying121
  a50 := Try.isAgg121
  z50 := Try.sizeOf121
  v50 := Try.zeroValue121
  t53 := Try.underlying28
  a53 := Try.isAgg28
  z53 := Try.sizeOf28
  v53 := Try.zeroValue28
  t55 := Try.underlying39
  a55 := Try.isAgg39
  z55 := Try.sizeOf39
  v55 := Try.zeroValue39
  t66 := Try.underlying124
  a66 := Try.isAgg124
  z66 := Try.sizeOf124
  v66 := Try.zeroValue124
  t70 := Try.underlying127
  a70 := Try.isAgg127
  z70 := Try.sizeOf127
  v70 := Try.zeroValue127
  t76 := Try.underlying129
  a76 := Try.isAgg129
  z76 := Try.sizeOf129
  v76 := Try.zeroValue129
  t77 := Try.underlying130
  a77 := Try.isAgg130
  z77 := Try.sizeOf130
  v77 := Try.zeroValue130 }
end Go.Proofs

namespace Go.Proofs.Ytidohmpnefcpcaa
open Go.RowKit
open Go.Sort (grow grow_grow grow_empty alloc_eq_grow ahead putRow putCells HoldsK Holds flatK SWO)

/-- w', but for draws and new blocks -/
def Grew (w w' : World) : Prop := ∃ q os, w' = grow (w.drewN q) os
theorem Grew.refl (w : World) : Grew w w := ⟨0, #[], by rw [grow_empty]; rfl⟩
theorem Grew.alloc {w w' : World} (h : Grew w w') (o : Obj) : Grew w (w'.alloc o) := by
  obtain ⟨q, os, rfl⟩ := h
  exact ⟨q, os ++ #[o], by rw [alloc_eq_grow, grow_grow]⟩
theorem Grew.trans {a b c : World} (h : Grew a b) (k : Grew b c) : Grew a c := by
  obtain ⟨q, os, rfl⟩ := h
  obtain ⟨q', os', rfl⟩ := k
  refine ⟨q + q', os ++ os', ?_⟩
  rw [← grow_grow]
  unfold grow World.drewN
  simp [Nat.add_assoc]
theorem Grew.drew {w w' : World} (h : Grew w w') : Grew w w'.drew := h.trans ⟨1, #[], by rw [grow_empty]; rfl⟩
theorem Grew.below {w w' : World} (h : Grew w w') : Below w.heap.size w w' := by
  obtain ⟨q, os, rfl⟩ := h
  refine ⟨rfl, rfl, rfl, by simp [grow, World.drewN], fun k hk => ?_⟩
  simp [grow, World.drewN, Array.getElem?_append, hk]
structure GrewW (w : World) where
  W : World
  h : Grew w W
instance grewW_some (w : World) : Nonempty (GrewW w) := ⟨⟨w, Grew.refl _⟩⟩
theorem wp_region_grew {P : Program} {w wr : World} {id : Nat} {Q : Exit → Act → World → Prop} {a : Act} {l : List Oper} (hb : Grew w wr) (hm : P.follows .mixedOrders = true) (hB : Region.lexB .any l.toArray = true)
    (h : wpQuiet P l.toArray (fun w' => ∃ U : GrewW w, w' = U.W) (fun a' => ∀ w', (∃ U : GrewW w, w' = U.W) → Q .normal a' w') l a) : (Code.region id l.toArray true).wp P Q a wr :=
  wp_region_quiet (C := fun w' => ∃ U : GrewW w, w' = U.W) hm hB ⟨⟨wr.drew, hb.drew⟩, rfl⟩ (by simpa using h)
theorem cell_greww {w : World} {a : Addr} {v : Value} (h : w.cell? a = some v) : ∀ U : GrewW w, U.W.cell? a = some v := fun U => (U.h.below.cell (World.block_lt_of_cell? w _ h)).trans h
theorem grew_of {P : Program} {f : FuncId} {args : Array Value} {w0 : World} {U : GrewW w0} {v v' : Value} (h : Calls P f args U.W fun e w' => e = .returned v ∧ Grew U.W w') (hv : v = v') :
    Calls P f args U.W fun e w' => e = .returned v' ∧ ∃ U' : GrewW w0, w' = U'.W := by
  subst hv
  refine h.mono ?_
  rintro e w' ⟨rfl, hb⟩
  exact ⟨rfl, ⟨_, U.h.trans hb⟩, rfl⟩

/-- a process that may stand in a program -/
def ok (p : Pid) : Prop := 0 ≤ p.1 ∧ p.1 < 65536 ∧ 0 ≤ p.2 ∧ p.2 < 4294967296
def numOf (p : Pid) : Int := p.1 * 4294967296 + p.2
def ahead (p q : Pid) : Bool := decide (numOf p < numOf q)
theorem ret_u64 {a b : Int} (h : a = b) : Ending.returned (.int .u64 a) = .returned (.int .u64 b) := by rw [h]
theorem u64_or32 (x y : Int) (hy₀ : 0 ≤ y) (hy : y < 4294967296) (hx₀ : 0 ≤ x) (hx : x % 4294967296 = 0) (hx₁ : x < 18446744073709551616) : bits .or .u64 x y = x + y :=
  bits_join .u64 64 (by decide) wraps_u64 32 x y hx₀ hx hx₁ hy₀ hy (by omega)
set_option maxHeartbeats 400000 in
theorem number_any (x y : Int) (w : World) (h : ok (x, y)) : Calls Try.prog 63 #[.agg #[.int .u16 x, .int .u32 y]] w fun e w' => e = .returned (.int .u64 (numOf (x, y))) ∧ Grew w w' := by
  obtain ⟨hx, hx2, hy, hy2⟩ := h
  simp only at hx hx2 hy hy2
  go_enter Try.func63, Try.ntmps63
  go_wp2
  go_ret
  exact ⟨ret_u64 (u64_or32 _ _ hy hy2 (by omega) (by omega) (by omega)), (Grew.refl _).alloc _⟩
set_option maxHeartbeats 400000 in
theorem ahead_any (a b c d : Int) (w : World) (h1 : ok (a, b)) (h2 : ok (c, d)) : Calls Try.prog 57 #[.agg #[.int .u16 a, .int .u32 b], .agg #[.int .u16 c, .int .u32 d]] w fun e w' => e = .returned (.bool (ahead (a, b) (c, d))) ∧ Grew w w' := by
  have hB : Grew w ((w.alloc (.cells #[.int .u16 a, .int .u32 b] 30)).alloc (.cells #[.int .u16 c, .int .u32 d] 30)) := ((Grew.refl _).alloc _).alloc _
  have k0 : ((w.alloc (.cells #[.int .u16 a, .int .u32 b] 30)).alloc (.cells #[.int .u16 c, .int .u32 d] 30)).cell? ⟨w.heap.size, 0, none⟩ = some (.int .u16 a) := by simp
  have k1 : ((w.alloc (.cells #[.int .u16 a, .int .u32 b] 30)).alloc (.cells #[.int .u16 c, .int .u32 d] 30)).cell? ⟨w.heap.size, 1, none⟩ = some (.int .u32 b) := by simp
  have k2 : ((w.alloc (.cells #[.int .u16 a, .int .u32 b] 30)).alloc (.cells #[.int .u16 c, .int .u32 d] 30)).cell? ⟨w.heap.size + 1, 0, none⟩ = some (.int .u16 c) := by simp
  have k3 : ((w.alloc (.cells #[.int .u16 a, .int .u32 b] 30)).alloc (.cells #[.int .u16 c, .int .u32 d] 30)).cell? ⟨w.heap.size + 1, 1, none⟩ = some (.int .u32 d) := by simp
  go_enter Try.func57, Try.ntmps57
  go_wp2
  revert hB k0 k1 k2 k3
  generalize (w.alloc (.cells #[.int .u16 a, .int .u32 b] 30)).alloc (.cells #[.int .u16 c, .int .u32 d] 30) = wr
  intro hB k0 k1 k2 k3
  have f0 := cell_greww k0
  have f1 := cell_greww k1
  have f2 := cell_greww k2
  have f3 := cell_greww k3
  clear k0 k1 k2 k3
  have n1 : ∀ U : GrewW wr, Calls Try.prog 63 #[.agg #[.int .u16 a, .int .u32 b]] U.W fun e w' => e = .returned (.int .u64 (numOf (a, b))) ∧ ∃ U' : GrewW wr, w' = U'.W := fun U => grew_of (number_any a b U.W h1) rfl
  have n2 : ∀ U : GrewW wr, Calls Try.prog 63 #[.agg #[.int .u16 c, .int .u32 d]] U.W fun e w' => e = .returned (.int .u64 (numOf (c, d))) ∧ ∃ U' : GrewW wr, w' = U'.W := fun U => grew_of (number_any c d U.W h2) rfl
  have hs : ahead (a, b) (c, d) = decide (numOf (a, b) < numOf (c, d)) := rfl
  have HS := hid hs
  clear hs
  revert n1 n2 HS
  generalize numOf (a, b) = A
  generalize numOf (c, d) = B
  intro n1 n2 HS
  refine wp_region_grew (w := wr) (Grew.refl _) (by kernel_rfl) (by kernel_rfl) ?_
  repeat (go_big_quiet_step (first | (go_at_call_of 63 c; exact n2 _) | exact n1 _))
  refine wpQuiet_nil ?_
  rintro w9 ⟨⟨_, hb9⟩, rfl⟩
  go_wp2
  go_ret
  exact ⟨ret_bool HS.out.symm, hB.trans hb9⟩
theorem ahead_is {a b c d : Int} {w : World} {bm : Bool} (h : Hid (ahead (a, b) (c, d) = bm)) (h1 : ok (a, b)) (h2 : ok (c, d)) : Calls Try.prog 57 #[.agg #[.int .u16 a, .int .u32 b], .agg #[.int .u16 c, .int .u32 d]] w fun e w' => e = .returned (.bool bm) ∧ Grew w w' := by
  have := ahead_any a b c d w h1 h2
  rw [h.out] at this
  exact this
/-- the order of Sort -/
def cmpP (p q : Pid) : Int := if ahead p q = true then -1 else 1
set_option maxHeartbeats 400000 in
theorem cmp_any (a b c d : Int) (w : World) (h1 : ok (a, b)) (h2 : ok (c, d)) : Calls Try.prog 56 #[.agg #[.int .u16 a, .int .u32 b], .agg #[.int .u16 c, .int .u32 d]] w fun e w' => e = .returned (.int .i64 (cmpP (a, b) (c, d))) ∧ Grew w w' := by
  have hB : Grew w ((w.alloc (.cells #[.int .u16 a, .int .u32 b] 30)).alloc (.cells #[.int .u16 c, .int .u32 d] 30)) := ((Grew.refl _).alloc _).alloc _
  have hC : cmpP (a, b) (c, d) = if ahead (a, b) (c, d) = true then -1 else 1 := rfl
  cases h : ahead (a, b) (c, d)
  · rw [h] at hC
    have HC := hid hC
    have H := hid h
    clear h hC
    go_enter Try.func56, Try.ntmps56
    go_wp2_with (go_at_call 57; refine (ahead_is H h1 h2).mono ?_; rintro e w3 ⟨rfl, hb3⟩)
    go_ret
    exact ⟨ret_int HC.out.symm, hB.trans hb3⟩
  · rw [h] at hC
    have HC := hid hC
    have H := hid h
    clear h hC
    go_enter Try.func56, Try.ntmps56
    go_wp2_with (go_at_call 57; refine (ahead_is H h1 h2).mono ?_; rintro e w3 ⟨rfl, hb3⟩)
    go_ret
    exact ⟨ret_int HC.out.symm, hB.trans hb3⟩
end Go.Proofs.Ytidohmpnefcpcaa

namespace Go.Proofs.Ytidohmpnefcpcaa

/-! ## the plain law: view.Check answers as the document says -/
def keys {α β : Type} (L : List (α × β)) : List α := L.map (·.1)
theorem look_isSome {α β : Type} [DecidableEq α] {x : α} : ∀ {L : List (α × β)}, (look x L).isSome = true ↔ x ∈ keys L
  | [] => by simp [look, keys]
  | p :: l => by
    have ih := look_isSome (x := x) (L := l)
    have e : look x (p :: l) = if x = p.1 then some p.2 else look x l := rfl
    have ek : keys (p :: l) = p.1 :: keys l := rfl
    rw [e, ek, List.mem_cons, ← ih]
    by_cases h : x = p.1 <;> simp [h]
theorem ins_len {α β : Type} [DecidableEq α] {x : α} {v : β} : ∀ {L : List (α × β)}, x ∉ keys L → ins x v L = L ++ [(x, v)]
  | [], _ => rfl
  | p :: l, h => by
    simp only [keys, List.map_cons, List.mem_cons, not_or] at h
    simp only [ins, if_neg h.1, List.cons_append]
    rw [ins_len h.2]
theorem look_ins {α β : Type} [DecidableEq α] {x y : α} {v : β} : ∀ {L : List (α × β)}, look x (ins y v L) = if x = y then some v else look x L
  | [] => by simp [ins, look]
  | p :: l => by
    have ih := look_ins (x := x) (y := y) (v := v) (L := l)
    simp only [ins]
    by_cases h : y = p.1
    · simp only [if_pos h, look]
      by_cases hx : x = y
      · simp [hx]
      · have : ¬ x = p.1 := fun e => hx (e.trans h.symm)
        simp [hx, this]
    · simp only [if_neg h, look, ih]
      by_cases hx : x = p.1
      · have : ¬ x = y := fun e => h (e.symm.trans hx)
        simp [hx]
        intro e; exact absurd (e.symm) (by intro e2; exact h (by rw [← e2]))
      · simp [hx]

theorem add1_of_not {p : Pid} {L : List (Pid × Unit)} (h : p ∉ keys L) : add1 p L = L ++ [(p, ())] := by
  unfold add1; rw [if_neg (fun e => h (look_isSome.1 e)), ins_len h]
/-! ### lists without repeats -/
end Go.Proofs.Ytidohmpnefcpcaa

namespace Go.Proofs.Ytidohmpnefcpcaa
open Go.RowKit
open Go.Sort (grow grow_grow grow_empty alloc_eq_grow putRow putCells HoldsK Holds flatK SWO heap_grow_old mapBlock onCells)

abbrev WP : Type := { p : Pid // ok p }
instance : Inhabited WP := ⟨⟨(0, 0), by unfold ok; simp⟩⟩
def encW (x : WP) : List Value := [.int .u16 x.val.1, .int .u32 x.val.2]
def cmpW (x y : WP) : Int := cmpP x.val y.val
theorem ltW (x y : WP) : ltOf cmpW x y = ahead x.val y.val := by
  unfold ltOf cmpW cmpP
  cases ahead x.val y.val <;> simp
theorem swoW : SWO (ltOf cmpW) where
  irrefl x := by rw [ltW]; simp [ahead]
  trans x y z h1 h2 := by rw [ltW] at *; simp [ahead] at *; omega
  ntrans x y z h1 h2 := by rw [ltW] at *; simp [ahead] at *; omega
theorem numOf_inj {p q : Pid} (hp : ok p) (hq : ok q) (h : numOf p = numOf q) : p = q := by
  obtain ⟨a, b⟩ := p
  obtain ⟨c, d⟩ := q
  unfold numOf at h
  obtain ⟨h1, h2, h3, h4⟩ := hp
  obtain ⟨g1, g2, g3, g4⟩ := hq
  simp only at *
  have e1 : a = c := by omega
  have e2 : b = d := by omega
  rw [e1, e2]
theorem totW (x y : WP) (h1 : ltOf cmpW x y = false) (h2 : ltOf cmpW y x = false) : x = y := by
  rw [ltW] at h1 h2
  simp [ahead] at h1 h2
  exact Subtype.ext (numOf_inj x.2 y.2 (by omega))

theorem flat_cells (d : Array WP) : (flatK encW 2 d).toList = pidCells (d.toList.map (·.val)) := by
  apply List.ext_getElem?
  intro t
  by_cases ht : t < d.size * 2
  · have h1 : t / 2 < d.size := by omega
    have g := Sort.get_flatK encW 2 d t ht
    have hl : (flatK encW 2 d).toList[t]? = some (flatK encW 2 d)[t]! := by
      rw [getElem!_pos (flatK encW 2 d) t (by simpa using ht)]
      simp [ht]
    rw [hl, g]
    obtain ⟨c1, c2⟩ := pidCells_get (d.toList.map (·.val)) (t / 2) (by simpa using h1)
    have hd : d[t / 2]! = d[t / 2] := getElem!_pos d _ h1
    rcases Nat.mod_two_eq_zero_or_one t with hm | hm
    · rw [show t / 2 * 2 = t by omega] at c1
      rw [c1, hm, hd]; simp [encW]
    · rw [show t / 2 * 2 + 1 = t by omega] at c2
      rw [c2, hm, hd]; simp [encW]
  · rw [List.getElem?_eq_none (by simp; omega), List.getElem?_eq_none (by rw [pidCells_length]; simp; omega)]

theorem heap_put {w : World} {g n : Nat} {os : Array Obj} {cur : Array Value} {e : TypeId} {fr : Nat × Nat} (F : Array Value) (hb : w.heap[g]? = some (.cells cur e fr)) :
    (grow (putRow id (Sort.ahead w n) g 0 F) os).heap[g]? = some (.cells (putCells id 0 F cur) e fr) := by
  have hg : g < w.heap.size := (Array.getElem?_eq_some_iff.1 hb).1
  rw [heap_grow_old _ _ (by simpa using hg)]
  simp [putRow, mapBlock, Sort.ahead, Array.getElem?_modify, hb, onCells]
theorem grownBy_put {w : World} {g n : Nat} {os : Array Obj} (F : Array Value) : w.grownBy (grow (putRow id (Sort.ahead w n) g 0 F) os) (some g) := by
  refine ⟨rfl, rfl, rfl, by simp, fun k hk hne => ?_⟩
  rw [heap_grow_old _ _ (by simpa using hk)]
  have : g ≠ k := fun e => hne (by rw [e])
  simp [putRow, mapBlock, Sort.ahead, Array.getElem?_modify, this]
theorem take_put (cur F : Array Value) (h : F.size ≤ cur.size) : (putCells id 0 F cur).toList.take F.size = F.toList := by
  apply List.ext_getElem?
  intro j
  by_cases hj : j < F.size
  · rw [List.getElem?_take_of_lt hj, Array.getElem?_toList]
    simp [putCells, hj, show j < cur.size by omega]
  · rw [List.getElem?_take_eq_none (by omega), List.getElem?_eq_none (by simp; omega)]
theorem holds_put {w : World} {g : Nat} {cur F : Array Value} {e : TypeId} (hb : w.heap[g]? = some (.cells cur e (0, 0))) (ht : cur.toList.take F.size = F.toList) : Holds id w g 0 F := by
  intro j hj
  refine ⟨?_, by simp [World.frozen?, hb]⟩
  have h1 : (cur.toList.take F.size)[j]? = F.toList[j]? := by rw [ht]
  rw [List.getElem?_take_of_lt hj] at h1
  simp only [World.cell?, hb, Nat.zero_add, Option.isSome_none, Bool.false_eq_true, if_false]
  rw [← Array.getElem?_toList, h1]
  simp [hj]

/-- processes, sorted (each once, if they are so) -/
def sortL (ps : List Pid) : List Pid := ps.mergeSort fun x y => !(ahead y x)
theorem sortL_length (ps : List Pid) : (sortL ps).length = ps.length := List.length_mergeSort _
theorem cmpLays (blk off size : Nat) (w : World) : CmpLays Try.prog 56 #[] encW 2 cmpW blk off size w :=
  fun _ _ _ _ x y => cmp_any x.val.1 x.val.2 y.val.1 y.val.2 _ x.2 y.2
theorem sortFunc_own {w : World} {base : Nat} {v : Value} {ps : List Pid} (hown : OwnP w base v ps) (hok : ∀ p ∈ ps, ok p) (hn : ps.length < 4611686018427387904) :
    Calls Try.prog 55 #[v, .func (.func 56) #[] #[]] w fun e w' => e = .returned (.tuple #[]) ∧ OwnP w' base v (sortL ps) ∧ w.grownBy w' v.ownBlock := by
  have eg : ∀ args w, (callFunc 56 args).run Try.prog w = .ok (.enter 56 args) w := enters_of Try.func56 (by kernel_rfl) rfl
  rcases hown.2 with ⟨rfl, h0⟩ | ⟨g, cap, cur, rfl, hb, hg, hnc, hcm, hcs, htake⟩
  · have hp : ps = [] := List.length_eq_zero_iff.1 h0
    subst hp
    have hcon := AnyF.slices_SortFunc_none Try.sortPid none 0 (.func (.func 56) #[] #[]) w
    change Calls Try.prog 55 _ _ _ at hcon
    refine hcon.mono ?_
    rintro e w' ⟨rfl, rfl⟩
    exact ⟨rfl, by rw [show sortL [] = [] by simp [sortL]]; exact OwnP.nil _ _, ⟨rfl, rfl, rfl, Nat.le_refl _, fun _ _ _ => rfl⟩⟩
  · obtain ⟨d, hd, hds⟩ : ∃ d : Array WP, d.toList.map (·.val) = ps ∧ d.size = ps.length := by
      refine ⟨(ps.pmap Subtype.mk hok).toArray, ?_, by simp⟩
      simp [List.map_pmap]
    have hF : (flatK encW 2 d).toList = pidCells ps := by rw [flat_cells, hd]
    have hFs : (flatK encW 2 d).size = ps.length * 2 := by simp [hds]
    have hH : HoldsK encW 2 w g 0 d := holds_put hg (by rw [hFs, hF]; exact htake)
    have hlt : g < w.heap.size := (Array.getElem?_eq_some_iff.1 hg).1
    have hcon := AnyQ.slices_SortFunc_total Try.sortPid 2 Try.isAgg30 Try.sizeOf30 encW (fun _ => rfl) (fun x v hv => by simp [encW] at hv; rcases hv with rfl | rfl <;> rfl) cmpW swoW 56 #[] g 0 cap d w eg (cmpLays g 0 d.size w) hH hlt (by rw [hds]; exact hn) totW
    change Calls Try.prog 55 _ _ _ at hcon
    rw [hds] at hcon
    refine hcon.mono ?_
    rintro e w' ⟨rfl, n, os, rfl⟩
    obtain ⟨d', hd'⟩ : ∃ d' : Array WP, d' = (d.toList.mergeSort fun x y => !(ltOf cmpW) y x).toArray := ⟨_, rfl⟩
    rw [← hd']
    have hs' : d'.toList.map (·.val) = sortL ps := by
      rw [hd', ← hd]
      unfold sortL
      rw [List.map_mergeSort]
      intro a _ b _
      rw [ltW]
    have hsz : d'.size = ps.length := by rw [hd']; simp [List.length_mergeSort, hds]
    have hF' : (flatK encW 2 d').toList = pidCells (sortL ps) := by rw [flat_cells, hs']
    have hFs' : (flatK encW 2 d').size = ps.length * 2 := by simp [hsz]
    refine ⟨rfl, ⟨by rw [pidCells_length], .inr ⟨g, cap, putCells id 0 (flatK encW 2 d') cur, by rw [sortL_length], hb, heap_put _ hg, by rw [sortL_length]; exact hnc, hcm, by simp [putCells, hcs], ?_⟩⟩, grownBy_put _⟩
    rw [sortL_length, ← hFs', take_put _ _ (by rw [hFs', hcs]; exact Nat.mul_le_mul_right _ hnc), hF']

theorem OwnP.but {w w' : World} {base r : Nat} {v : Value} {xs : List Pid} (h : OwnP w base v xs) (hb : But r w w') {α β : Type} {ke : α → Value} {ve : β → Value} {L : List (α × β)} (hM : MapIs w r ke ve L) : OwnP w' base v xs := by
  refine ⟨h.1, ?_⟩
  obtain ⟨es, cl, hm, _⟩ := hM
  rcases h.2 with hn | ⟨g, cap, cur, rfl, hbb, hgg, rest⟩
  · exact .inl hn
  · exact .inr ⟨g, cap, cur, rfl, hbb, (hb.block g (fun e => by rw [e, hm] at hgg; cases hgg)).trans hgg, rest⟩
theorem OwnP.alloc {w : World} {base : Nat} {v : Value} {xs : List Pid} (h : OwnP w base v xs) (o : Obj) : OwnP (w.alloc o) base v xs := h.ext ((Below.refl _ _).alloc (Nat.le_refl _) _)
theorem OwnP.ne_map {w : World} {base : Nat} {v : Value} {xs : List Pid} (h : OwnP w base v xs) {r : Nat} {es : Array MapEntry} {cl : Nat} (hm : w.heap[r]? = some (.map es cl)) : some r ≠ v.ownBlock := by
  rcases h.2 with ⟨rfl, _⟩ | ⟨g, cap, cur, rfl, hbb, hgg, rest⟩
  · simp [Value.ownBlock]
  · simp only [Value.ownBlock, ne_eq, Option.some.injEq]
    intro e; subst e; rw [hm] at hgg; cases hgg
theorem MapIs.grown {w w' : World} {r : Nat} {α β : Type} [DecidableEq α] {ke : α → Value} {ve : β → Value} {L : List (α × β)} (hM : MapIs w r ke ve L) {base : Nat} {v : Value} {xs : List Pid} (h : OwnP w base v xs) (hg : w.grownBy w' v.ownBlock) : MapIs w' r ke ve L := by
  refine hM.same (hg.block r hM.lt ?_)
  obtain ⟨es, cl, hm, _⟩ := hM
  exact h.ne_map hm

/-- some processes, each once, in their first places' order -/
def dedup (xs : List Pid) : List Pid := keys (unionL [] xs)
/-- Sort -/
def sortP (xs : List Pid) : List Pid := sortL (dedup xs)
theorem keys_add1_no {p : Pid} {L : List (Pid × Unit)} (h : (look p L).isSome = false) : keys (add1 p L) = keys L ++ [p] := by
  have : p ∉ keys L := by rw [← look_isSome, h]; simp
  rw [add1_of_not this]; simp [keys]

set_option maxRecDepth 100000 in
set_option maxHeartbeats 1600000 in
theorem sort_any (a : Option Addr) (c : Nat) (xs : List Pid) (w : World) (hn : xs.length ≤ 549755813888) (hrow : PidRow w a xs) (hok : ∀ p ∈ xs, ok p) :
   Calls Try.prog 46 #[.slice a xs.length c] w fun e w' => ∃ v, e = .returned v ∧ OwnP w' w.heap.size v (sortP xs) ∧ Below w.heap.size w w' := by
  have hmm := @run_makeMap Try.prog
  go_enter Try.func46, Try.ntmps46
  go_wp2
  go_loopw [4, 12] (fun v i wr => ∃ (k : Nat) (Lk : List (Pid × Unit)), k ≤ xs.length ∧ i = .int .i64 k ∧ Hid (unionL [] xs = unionL Lk (xs.drop k)) ∧ (keys Lk).length ≤ k ∧ (∀ p ∈ keys Lk, ok p) ∧ Below w.heap.size w wr ∧ MapIs wr w.heap.size pidV eU Lk ∧ OwnP wr w.heap.size v (keys Lk)) (fun _ i _ => xs.length - (intOf i).toNat)
  case atStart => exact ⟨0, [], Nat.zero_le _, rfl, rfl, Nat.le_refl _, by simp [keys], (Below.refl _ _).alloc (Nat.le_refl _) _, MapIs.made _, OwnP.nil _ _⟩
  case round =>
    obtain ⟨k, Lk, hk, rfl, hL, hlk, hokk, hb, hM, hown⟩ := hrel
    have hs0 := hb.size
    have hs1 := hM.lt
    by_cases hlt : k < xs.length
    · obtain ⟨b, off, x, y, rfl, hx, d1, d2⟩ := hrow.at hb rfl hlt
      have hL1 := unionL_drop (L := Lk) hlt hx
      have hxok : ok (x, y) := by rw [hx]; exact hok _ (List.getElem_mem _)
      have HL1 := hid hL1
      have HOK := hid hxok
      have HOKK := hid hokk
      clear hx hrow hL1 hxok hokk
      have hB1 : Below w.heap.size w (wr.alloc (.cells #[.int .u16 x, .int .u32 y] 30)) := hb.alloc hb.size _
      have hB2 : Below w.heap.size w ((wr.alloc (.cells #[.int .u16 x, .int .u32 y] 30)).alloc (.cells #[] 106)) := hB1.alloc hB1.size _
      have hs2 := hB2.size
      cases hs : (look (x, y) Lk).isSome
      · have HS := hid hs
        clear hs
        go_wp2_with (first
          | (at_lookup; refine wpList_lookup_is keyPid Try.underlying105 (.agg #[]) zero106 (hM.alloc _) (x, y) _ (look_unit _ _) HS rfl rfl rfl rfl ?_)
          | (at_mapUpdate; refine wpList_mapUpdate_is keyPid Try.underlying105 ((hM.alloc _).alloc _) (x, y) () rfl rfl rfl rfl rfl ?_; intro w2 hM2 hbut; have c0 : w2.cell? ⟨wr.heap.size, 0, none⟩ = some (.int .u16 x) := (hbut.cell (by simp; omega)).trans (by simp); have c1 : w2.cell? ⟨wr.heap.size, 1, none⟩ = some (.int .u32 y) := (hbut.cell (by simp; omega)).trans (by simp))
          | (at_builtin; go_loud (refine wpList_appendP (((hown.alloc _).alloc _).but hbut ((hM.alloc _).alloc _) |>.alloc _) (PidRow.one _ x y) ?cb ?cz rfl rfl rfl rfl ?_); rotate_right; intro v4 w4 hown4 hg4 hnil4))
        case cb => simp; omega
        case cz => have := hbut.size; simp at this; simp; omega
        have hsz2 := hbut.size
        simp at hsz2
        have hown2 : OwnP w2 w.heap.size u4 (keys Lk) := ((hown.alloc _).alloc _).but hbut ((hM.alloc _).alloc _)
        have hB4 : Below w.heap.size w w4 := ((hB2.trans (hbut.below (Nat.le_refl _))).alloc (by omega) _).grown hg4 (by simp; omega) (fun g hg => (World.ownsRow.lt hown g hg).1)
        have hM4 : MapIs w4 w.heap.size pidV eU (ins (x, y) () Lk) := (hM2.alloc _).grown (hown2.alloc _) hg4
        have hA : add1 (x, y) Lk = ins (x, y) () Lk := by unfold add1; rw [HS.out]; rfl
        have hK := keys_add1_no HS.out
        have HA := hid hA
        have HK := hid hK
        clear hA hK
        go_roundw
        case rel =>
          refine ⟨k + 1, ins (x, y) () Lk, by omega, by go_num, hL.out.trans (by rw [HL1.out, HA.out]), ?_, ?_, hB4, hM4, ?_⟩
          · rw [← HA.out, HK.out]; simp; omega
          · rw [← HA.out, HK.out]
            intro p hp
            rcases List.mem_append.1 hp with hp | hp
            · exact HOKK.out p hp
            · rw [List.mem_singleton.1 hp]; exact HOK.out
          · rw [← HA.out, HK.out]; exact hown4
        case measure => simp [intOf]; omega
      · have HS := hid hs
        clear hs
        go_wp2_with (first
          | (at_lookup; refine wpList_lookup_is keyPid Try.underlying105 (.agg #[]) zero106 (hM.alloc _) (x, y) _ (look_unit _ _) HS rfl rfl rfl rfl ?_))
        go_roundw
        case rel => exact ⟨k + 1, Lk, by omega, by go_num, hL.out.trans (by rw [HL1.out]; unfold add1; rw [HS.out]; rfl), by omega, HOKK.out, hB2, (hM.alloc _).alloc _, (hown.alloc _).alloc _⟩
        case measure => simp [intOf]; omega
    · have hkk : Hid (keys Lk = dedup xs) := by
        have := hL.out
        rw [List.drop_eq_nil_of_le (by omega)] at this
        unfold dedup
        rw [this]; rfl
      have hS := sortFunc_own hown hokk (by omega)
      have HS := hid hS
      clear hS
      go_wp2_with (go_at_call 55; refine HS.out.mono ?_; rintro e w3 ⟨rfl, hown3, hg3⟩)
      go_ret
      exact ⟨_, rfl, by unfold sortP; rw [← hkk.out]; exact hown3, hb.grown hg3 hb.size (fun g hg => (World.ownsRow.lt hown g hg).1)⟩
end Go.Proofs.Ytidohmpnefcpcaa

namespace Go.Proofs.Ytidohmpnefcpcaa
open Go.RowKit

/-! ### slices.Equal, EqualFunc, the references' Same: lists are the same -/
def eqFrom : List Pid → List Pid → Bool
  | [], _ => true
  | _ :: _, [] => true
  | x :: l, y :: r => if x = y then eqFrom l r else false
theorem eqFrom_drop {xs ys : List Pid} {k : Nat} (h : k < xs.length) (h' : k < ys.length) {p q : Pid} (hp : p = xs[k]) (hq : q = ys[k]) : eqFrom (xs.drop k) (ys.drop k) = if p = q then eqFrom (xs.drop (k + 1)) (ys.drop (k + 1)) else false := by
  rw [List.drop_eq_getElem_cons h, List.drop_eq_getElem_cons h', ← hp, ← hq]; rfl
theorem eqFrom_iff : ∀ {xs ys : List Pid}, xs.length = ys.length → (eqFrom xs ys = true ↔ xs = ys)
  | [], [], _ => by simp [eqFrom]
  | x :: l, y :: r, h => by
    have ih := eqFrom_iff (xs := l) (ys := r) (by simpa using h)
    simp only [eqFrom]
    by_cases hxy : x = y
    · rw [if_pos hxy, ih]; simp [hxy]
    · rw [if_neg hxy]; simp [hxy]
  | [], y :: r, h => by simp at h
  | x :: l, [], h => by simp at h
theorem eqFrom_eq {xs ys : List Pid} (h : xs.length = ys.length) : decide (xs = ys) = eqFrom xs ys := by
  rw [Bool.eq_iff_iff, eqFrom_iff h]; simp

set_option maxRecDepth 100000 in
set_option maxHeartbeats 800000 in
theorem sameR_any (a b : Option Addr) (ca cb : Nat) (xs ys : List Pid) (w : World) (hn : xs.length ≤ 70368744177664) (_hm : ys.length ≤ 70368744177664) (hx : PidRow w a xs) (hy : PidRow w b ys) :
   Calls Try.prog 26 #[.slice a xs.length ca, .slice b ys.length cb] w fun e w' => e = .returned (.bool (decide (xs = ys))) ∧ Below w.heap.size w w' := by
  by_cases hl : xs.length = ys.length
  · have hsp := eqFrom_eq hl
    have hl' : ((xs.length : Int) != (ys.length : Int)) = false := by rw [hl]; simp
    have HL := hid hl
    have HSP := hid hsp
    clear hl hsp
    go_enter Try.func26, Try.ntmps26
    go_wp2
    go_loopw [4, 5] (fun rs kv wr => rs = .bool false ∧ ∃ k : Nat, k ≤ xs.length ∧ kv = .int .i64 k ∧ Hid (decide (xs = ys) = eqFrom (xs.drop k) (ys.drop k)) ∧ Below w.heap.size w wr) (fun _ kv _ => xs.length - (intOf kv).toNat)
    case atStart => exact ⟨rfl, 0, Nat.zero_le _, rfl, HSP, Below.refl _ _⟩
    case round =>
      obtain ⟨rfl, k, hk, rfl, ha, hb⟩ := hrel
      by_cases hkt : k < xs.length
      · have hkt' : k < ys.length := by have := HL.out; omega
        obtain ⟨b1, o1, x1, y1, rfl, hx1, q0, q1⟩ := hx.at hb rfl hkt
        obtain ⟨b2, o2, x2, y2, rfl, hx2, q2, q3⟩ := hy.at hb rfl hkt'
        have hd := eqFrom_drop hkt hkt' hx1 hx2
        have HD := hid hd
        clear hd hx1 hx2
        have he := fun w => neq_pid x1 y1 x2 y2 w
        by_cases hxy : (x1, y1) = (x2, y2)
        · have hxy1 : decide ((x1, y1) = (x2, y2)) = true := by simpa using hxy
          rw [hxy1] at he
          have HXY := hid hxy
          clear hxy hxy1
          go_wp2
          go_quiet (fail)
          go_wp2
          go_roundw
          case rel => exact ⟨rfl, k + 1, by omega, by go_num, (ha.out.trans (by rw [HD.out, if_pos HXY.out]) : _), below_drewN hb _⟩
          case measure => simp [intOf]; omega
        · have hxy1 : decide ((x1, y1) = (x2, y2)) = false := by simpa using hxy
          rw [hxy1] at he
          have HXY : Hid (¬ (x1, y1) = (x2, y2)) := hxy
          clear hxy hxy1
          go_wp2
          go_quiet (fail)
          go_wp2
          go_ret
          exact ⟨ret_bool (by rw [ha.out, HD.out, if_neg HXY.out]), below_drewN hb _⟩
      · go_wp2
        go_ret
        exact ⟨ret_bool (by rw [ha.out, List.drop_eq_nil_of_le (by omega)]; rfl), hb⟩
  · have hne : decide (xs = ys) = false := by simp; intro e; exact hl (by rw [e])
    have hl' : ((xs.length : Int) != (ys.length : Int)) = true := by rw [bne_iff_ne]; omega
    have HN := hid hne
    clear hne hl
    go_enter Try.func26, Try.ntmps26
    go_wp2
    go_ret
    exact ⟨ret_bool HN.out.symm, Below.refl _ _⟩

section
variable {a b : Option Addr} {ca cb : Nat} {xs ys : List Pid} {w : World} {bm : Bool} (h : Hid (decide (xs = ys) = bm)) (hn : xs.length ≤ 70368744177664) (hm : ys.length ≤ 70368744177664) (hx : PidRow w a xs) (hy : PidRow w b ys)
include h hn hm hx hy
theorem sameR_is : Calls Try.prog 26 #[.slice a xs.length ca, .slice b ys.length cb] w fun e w' => e = .returned (.bool bm) ∧ Below w.heap.size w w' := by
  have := sameR_any a b ca cb xs ys w hn hm hx hy
  rw [h.out] at this
  exact this
end

/-! lists of lists -/
end Go.Proofs.Ytidohmpnefcpcaa

namespace Go.Proofs.Ytidohmpnefcpcaa
open Go.RowKit

/-! ### plain: sorting -/
theorem keys_union_nodup : ∀ (xs : List Pid) (L : List (Pid × Unit)), (∀ x ∈ xs, x ∉ keys L) → xs.Nodup → keys (unionL L xs) = keys L ++ xs
  | [], L, _, _ => by simp [unionL]
  | p :: l, L, h, hn => by
    obtain ⟨h1, h2⟩ := List.nodup_cons.1 hn
    have e : keys (add1 p L) = keys L ++ [p] := by rw [add1_of_not (h p (List.mem_cons_self ..))]; simp [keys]
    unfold unionL
    rw [keys_union_nodup l (add1 p L) (fun x hx => ?_) h2, e]
    · simp
    · rw [e]
      intro hm
      rcases List.mem_append.1 hm with hm | hm
      · exact h x (List.mem_cons_of_mem _ hx) hm
      · rw [List.mem_singleton.1 hm] at hx; exact h1 hx
theorem dedup_nodup {xs : List Pid} (h : xs.Nodup) : dedup xs = xs := by
  unfold dedup; rw [keys_union_nodup xs [] (by simp [keys]) h]; simp [keys]
theorem sortL_pairwise (xs : List Pid) : (sortL xs).Pairwise fun x y => (!(ahead y x)) = true :=
  List.pairwise_mergeSort (fun a b c h1 h2 => by simp [ahead] at *; omega) (fun a b => by simp [ahead]; omega) xs
theorem sortL_perm_self (xs : List Pid) : (sortL xs).Perm xs := List.mergeSort_perm _ _
theorem mem_sortL {p : Pid} {xs : List Pid} : p ∈ sortL xs ↔ p ∈ xs := (sortL_perm_self xs).mem_iff
theorem sortL_perm {xs ys : List Pid} (h : xs.Perm ys) (hok : ∀ p ∈ xs, ok p) : sortL xs = sortL ys := by
  refine List.Perm.eq_of_pairwise (le := fun x y => (!(ahead y x)) = true) ?_ (sortL_pairwise _) (sortL_pairwise _) ((sortL_perm_self xs).trans (h.trans (sortL_perm_self ys).symm))
  intro a b ha hb h1 h2
  simp [ahead] at h1 h2
  exact numOf_inj (hok a (mem_sortL.1 ha)) (hok b (h.mem_iff.2 (mem_sortL.1 hb))) (by omega)
theorem sortP_nodup {xs : List Pid} (h : xs.Nodup) : sortP xs = sortL xs := by unfold sortP; rw [dedup_nodup h]

theorem OwnP.mono {w : World} {b b' : Nat} {v : Value} {xs : List Pid} (h : OwnP w b v xs) (hb : b' ≤ b) : OwnP w b' v xs := by
  refine ⟨h.1, ?_⟩
  rcases h.2 with hn | ⟨g, cap, cur, rfl, hbb, rest⟩
  · exact .inl hn
  · exact .inr ⟨g, cap, cur, rfl, Nat.le_trans hb hbb, rest⟩
theorem RangeIs.left_eq {w : World} {r t : Nat} {α β : Type} {ke : α → Value} {ve : β → Value} {L left : List (α × β)} (h : RangeIs w r t ke ve L left) : w.rangeLeft r t = left.length := by
  obtain ⟨es, clock, since, seen, h1, _, _, h4, _, _, h7⟩ := h
  have := congrArg List.length h7
  simp only [List.length_map] at this
  unfold World.rangeLeft
  rw [h1, h4]
  unfold leftOf
  rw [← this]
  show (Array.filter (fun e => !seen.contains e.born) es).size = _
  rw [← Array.length_toList, Array.toList_filter]
theorem OwnP.ne_iter {w : World} {base : Nat} {v : Value} {xs : List Pid} (h : OwnP w base v xs) {r t : Nat} {α β : Type} {ke : α → Value} {ve : β → Value} {L left : List (α × β)} (hr : RangeIs w r t ke ve L left) : some t ≠ v.ownBlock := by
  obtain ⟨es, clock, since, seen, _, _, _, h4, _⟩ := hr
  rcases h.2 with ⟨rfl, _⟩ | ⟨g, cap, cur, rfl, hbb, hgg, rest⟩
  · simp [Value.ownBlock]
  · simp only [Value.ownBlock, ne_eq, Option.some.injEq]
    intro e; subst e; rw [h4] at hgg; cases hgg
theorem RangeIs.grown {w w' : World} {r t : Nat} {α β : Type} [DecidableEq α] {ke : α → Value} {ve : β → Value} {L left : List (α × β)} (hR : RangeIs w r t ke ve L left) {base : Nat} {v : Value} {xs : List Pid} (h : OwnP w base v xs) (hg : w.grownBy w' v.ownBlock) : RangeIs w' r t ke ve L left := by
  refine hR.same (hg.block r hR.map.lt ?_) (hg.block t hR.lt (h.ne_iter hR))
  obtain ⟨es, clock, since, seen, h1, _⟩ := hR
  exact h.ne_map h1
theorem RangeIs.alloc {w : World} {r t : Nat} {α β : Type} [DecidableEq α] {ke : α → Value} {ve : β → Value} {L left : List (α × β)} (hR : RangeIs w r t ke ve L left) (o : Obj) : RangeIs (w.alloc o) r t ke ve L left := hR.ext ((Below.refl _ _).alloc (Nat.le_refl _) _)

/-! ### the set's methods -/
end Go.Proofs.Ytidohmpnefcpcaa

namespace Go.Proofs.Ytidohmpnefcpcaa
open Go.RowKit Go.Shelf
attribute [local go_sem] Oper.semAt_some
/-! ### maps.Keys of the links, collected -/
abbrev ptrV : Nat → Value := fun b => .pointer (some ⟨b, 0, none⟩)
theorem grownBy_below {w w' : World} (h : Below w.heap.size w w') : w.grownBy w' none := ⟨h.os, h.tape, h.output, h.size, fun k hk _ => h.block k hk⟩
theorem grownBy_but {w w' : World} {t : Nat} (h : But t w w') : w.grownBy w' (some t) := ⟨h.os, h.tape, h.output, by rw [h.size]; exact Nat.le_refl _, fun k _ hne => h.block k fun e => hne (by rw [e])⟩
theorem RangeIs.walks {α β : Type} {ke : α → Value} {ve : β → Value} {r t : Nat} {L left : List (α × β)} {w w' : World} (h : RangeIs w r t ke ve L left) (hk : KeepsWalks w w') : RangeIs w' r t ke ve L left := by
  obtain ⟨es, clock, since, seen, h1, h2, h3, h4, h5⟩ := h
  exact ⟨es, clock, since, seen, hk.same _ _ h1 rfl, h2, h3, hk.same _ _ h4 rfl, h5⟩
theorem RangeIs.iter {α β : Type} {ke : α → Value} {ve : β → Value} {r t : Nat} {L left : List (α × β)} {w : World} (h : RangeIs w r t ke ve L left) : ∃ o : Obj, w.heap[t]? = some o ∧ o.isWalk = true := by
  obtain ⟨es, clock, since, seen, -, -, -, h4, -⟩ := h
  exact ⟨_, h4, rfl⟩
section
variable {α β : Type} [DecidableEq α] {ke : α → Value} {ve : β → Value} {F : Fence} {n : Nat} {P : Program} {K : TypeId} {w : World} {r t : Nat} {L left : List (α × β)} {ops : Array Oper} {rest : List Oper} {o : Oper} {a : Act} {Q : Exit → Act → World → Prop}
theorem wpListIn_range_is (hM : MapIs w r ke ve L) {ty K e : TypeId} (ht : P.underlying ty = some (.map K e)) {m : Operand} (hg : o.guard = none) (hop : o.op = Op.range ty m) (hm : a.eval m = .map (some r))
    (hK : ∀ w', RangeIs w' r w.heap.size ke ve L L → Below w.heap.size w w' → wpListIn F n P ops Q rest (a.put o.dst (.pointer (some ⟨w.heap.size, 0, none⟩))) w') : wpListIn F n P ops Q (o :: rest) a w := by
  refine wpListIn_plain hg fun K' hK' => ?_
  obtain ⟨w', hrun, r1, r2⟩ := hM.range ht
  unfold Oper.wpIn
  refine ⟨by simp [Oper.about, hop], ?_⟩
  rw [Oper.semAt_plain F _ _ (by rw [hop]; intro c hc'; cases hc')]
  simp [execOp, hop, hm, hrun, Result.andThen]
  exact hK' _ _ (hK w' r1 r2)
theorem wpListIn_next_is (h : RangeIs w r t ke ve L left) {it : Operand} (hg : o.guard = none) (hop : o.op = Op.next it false) (hit : a.eval it = .pointer (some ⟨t, 0, none⟩))
    (hDone : Hid (left = []) → wpListIn F n P ops Q rest (a.put o.dst (.tuple #[.bool false])) w)
    (hMore : ∀ (p : α × β) (s u : List (α × β)) (w' : World), Hid (left = s ++ p :: u) → RangeIs w' r t ke ve L (s ++ u) → But t w w' → (Instr.entry (.pointer (some ⟨t, 0, none⟩))).run P w' = .ok (.tuple #[ke p.1, ve p.2]) w' →
      wpListIn F n P ops Q rest (a.put o.dst (.tuple #[.bool true, ke p.1, ve p.2])) w') : wpListIn F n P ops Q (o :: rest) a w := by
  refine wpListIn_plain hg fun K' hK' => ?_
  unfold Oper.wpIn
  refine ⟨by simp [Oper.about, hop], ?_⟩
  rw [Oper.semAt_plain F _ _ (by rw [hop]; intro c hc'; cases hc')]
  rcases h.next (P := P) o.type with ⟨hl, hrun⟩ | ⟨p, s, u, w', hl, hrun, hR, hB, hE⟩
  · simp [execOp, hop, hit, hrun, Result.andThen]
    exact hK' _ _ (hDone hl)
  · simp [execOp, hop, hit, hrun, Result.andThen]
    exact hK' _ _ (hMore p s u w' hl hR hB hE)
end
set_option maxRecDepth 100000 in
set_option maxHeartbeats 4000000 in
theorem keys1_in (F : Fence) (n : Nat) (hf : F.fn 59) (hro : F.round = none) (hn : 1 ≤ n) (l Bm r : Nat) (L : List (Pid × Nat)) (J Jx : List Pid → World → Prop)
    (hY : ∀ pre x W, J pre W → pre.length < L.length → YieldAt F (n - 1) Try.prog l #[pidV x] W fun e W' => (e = .returned (.bool true) ∧ J (pre ++ [x]) W' ∧ KeepsWalks W W') ∨ (e = .returned (.bool false) ∧ Jx (pre ++ [x]) W'))
    (W : World) (hJ : AbidesFrom W.heap.size J) (hm : W.cell? ⟨Bm, 0, none⟩ = some (.map (some r))) (hM : MapIs W r pidV ptrV L) (h0 : J [] W) :
    CallsIn F n Try.prog 59 #[.func (.yield l) #[] #[], .pointer (some ⟨Bm, 0, none⟩)] W fun e W' => (∃ v, e = .returned v) ∧ ((∃ xs : List Pid, xs.Perm (L.map (·.1)) ∧ J xs W') ∨ (∃ pre, True ∧ Jx pre W')) := by
  refine callsIn_of_wp Try.func59 rfl hf ?_ hro
  simp only [Try.ntmps59, List.size_toArray, List.length_cons, List.length_nil, Nat.reduceAdd, Nat.reduceSub, Array.replicate_succ, Array.replicate_zero, List.push_toArray, List.append_toArray, List.nil_append, List.cons_append]
  gi_wp2_with (first
    | (gi_at_range; refine wpListIn_range_is hM Try.underlying72 rfl rfl rfl ?_; intro w0 hR0 hb0)
    | gi_in)
  go_frame
  gi_loopw [3] (fun _ wr => ∃ (got : List Pid) (left : List (Pid × Nat)), RangeIs wr r W.heap.size pidV ptrV L left ∧ Hid ((got ++ left.map (·.1)).Perm (L.map (·.1))) ∧ got.length + left.length = L.length ∧ J got wr) (fun _ wr => wr.rangeLeft r W.heap.size)
  case atStart =>
    exact ⟨[], L, hR0, hid (List.Perm.refl _), by simp, hJ [] W w0 none h0 (grownBy_below hb0) (fun r e => by cases e)⟩
  case round =>
    obtain ⟨got, left, hR, hP, hlen, hJs⟩ := hrel
    have HLEN := hid hlen
    have HLM := hid hR.left_eq
    clear hlen
    gi_wp2_with (first
      | (gi_at_next; refine wpListIn_next_is hR rfl rfl rfl ?_ ?_)
      | gi_in)
    · intro hl
      gi_wp2
      go_end0
      exact ⟨⟨_, rfl⟩, .inl ⟨got, by have := hP.out; rw [hl.out] at this; simpa using this, hJs⟩⟩
    · intro x y u0 s1 s2 w1 hl hR1 hbut hen
      have hJ2 : J got w1 := hJ got wr w1 (some W.heap.size) hJs (grownBy_but hbut) (fun r e => by cases e; exact ⟨Nat.le_refl _, hR.iter⟩)
      obtain ⟨w2, hw2⟩ : ∃ w2, w1.alloc (.cells #[.int .u16 x, .int .u32 y] 30) = w2 := ⟨_, rfl⟩
      have hJ3 : J got w2 := by rw [← hw2]; exact hJ got w1 _ none hJ2 (World.grownBy_alloc w1 _ none) (fun r e => by cases e)
      have hR2 : RangeIs w2 r W.heap.size pidV ptrV L (s1 ++ s2) := by rw [← hw2]; exact hR1.ext ((Below.refl _ _).alloc (Nat.le_refl _) _)
      have hc0 : w2.cell? ⟨w1.heap.size, 0, none⟩ = some (.int .u16 x) := by rw [← hw2]; simp
      have hc1 : w2.cell? ⟨w1.heap.size, 1, none⟩ = some (.int .u32 y) := by rw [← hw2]; simp
      have HL := hid hl
      have HLT2 : Hid ((got ++ [(x, y)]).length + (s1 ++ s2).length = L.length) := hid (by
        have h1 := HLEN.out
        have e : left.length = s1.length + (s2.length + 1) := by rw [hl.out]; simp
        simp; omega)
      have hlt : got.length < L.length := by
        have h1 := HLEN.out
        have e : left.length = s1.length + (s2.length + 1) := by rw [hl.out]; simp
        omega
      obtain ⟨fn, tmps, assign, body, hy, hRd⟩ := hY got (x, y) w2 hJ3 hlt
      gi_wp2
      refine hRd.mono ?_
      rintro e W3 (⟨rfl, hJ4, hk4⟩ | ⟨rfl, hJx4⟩)
      · gi_wp2
        have hR4 := hR2.walks hk4
        have HL4 := hid hR4.left_eq
        go_roundw
        case rel => exact ⟨got ++ [(x, y)], s1 ++ s2, hR4, hid ((List.Perm.trans (by rw [HL.out, List.append_assoc]; simp only [List.map_append, List.map_cons]; exact List.Perm.append_left _ (by simpa using List.perm_middle.symm)) hP.out)), HLT2.out, hJ4⟩
        case measure => rw [HL4.out, HLM.out, HL.out]; simp
      · gi_wp2
        refine bodyPost_ret (results_none rfl _ _ _) rfl ?_
        exact ⟨⟨_, rfl⟩, .inr ⟨got ++ [(x, y)], trivial, hJx4⟩⟩
theorem keys_stops (F : Fence) (n : Nat) (hf : F.fn 59) (hro : F.round = none) (hn : 1 ≤ n) (Bm r : Nat) (L : List (Pid × Nat)) (w : World) (hB : Bm < w.heap.size) (hm : w.cell? ⟨Bm, 0, none⟩ = some (.map (some r))) (hM : MapIs w r pidV ptrV L) :
    SeqStopsK F n Try.prog 59 #[.pointer (some ⟨Bm, 0, none⟩)] (fun x : Pid => #[pidV x]) KeepsWalks (fun xs => xs.Perm (L.map (·.1))) (fun _ => True) L.length w := fun l J Jx W hW hJ _ hY h0 =>
  keys1_in F n hf hro hn l Bm r L J Jx hY W hJ ((hW.cell (p := ⟨Bm, 0, none⟩) hB).trans hm) (hM.ext hW) h0
theorem keysOf_any (r : Nat) (w : World) : Calls Try.prog 48 #[.map (some r)] w fun e w' => e = .returned (.func (.func 59) #[] #[.pointer (some ⟨w.heap.size, 0, none⟩)]) ∧ w' = w.alloc (.cells #[.map (some r)] 72) := by
  go_enter Try.func48, Try.ntmps48
  go_wp2
  go_ret
  exact ⟨rfl, rfl⟩
/-- a process's box -/
def Boxed2 (W : World) (B : Nat) (x : Pid) : Prop := W.heap[B]? = some (.cells #[.int .u16 x.1, .int .u32 x.2] 30 (0, 0))
theorem Boxed2.cells {W : World} {B : Nat} {x : Pid} (h : Boxed2 W B x) : W.cell? ⟨B, 0, none⟩ = some (.int .u16 x.1) ∧ W.cell? ⟨B, 1, none⟩ = some (.int .u32 x.2) := by
  constructor <;> simp [World.cell?, show W.heap[B]? = _ from h]
theorem boxed2_own (B : Nat) (x : Pid) : Own (fun (_ : Unit) W => Boxed2 W B x) := fun _ W W' row hs hg hr => by
  have e := grownBy_keeps_cells hg hr hs rfl
  exact e.trans hs
theorem cells_two_new (W : World) (x y : Int) : ∀ j u, [Value.int .u16 x, Value.int .u32 y][j]? = some u → (W.alloc (.cells #[.int .u16 x, .int .u32 y] 30)).cell? ((⟨W.heap.size, 0, none⟩ : Addr).add j) = some u := fun j u hj => by
  rw [addr_add, Nat.zero_add]
  match j, hj with
  | 0, hj => simp at hj; subst hj; simp
  | 1, hj => simp at hj; subst hj; simp
  | j + 2, hj => simp at hj
set_option maxRecDepth 100000 in
set_option maxHeartbeats 8000000 in
theorem appendSeq_in (F : Fence) (n : Nat) (h58 : F.fn 58) (hf : F.fn 59) (hro : F.round = none) (hn : 3 ≤ n) (Bm r : Nat) (L : List (Pid × Nat)) (w : World) (hB : Bm < w.heap.size) (hm : w.cell? ⟨Bm, 0, none⟩ = some (.map (some r))) (hM : MapIs w r pidV ptrV L) (hL : L.length ≤ 1000000) :
    CallsIn F n Try.prog 58 #[.slice none 0 0, .func (.func 59) #[] #[.pointer (some ⟨Bm, 0, none⟩)]] w fun e w' => ∃ v xs, e = .returned v ∧ OwnP w' w.heap.size v xs ∧ xs.Perm (L.map (·.1)) ∧ Below w.heap.size w w' := by
  have h1 : 1 ≤ n := by omega
  obtain ⟨i0, hi, hz0, hz1, hz2⟩ := info_parts info36
  refine callsIn_of_wp_marks Try.func58 rfl h58 ?_ hro
  simp only [Try.ntmps58, List.size_toArray, List.length_cons, List.length_nil, Nat.reduceAdd, Nat.reduceSub, Array.replicate_succ, Array.replicate_zero, List.push_toArray, List.append_toArray, List.nil_append, List.cons_append]
  gi_wp2
  have bB := Boxed.new w 60 (.slice none 0 0)
  obtain ⟨W0, hW0⟩ : ∃ W0, w.alloc (.cells #[.slice none 0 0] 60) = W0 := ⟨_, rfl⟩
  have hB0 : Below w.heap.size w W0 := by rw [← hW0]; exact (Below.refl _ w).alloc (Nat.le_refl _) _
  have hsz : W0.heap.size = w.heap.size + 1 := by rw [← hW0]; simp
  rw [hW0] at bB ⊢
  clear hW0
  refine wpIn_rangeFunc_ownH hro h1 (gf := 59) (lb := #[.pointer (some ⟨Bm, 0, none⟩)]) rfl hf (enters_of Try.func59 (by kernel_rfl) rfl)
    (keys_stops F (n - 1) hf hro (by omega) Bm r L W0 (by omega) ((hB0.cell (by exact hB)).trans hm) (hM.ext hB0)) walksK_t walksK_b (Below.refl _ _) (fun _ => rfl)
    (fun pre W => (∃ v, Boxed W w.heap.size 60 v ∧ W.ownsRow w.heap.size 30 2 v pre.length (pidCells pre) ∧ True) ∧ Below w.heap.size w W)
    (fun _ _ _ => False)
    (OwnFrom.and (Own.from (holdsRow_own w.heap.size w.heap.size 60 30 2 (fun pre : List Pid => pre.length) (fun pre => pidCells pre) (fun _ _ => True)) _) (ownFrom_below (Nat.le_refl _) (by omega)))
    (fun _ _ _ _ _ hs _ _ => hs)
    ⟨⟨_, bB, World.ownsRow_nil _ _ _ _, trivial⟩, hB0⟩
    (fun x a' W => ∃ Bx, w.heap.size < Bx ∧ Boxed2 W Bx x ∧ a' = { tmps := #[.slice none 0 0, .func (.func 59) #[] #[.pointer (some ⟨Bm, 0, none⟩)], .pointer (some ⟨w.heap.size, 0, none⟩), undef, .slice none 0 0, .pointer (some ⟨Bx, 0, none⟩), .func (.func 59) #[] #[.pointer (some ⟨Bm, 0, none⟩)], pidV x, undef, undef, undef, undef, undef], defers := [] })
    (fun x a' _ X Y row hs hg hr => by obtain ⟨Bx, h1, h2, h3⟩ := hs; exact ⟨Bx, h1, boxed2_own Bx x () X Y row h2 hg (fun r e => (hr r e).2), h3⟩)
    ?assign ?body ?done ?stop
  case assign =>
    rintro l pre ⟨x, y⟩ W K ⟨⟨v, bv, hr, -⟩, hB1⟩ hK
    gi_wp2
    refine hK _ _ ((KeepsOthers.alloc _ _).from _) (KeepsWalks.alloc _ _) ⟨⟨v, bv.alloc _, hr.alloc _, trivial⟩, hB1.alloc hB1.size _⟩ ⟨W.heap.size, by have := bv.lt; omega, World.alloc_heap_new W _, rfl⟩
  case body =>
    rintro l pre ⟨x, y⟩ a' W hl ⟨rr, hrr⟩ ⟨⟨v, bv, hrow, -⟩, hB1⟩ ⟨Bx, hBx, bX, rfl⟩ hlt
    have cv := bv.cell
    have fv := bv.frozen
    obtain ⟨cx, cy⟩ := bX.cells
    have hbz := hB1.size
    gi_wp2_with (first
      | (gi_at_builtin; refine wpListIn_append_own _ rfl _ _ 60 rfl w.heap.size 30 i0 _ 2 8 Try.underlying60 hi hz0 hz1 hz2 rfl (by decide) _ _ _ rfl (hrow.alloc _) ⟨W.heap.size, 0, none⟩ 1 1 [.int .u16 x, .int .u32 y] rfl rfl (cells_two_new W x y) (fun u hu => by simp at hu; rcases hu with rfl | rfl <;> rfl) (by unfold maxLen; omega) (by omega) (by simp; omega) ?_; intro v' w1 hown' hgrow _; obtain ⟨g', cap', rfl⟩ := ownsRow_succ hown'; obtain ⟨hv1, hv2, hr2, hk2, hb2⟩ := bv.appended (by decide) hrow hbz (Nat.le_refl _) hown' hgrow; have hc1 := hv1.cell; have hf1 := hv1.frozen)
      | gi_in)
    have hr3 : (w1.setCell ⟨w.heap.size, 0, none⟩ (.slice (some ⟨g', 0, none⟩) (pre.length + 1) cap')).ownsRow w.heap.size 30 2 (.slice (some ⟨g', 0, none⟩) (pre.length + 1) cap') (pre ++ [(x, y)]).length (pidCells (pre ++ [(x, y)])) := by
      rw [pidCells_append, List.length_append]; exact hr2
    exact ⟨hk2.from _, hk2.walks, ⟨_, hv2, hr3⟩, hB1.trans hb2⟩
  case done =>
    rintro D xs W hD hP ⟨⟨v, bv, hrow, -⟩, hB1⟩ hK
    have cv := bv.cell
    gi_wp2
    refine ⟨by simp, .inl ⟨_, _, rfl, run_takeDeferred hK, ?_⟩⟩
    exact ⟨_, results_tmp rfl _ _ _, v, xs, rfl, ownsRow_putObj hrow _ hK rfl, hP, hB1.trans (belowK_b (w := w) (Nat.le_refl _) W D _ _ (by omega) hK rfl rfl)⟩
  case stop =>
    rintro D c pre W _ _ h _
    exact h.elim
end Go.Proofs.Ytidohmpnefcpcaa

namespace Go.Proofs.Ytidohmpnefcpcaa
open Go.RowKit
/-! ### the hub in the heap -/
theorem collect_any (Bm r : Nat) (L : List (Pid × Nat)) (w : World) (hB : Bm < w.heap.size) (hm : w.cell? ⟨Bm, 0, none⟩ = some (.map (some r))) (hM : MapIs w r pidV ptrV L) (hL : L.length ≤ 1000000) :
    Calls Try.prog 47 #[.func (.func 59) #[] #[.pointer (some ⟨Bm, 0, none⟩)]] w fun e w' => ∃ v xs, e = .returned v ∧ OwnP w' w.heap.size v xs ∧ xs.Perm (L.map (·.1)) ∧ Below w.heap.size w w' := by
  have CA : Calls Try.prog 58 #[.slice none 0 0, .func (.func 59) #[] #[.pointer (some ⟨Bm, 0, none⟩)]] w fun e w' => ∃ v xs, e = .returned v ∧ OwnP w' w.heap.size v xs ∧ xs.Perm (L.map (·.1)) ∧ Below w.heap.size w w' :=
    callsIn_wide.1 (appendSeq_in Fence.wide 3 trivial trivial rfl (Nat.le_refl _) Bm r L w hB hm hM hL)
  go_enter Try.func47, Try.ntmps47
  go_wp2_with (go_at_call 58; refine CA.mono ?_; rintro e w1 ⟨v, xs, rfl, h1, h2, h3⟩)
  go_ret
  exact ⟨_, xs, rfl, h1, h2, h3⟩
structure HubX where
  p : Pid
  k : LnkP
  d : LnkD
def fpH (h r : Nat) (L : List HubX) (b : Nat) : Prop := b = h ∨ b = r ∨ ∃ x ∈ L, fpL x.k b
structure HubIs (w : World) (N : Nat → Prop) (h r : Nat) (sf : Pid) (L : List HubX) : Prop where
  c0 : w.cell? ⟨h, 0, none⟩ = some (.int .u16 sf.1)
  c1 : w.cell? ⟨h, 1, none⟩ = some (.int .u32 sf.2)
  c2 : w.cell? ⟨h, 2, none⟩ = some (.map (some r))
  hn : N h
  rn : N r
  hr : h ≠ r
  map : MapIs w r pidV ptrV (L.map fun x => (x.p, x.k.lb))
  lnk : ∀ x ∈ L, LnkIs w N x.k x.d
  out : ∀ x ∈ L, ∀ b, fpL x.k b → b ≠ h ∧ b ≠ r
  dis : L.Pairwise fun x y => ∀ b, fpL x.k b → ¬ fpL y.k b
  nd : (L.map (·.p)).Nodup
  lim : L.length ≤ 48
  oks : ∀ x ∈ L, ok x.p
section
variable {w w' : World} {N N' G : Nat → Prop} {h r : Nat} {sf : Pid} {L : List HubX}
theorem HubIs.lt (H : HubIs w N h r sf L) : h < w.heap.size := World.block_lt_of_cell? w _ H.c0
theorem HubIs.fp (H : HubIs w N h r sf L) : ∀ b, fpH h r L b → N b := fun b e => by
  rcases e with e | e | ⟨x, hx, e⟩
  · rw [e]; exact H.hn
  · rw [e]; exact H.rn
  · exact (H.lnk x hx).fp b e
theorem HubIs.fplt (H : HubIs w N h r sf L) : ∀ b, fpH h r L b → b < w.heap.size := fun b e => by
  rcases e with e | e | ⟨x, hx, e⟩
  · rw [e]; exact H.lt
  · rw [e]; exact H.map.lt
  · exact (H.lnk x hx).fplt b e
theorem HubIs.mut (H : HubIs w N h r sf L) (hm : Mut G w w') (hG : ∀ b, b < w.heap.size → G b → N b) (hf : ∀ b, fpH h r L b → ¬ G b) : HubIs w' N h r sf L :=
  ⟨(hm.cell (by exact H.lt) (hf _ (.inl rfl))).trans H.c0, (hm.cell (by exact H.lt) (hf _ (.inl rfl))).trans H.c1, (hm.cell (by exact H.lt) (hf _ (.inl rfl))).trans H.c2, H.hn, H.rn, H.hr, H.map.same (hm.block _ H.map.lt (hf _ (.inr (.inl rfl)))), fun x hx => (H.lnk x hx).mut hm hG fun b e => hf b (.inr (.inr ⟨x, hx, e⟩)), H.out, H.dis, H.nd, H.lim, H.oks⟩
theorem HubIs.ext (H : HubIs w N h r sf L) (hb : Below w.heap.size w w') : HubIs w' N h r sf L :=
  H.mut (Mut.of_below (F := fun _ => False) hb) (fun _ _ e => e.elim) fun _ _ e => e
theorem HubIs.less (H : HubIs w N h r sf L) (hf : ∀ b, fpH h r L b → N' b) (hN : ∀ b, N' b → N b ∨ w.heap.size ≤ b) : HubIs w N' h r sf L :=
  ⟨H.c0, H.c1, H.c2, hf _ (.inl rfl), hf _ (.inr (.inl rfl)), H.hr, H.map, fun x hx => (H.lnk x hx).less (fun b e => hf b (.inr (.inr ⟨x, hx, e⟩))) hN, H.out, H.dis, H.nd, H.lim, H.oks⟩
/-- a link is there, or it is not -/
theorem lookX (p : Pid) : ∀ L : List HubX, (look p (L.map fun x => (x.p, x.k.lb)) = none ∧ p ∉ L.map (·.p)) ∨ ∃ A x B, L = A ++ x :: B ∧ x.p = p ∧ p ∉ A.map (·.p) ∧ look p (L.map fun x => (x.p, x.k.lb)) = some x.k.lb
  | [] => .inl ⟨rfl, by simp⟩
  | y :: l => by
    by_cases hp : p = y.p
    · exact .inr ⟨[], y, l, rfl, hp.symm, by simp, by simp [look, hp]⟩
    · rcases lookX p l with ⟨e1, e2⟩ | ⟨A, x, B, e1, e2, e3, e4⟩
      · exact .inl ⟨by simp only [List.map_cons, look, if_neg hp]; exact e1, by simp only [List.map_cons, List.mem_cons, not_or]; exact ⟨hp, e2⟩⟩
      · exact .inr ⟨y :: A, x, B, by rw [e1]; rfl, e2, by simp only [List.map_cons, List.mem_cons, not_or]; exact ⟨hp, e3⟩, by simp only [List.map_cons, look, if_neg hp]; exact e4⟩
/-- one link was turned -/
theorem HubIs.turn {A B : List HubX} {x : HubX} {k : LnkP} {d : LnkD} (H : HubIs w N h r sf (A ++ x :: B)) (hm : Mut (fpL x.k) w w') (hNN : ∀ b, N b → N' b) (hN : ∀ b, N' b → N b ∨ w.heap.size ≤ b) (hl : LnkIs w' N' k d) (hlb : k.lb = x.k.lb) (hfk : ∀ b, fpL k b → fpL x.k b ∨ w.heap.size ≤ b) : HubIs w' N' h r sf (A ++ ⟨x.p, k, d⟩ :: B) := by
  have hx : x ∈ A ++ x :: B := by simp
  have hfx := (H.lnk x hx).fp
  have hho := fun b e => H.out x hx b e
  have hd := List.pairwise_append.1 H.dis
  have hd2 := List.pairwise_cons.1 hd.2.1
  have hoth : ∀ y, y ∈ A ∨ y ∈ B → ∀ b, fpL y.k b → ¬ fpL x.k b := fun y hy b e e2 => by
    rcases hy with hy | hy
    · exact hd.2.2 y hy x (by simp) b e e2
    · exact hd2.1 y hy b e2 e
  have hmem : ∀ y, y ∈ A ∨ y ∈ B → y ∈ A ++ x :: B := fun y hy => by
    rcases hy with hy | hy
    · simp [hy]
    · simp [hy]
  have hsplit : ∀ y, y ∈ A ++ (⟨x.p, k, d⟩ : HubX) :: B → y = ⟨x.p, k, d⟩ ∨ (y ∈ A ∨ y ∈ B) := fun y hy => by
    simp only [List.mem_append, List.mem_cons] at hy
    rcases hy with hy | hy | hy
    · exact .inr (.inl hy)
    · exact .inl hy
    · exact .inr (.inr hy)
  have hG : ∀ b, b < w.heap.size → fpL x.k b → N' b := fun b _ e => hNN b (hfx b e)
  have hnew : ∀ y, y ∈ A ∨ y ∈ B → ∀ b, fpL y.k b → ¬ fpL k b := fun y hy b e e2 => by
    rcases hfk b e2 with e3 | e3
    · exact hoth y hy b e e3
    · have := (H.lnk y (hmem y hy)).fplt b e; omega
  have hhr : ∀ b, b = h ∨ b = r → ¬ fpL x.k b := fun b e e2 => by
    rcases e with e | e
    · exact (hho b e2).1 e
    · exact (hho b e2).2 e
  have hlt := H.lt
  have hrt := H.map.lt
  refine ⟨(hm.cell (by exact hlt) (hhr h (.inl rfl))).trans H.c0, (hm.cell (by exact hlt) (hhr h (.inl rfl))).trans H.c1, (hm.cell (by exact hlt) (hhr h (.inl rfl))).trans H.c2, hNN _ H.hn, hNN _ H.rn, H.hr, ?_, fun y hy => ?_, fun y hy b e => ?_, ?_, ?_, by have := H.lim; simpa using this, fun y hy => ?_⟩
  · have := H.map.same (hm.block _ hrt (hhr r (.inr rfl)))
    simpa [hlb] using this
  · rcases hsplit y hy with rfl | hy
    · exact hl
    · have hly := (H.lnk y (hmem y hy)).less (N' := N') (fun b e => hNN b ((H.lnk y (hmem y hy)).fp b e)) hN
      exact hly.mut hm hG (hoth y hy)
  · rcases hsplit y hy with rfl | hy
    · rcases hfk b e with e | e
      · exact hho b e
      · exact ⟨by omega, by omega⟩
    · exact H.out y (hmem y hy) b e
  · refine List.pairwise_append.2 ⟨hd.1, List.pairwise_cons.2 ⟨fun y hy b e e2 => hnew y (.inr hy) b e2 e, hd2.2⟩, fun y hy z hz b e e2 => ?_⟩
    rcases List.mem_cons.1 hz with rfl | hz
    · exact hnew y (.inl hy) b e e2
    · exact hd.2.2 y hy z (by simp [hz]) b e e2
  · have := H.nd; simpa using this
  · rcases hsplit y hy with rfl | hy
    · exact H.oks x hx
    · exact H.oks y (hmem y hy)
/-- a link was added -/
theorem HubIs.add {p : Pid} {k : LnkP} {d : LnkD} (H : HubIs w N h r sf L) (hl : LnkIs w N k d) (hfk : ∀ b, fpL k b → ¬ fpH h r L b) (hp : p ∉ L.map (·.p)) (hok : ok p) (hlen : L.length < 48)
    (hM : MapIs w' r pidV ptrV (L.map (fun x => (x.p, x.k.lb)) ++ [(p, k.lb)])) (hb : But r w w') : HubIs w' N h r sf (L ++ [⟨p, k, d⟩]) := by
  have hm : Mut (fun b => b = r) w w' := Mut.of_but hb rfl
  have hG : ∀ b, b < w.heap.size → b = r → N b := fun b _ e => by rw [e]; exact H.rn
  have hsplit : ∀ y, y ∈ L ++ [(⟨p, k, d⟩ : HubX)] → y ∈ L ∨ y = ⟨p, k, d⟩ := fun y hy => by simpa using hy
  refine ⟨(hb.cell (by exact H.hr)).trans H.c0, (hb.cell (by exact H.hr)).trans H.c1, (hb.cell (by exact H.hr)).trans H.c2, H.hn, H.rn, H.hr, by simpa using hM, fun y hy => ?_, fun y hy b e => ?_, ?_, ?_, by simp; omega, fun y hy => ?_⟩
  · rcases hsplit y hy with hy | rfl
    · exact (H.lnk y hy).mut hm hG fun b e e2 => (H.out y hy b e).2 e2
    · exact hl.mut hm hG fun b e e2 => hfk b e (.inr (.inl e2))
  · rcases hsplit y hy with hy | rfl
    · exact H.out y hy b e
    · exact ⟨fun e2 => hfk b e (.inl e2), fun e2 => hfk b e (.inr (.inl e2))⟩
  · refine List.pairwise_append.2 ⟨H.dis, by simp, fun y hy z hz b e e2 => ?_⟩
    rw [List.mem_singleton.1 hz] at e2
    exact hfk b e2 (.inr (.inr ⟨y, hy, e⟩))
  · rw [List.map_append, List.nodup_append]
    refine ⟨H.nd, by simp, fun a ha b hb e => ?_⟩
    simp at hb
    rw [e, hb] at ha
    exact hp ha
  · rcases hsplit y hy with hy | rfl
    · exact H.oks y hy
    · exact hok
/-- what a call of a hub leaves -/
structure HubR (w w' : World) (N N' : Nat → Prop) (h r : Nat) (sf : Pid) (L L' : List HubX) : Prop where
  is : HubIs w' N' h r sf L'
  up : ∀ b, N b → N' b
  nw : ∀ b, N' b → N b ∨ w.heap.size ≤ b
  lt : ∀ b, N' b → b < w'.heap.size
  mt : Mut (fpH h r L) w w'
  fq : ∀ b, fpH h r L' b → fpH h r L b ∨ w.heap.size ≤ b
theorem HubR.same (H : HubIs w N h r sf L) (hlt : ∀ b, N b → b < w.heap.size) (hb : Below w.heap.size w w') : HubR w w' N N h r sf L L :=
  ⟨H.ext hb, fun _ e => e, fun _ e => .inl e, fun b e => Nat.lt_of_lt_of_le (hlt b e) hb.size, Mut.of_below hb, fun _ e => .inl e⟩
theorem HubR.trans {w3 : World} {N3 : Nat → Prop} {L' L3 : List HubX} (A : HubR w w' N N' h r sf L L') (B : HubR w' w3 N' N3 h r sf L' L3) : HubR w w3 N N3 h r sf L L3 :=
  have hz := A.mt.size
  ⟨B.is, fun b e => B.up b (A.up b e), fun b e => (B.nw b e).elim (fun e => A.nw b e) fun e => .inr (by omega), B.lt,
   A.mt.transG B.mt fun b hb e => (A.fq b e).elim id fun e => (by omega),
   fun b e => (B.fq b e).elim (fun e => A.fq b e) fun e => .inr (by omega)⟩
end
end Go.Proofs.Ytidohmpnefcpcaa

namespace Go.Proofs.Ytidohmpnefcpcaa
open Go.RowKit
/-! ### the hub's functions -/
theorem det_ext {P : Program} {f : FuncId} {args : Array Value} {w0 : World} {v : Value} (h : Hid (∀ W, Below w0.heap.size w0 W → Calls P f args W fun e w' => e = .returned v ∧ Below W.heap.size W w')) (U : ExtW w0) :
    Calls P f args U.W fun e w' => e = .returned v ∧ ∃ U' : ExtW w0, w' = U'.W := by
  refine (h.out U.W U.h).mono ?_
  rintro e w' ⟨rfl, hb⟩
  exact ⟨rfl, ⟨_, U.h.trans (hb.mono U.h.size)⟩, rfl⟩
theorem cell_extK {w : World} {a : Addr} {v : Value} (h : w.cell? a = some v) : ∀ U : ExtW w, U.W.cell? a = some v := fun U => (U.h.cell (World.block_lt_of_cell? w _ h)).trans h
theorem HubIs.made (w : World) (p : Pid) (N : Nat → Prop) (t : TypeId) : HubIs ((w.alloc (.map #[] 0)).alloc (.cells #[.int .u16 p.1, .int .u32 p.2, .map (some w.heap.size)] t)) (fun b => N b ∨ fpH (w.heap.size + 1) w.heap.size [] b) (w.heap.size + 1) w.heap.size p [] :=
  ⟨by simp, by simp, by simp, .inr (.inl rfl), .inr (.inr (.inl rfl)), by omega, (MapIs.made w).alloc _, fun x h => (by cases h), fun x h => (by cases h), List.Pairwise.nil, List.nodup_nil, by simp, fun x h => (by cases h)⟩
theorem hnew_any (p : Pid) (w : World) (N : Nat → Prop) : Calls Try.prog 7 #[.agg #[.int .u16 p.1, .int .u32 p.2]] w fun e w' => ∃ h r, e = .returned (.pointer (some ⟨h, 0, none⟩)) ∧ Below w.heap.size w w' ∧ HubIs w' (fun b => N b ∨ fpH h r [] b) h r p [] ∧ w.heap.size ≤ h ∧ w.heap.size ≤ r := by
  have hmm := @run_makeMap Try.prog
  obtain ⟨x, y⟩ := p
  go_enter Try.func7, Try.ntmps7
  go_wp2_with fail
  go_ret
  have hm := HubIs.made (w.alloc (.cells #[.int .u16 x, .int .u32 y] 30)) (x, y) N 74
  simp only [World.size_alloc] at hm ⊢
  exact ⟨_, _, rfl, (((Below.refl _ _).alloc (Nat.le_refl _) _).alloc (by simp) _).alloc (by simp; omega) _, hm, by omega, by omega⟩
set_option maxRecDepth 100000 in
set_option maxHeartbeats 1600000 in
theorem other_any {w : World} {N : Nat → Prop} {h r : Nat} {sf : Pid} {L : List HubX} (H : HubIs w N h r sf L) (x y : Int) : Calls Try.prog 29 #[.pointer (some ⟨h, 0, none⟩), .agg #[.int .u16 x, .int .u32 y]] w fun e w' => e = .returned (.bool (mayB (x, y) && !decide ((x, y) = sf))) ∧ Below w.heap.size w w' := by
  have hb1 : Below w.heap.size w (w.alloc (.cells #[.int .u16 x, .int .u32 y] 30)) := (Below.refl _ _).alloc (Nat.le_refl _) _
  obtain ⟨W1, hW1⟩ : ∃ W1, w.alloc (.cells #[.int .u16 x, .int .u32 y] 30) = W1 := ⟨_, rfl⟩
  have d0 : W1.cell? ⟨w.heap.size, 0, none⟩ = some (.int .u16 x) := by rw [← hW1]; simp
  have d1 : W1.cell? ⟨w.heap.size, 1, none⟩ = some (.int .u32 y) := by rw [← hW1]; simp
  rw [hW1] at hb1
  have c0 := (H.ext hb1).c0
  have c1 := (H.ext hb1).c1
  obtain ⟨a, b⟩ := sf
  have g0 := cell_extK c0
  have g1 := cell_extK c1
  have g2 := cell_extK d0
  have g3 := cell_extK d1
  have hne : ∀ w, (binOp .neq 30 (.agg #[.int .u16 x, .int .u32 y]) (.agg #[.int .u16 a, .int .u32 b])).run Try.prog w = .ok (.bool (!decide ((x, y) = (a, b)))) w := fun w => neq_pid x y a b w
  obtain ⟨q, hq⟩ : ∃ q, (!decide ((x, y) = (a, b))) = q := ⟨_, rfl⟩
  have HQ : Hid ((!decide ((x, y) = (a, b))) = q) := hid hq
  simp only [hq] at hne
  cases hm : mayB (x, y)
  · have C1 : Hid (∀ W, Below W1.heap.size W1 W → Calls Try.prog 49 #[.agg #[.int .u16 x, .int .u32 y]] W fun e w' => e = .returned (.bool false) ∧ Below W.heap.size W w') := hid fun W _ => may_is (hid hm)
    have HB1 := hid hb1
    clear hm H c0 c1 d0 d1 hb1 hq
    go_enter Try.func29, Try.ntmps29
    go_wp2_with fail
    refine wp_region_ext (w := W1) (Below.refl _ _) (by kernel_rfl) (by kernel_rfl) ?_
    repeat (go_big_quiet_step (exact det_ext C1 _))
    refine wpQuiet_nil ?_
    rintro _ ⟨⟨w9, hb9⟩, rfl⟩
    go_wp2_with fail
    go_ret
    exact ⟨rfl, HB1.out.trans (hb9.mono HB1.out.size)⟩
  · have C1 : Hid (∀ W, Below W1.heap.size W1 W → Calls Try.prog 49 #[.agg #[.int .u16 x, .int .u32 y]] W fun e w' => e = .returned (.bool true) ∧ Below W.heap.size W w') := hid fun W _ => may_is (hid hm)
    have HB1 := hid hb1
    clear hm H c0 c1 d0 d1 hb1 hq
    go_enter Try.func29, Try.ntmps29
    go_wp2_with fail
    refine wp_region_ext (w := W1) (Below.refl _ _) (by kernel_rfl) (by kernel_rfl) ?_
    repeat (go_big_quiet_step (exact det_ext C1 _))
    refine wpQuiet_nil ?_
    rintro _ ⟨⟨w9, hb9⟩, rfl⟩
    go_wp2_with fail
    go_ret
    exact ⟨by rw [HQ.out]; rfl, HB1.out.trans (hb9.mono HB1.out.size)⟩
end Go.Proofs.Ytidohmpnefcpcaa

namespace Go.Proofs.Ytidohmpnefcpcaa
open Go.RowKit
/-! ### hub: link -/
abbrev HubD := List (Pid × LnkD)
def hubD (L : List HubX) : HubD := L.map fun x => (x.p, x.d)
def linkD (H : HubD) (p : Pid) : Option HubD := match look p H with
  | some _ => some H
  | none => if H.length < 48 then some (H ++ [(p, lnkNew)]) else none
theorem look_hubD {p : Pid} : ∀ {L : List HubX}, p ∉ L.map (·.p) → look p (hubD L) = none
  | [], _ => rfl
  | x :: l, h => by
    simp only [List.map_cons, List.mem_cons, not_or] at h
    simp only [hubD, List.map_cons, look, if_neg h.1]
    exact look_hubD h.2
theorem look_hubD_at {A B : List HubX} {x : HubX} (h : x.p ∉ A.map (·.p)) : look x.p (hubD (A ++ x :: B)) = some x.d := by
  induction A with
  | nil => simp [hubD, look]
  | cons y l ih =>
    simp only [List.map_cons, List.mem_cons, not_or] at h
    simp only [hubD, List.cons_append, List.map_cons, look, if_neg h.1]
    exact ih h.2
theorem zeroLk (w : World) : (zeroValue 75).run Try.prog w = .ok (.pointer none) w := by kernel_rfl
/-- what link leaves: no room; or the link, which stands in the hub -/
def LinkR (w w' : World) (N : Nat → Prop) (h r : Nat) (sf : Pid) (L : List HubX) (p : Pid) (e : Ending) : Prop :=
  (e = .returned (.pointer none) ∧ linkD (hubD L) p = none ∧ Below w.heap.size w w') ∨
  ∃ N' A x B, e = .returned (.pointer (some ⟨x.k.lb, 0, none⟩)) ∧ HubR w w' N N' h r sf L (A ++ x :: B) ∧ x.p = p ∧ p ∉ A.map (·.p) ∧ linkD (hubD L) p = some (hubD (A ++ x :: B))
set_option maxRecDepth 100000 in
set_option maxHeartbeats 3200000 in
theorem hlink_any {w : World} {N : Nat → Prop} {h r : Nat} {sf : Pid} {L : List HubX} (H : HubIs w N h r sf L) (hN : ∀ b, N b → b < w.heap.size) (x y : Int) (hok : ok (x, y)) :
    Calls Try.prog 30 #[.pointer (some ⟨h, 0, none⟩), .agg #[.int .u16 x, .int .u32 y]] w fun e w' => LinkR w w' N h r sf L (x, y) e := by
  have hb1 : Below w.heap.size w (w.alloc (.cells #[.int .u16 x, .int .u32 y] 30)) := (Below.refl _ _).alloc (Nat.le_refl _) _
  obtain ⟨W1, hW1⟩ : ∃ W1, w.alloc (.cells #[.int .u16 x, .int .u32 y] 30) = W1 := ⟨_, rfl⟩
  have d0 : W1.drew.cell? ⟨w.heap.size, 0, none⟩ = some (.int .u16 x) := by rw [← hW1]; simp
  have d1 : W1.drew.cell? ⟨w.heap.size, 1, none⟩ = some (.int .u32 y) := by rw [← hW1]; simp
  rw [hW1] at hb1
  have H1 := (H.ext hb1).ext (Below.refl _ _).drew
  have hb1' := hb1.drew
  have c2 := H1.c2
  have hmp := H1.map
  have HH := hid H
  have HH1 := hid H1
  have HB1 := hid hb1'
  rcases lookX (x, y) L with ⟨e1, e2⟩ | ⟨A, z, B, e1, e2, e3, e4⟩
  · have hlk : ∀ W, MapIs W r pidV ptrV (L.map fun x => (x.p, x.k.lb)) → (Instr.lookup 72 (.map (some r)) (.agg #[.int .u16 x, .int .u32 y]) true).run Try.prog W = .ok (.tuple #[.pointer none, .bool false]) W := fun W hM => by
      have := hM.lookup_ok keyPid Try.underlying72 (zeroLk W) (x, y)
      rw [e1] at this
      exact this
    obtain ⟨n, hn⟩ : ∃ n, L.length = n := ⟨_, rfl⟩
    have hlen : ∀ ty, (Builtin.len_ #[72] ty #[.map (some r)]).run Try.prog W1.drew = .ok (.int .i64 n) W1.drew := fun ty => by
      have := hmp.len Try.underlying72 ty
      rw [List.length_map, hn] at this
      exact this
    by_cases h48 : n < 48
    · have t1 : decide ((n : Int) < 48) = true := decide_eq_true (by omega)
      have t2 : decide (n < 48) = true := decide_eq_true h48
      have HE : Hid (linkD (hubD L) (x, y) = some (hubD L ++ [((x, y), lnkNew)])) := hid (by unfold linkD; rw [look_hubD e2]; show (if (hubD L).length < 48 then _ else _) = _; rw [if_pos (by simp [hubD]; omega)])
      have CN : Hid (Calls Try.prog 50 #[] W1.drew fun e w' => ∃ p : LnkP, e = .returned (.pointer (some ⟨p.lb, 0, none⟩)) ∧ Below W1.drew.heap.size W1.drew w' ∧ LnkIs w' (fun b => N b ∨ fpL p b) p lnkNew ∧ ∀ b, fpL p b → W1.drew.heap.size ≤ b) := hid (lnew_any W1.drew N fun b e => Nat.lt_of_lt_of_le (hN b e) hb1'.size)
      have HNN := hid hN
      have HP := hid e2
      have HOK := hid hok
      have HLN : Hid (L.length < 48) := hid (by omega)
      have HEL := hid e1
      clear H H1 hb1 hb1' e1 e2 hN hok hn h48
      go_enter Try.func30, Try.ntmps30
      go_wp2_with fail
      go_region_held3 (fun W => MapIs W r pidV ptrV (L.map fun x => (x.p, x.k.lb)) ∧ W.cell? ⟨h, 2, none⟩ = some (.map (some r)) ∧ W.cell? ⟨w.heap.size, 0, none⟩ = some (.int .u16 x) ∧ W.cell? ⟨w.heap.size, 1, none⟩ = some (.int .u32 y)) (first | exact ⟨hmp, c2, d0, d1⟩) (fail)
      go_wp2_with fail
      refine CN.out.mono ?_
      rintro e w2 ⟨k, rfl, hb2, hl2, hfr⟩
      have hbw := HB1.out
      have hz1 := hbw.size
      have hz2 := hb2.size
      have H2 := ((HH1.out.less (N' := fun b => N b ∨ fpL k b) (fun b e => .inl (HH1.out.fp b e)) (fun b e => e.elim .inl fun e => .inr (hfr b e))).ext hb2).ext (Below.refl _ _).drew
      have hl3 := hl2.ext (Below.refl _ _).drew
      obtain ⟨w3, hrun, hM3, hbut⟩ := H2.map.update keyPid Try.underlying72 (x, y) k.lb
      rw [ins_none HEL.out] at hM3
      have H3 := H2.add hl3 (fun b e e2 => by have h1 := hfr b e; have h2 := HH1.out.fplt b e2; omega) HP.out HOK.out HLN.out hM3 hbut
      have k2 := H2.c2
      have k3 := H3.c2
      have hhr : h ≠ r := H2.hr
      have hwr : w.heap.size ≠ r := fun e => by have := HH.out.map.lt; omega
      have p0 : w2.drew.cell? ⟨w.heap.size, 0, none⟩ = some (.int .u16 x) := cell_toB d0 hb2.drew
      have p1 : w2.drew.cell? ⟨w.heap.size, 1, none⟩ = some (.int .u32 y) := cell_toB d1 hb2.drew
      have s0 := (hbut.cell (p := ⟨w.heap.size, 0, none⟩) (by exact hwr)).trans p0
      have s1 := (hbut.cell (p := ⟨w.heap.size, 1, none⟩) (by exact hwr)).trans p1
      have HR : Hid (HubR w w3 N (fun b => N b ∨ fpL k b) h r sf L (L ++ [⟨(x, y), k, lnkNew⟩])) := hid ⟨H3, fun b e => .inl e, fun b e => e.elim .inl fun e => .inr (by have := hfr b e; omega), fun b e => by
        have hsz : w3.heap.size = w2.heap.size := hbut.size
        rw [hsz]
        rcases e with e | e
        · have := HNN.out b e; omega
        · exact hl2.fplt b e, (Mut.of_below (hbw.trans (hb2.drew.mono hz1))).trans (Mut.of_but hbut (.inr (.inl rfl))), fun b e => by
        rcases e with e | e | ⟨z, hz, e⟩
        · exact .inl (.inl e)
        · exact .inl (.inr (.inl e))
        · rcases List.mem_append.1 hz with hz | hz
          · exact .inl (.inr (.inr ⟨z, hz, e⟩))
          · rw [List.mem_singleton.1 hz] at e
            exact .inr (by have := hfr b e; omega)⟩
      have hrun2 : (Instr.mapUpdate 72 (.map (some r)) (.agg #[.int .u16 x, .int .u32 y]) (.pointer (some ⟨k.lb, 0, none⟩))).run Try.prog w2.drew = .ok () w3 := hrun
      clear H2 H3 hl3 hM3 hbut hl2 hfr hb2 hbw hlk hmp hrun
      go_upto_region 6 with fail
      go_region_held3 (fun W => W.cell? ⟨h, 2, none⟩ = some (.map (some r)) ∧ W.cell? ⟨w.heap.size, 0, none⟩ = some (.int .u16 x) ∧ W.cell? ⟨w.heap.size, 1, none⟩ = some (.int .u32 y)) (first | exact ⟨k2, p0, p1⟩ | exact ⟨k3, s0, s1⟩) (fail)
      go_wp2_with fail
      go_ret
      exact .inr ⟨_, L, ⟨(x, y), k, lnkNew⟩, [], rfl, HR.out, rfl, HP.out, by rw [HE.out]; simp [hubD]⟩
    · have t1 : decide ((n : Int) < 48) = false := decide_eq_false (by omega)
      have t2 : decide (n < 48) = false := decide_eq_false h48
      have HE : Hid (linkD (hubD L) (x, y) = none) := hid (by unfold linkD; rw [look_hubD e2]; show (if (hubD L).length < 48 then _ else _) = _; rw [if_neg (by simp [hubD]; omega)])
      clear H H1 hb1 hb1' e1 e2 hN hok hn h48
      go_enter Try.func30, Try.ntmps30
      go_wp2_with fail
      go_region_held3 (fun W => MapIs W r pidV ptrV (L.map fun x => (x.p, x.k.lb)) ∧ W.cell? ⟨h, 2, none⟩ = some (.map (some r)) ∧ W.cell? ⟨w.heap.size, 0, none⟩ = some (.int .u16 x) ∧ W.cell? ⟨w.heap.size, 1, none⟩ = some (.int .u32 y)) (first | exact ⟨hmp, c2, d0, d1⟩) (fail)
      go_wp2_with fail
      go_ret
      exact .inl ⟨rfl, HE.out, HB1.out⟩
  · have hlk : ∀ W, MapIs W r pidV ptrV (L.map fun x => (x.p, x.k.lb)) → (Instr.lookup 72 (.map (some r)) (.agg #[.int .u16 x, .int .u32 y]) true).run Try.prog W = .ok (.tuple #[.pointer (some ⟨z.k.lb, 0, none⟩), .bool true]) W := fun W hM => by
      have := hM.lookup_ok keyPid Try.underlying72 (zeroLk W) (x, y)
      rw [e4] at this
      exact this
    have HE : Hid (L = A ++ z :: B ∧ z.p = (x, y) ∧ (x, y) ∉ A.map (·.p)) := hid ⟨e1, e2, e3⟩
    have HNN := hid hN
    clear H H1 hb1 hb1' e1 e2 e3 e4 hN hok
    go_enter Try.func30, Try.ntmps30
    go_wp2_with fail
    go_region_held3 (fun W => MapIs W r pidV ptrV (L.map fun x => (x.p, x.k.lb)) ∧ W.cell? ⟨h, 2, none⟩ = some (.map (some r)) ∧ W.cell? ⟨w.heap.size, 0, none⟩ = some (.int .u16 x) ∧ W.cell? ⟨w.heap.size, 1, none⟩ = some (.int .u32 y)) (first | exact ⟨hmp, c2, d0, d1⟩) (fail)
    go_wp2_with fail
    go_ret
    obtain ⟨e1, e2, e3⟩ := HE.out
    subst e1
    refine .inr ⟨N, A, z, B, rfl, HubR.same HH.out HNN.out HB1.out, e2, e3, ?_⟩
    unfold linkD
    rw [← e2, look_hubD_at (by rw [e2]; exact e3)]
end Go.Proofs.Ytidohmpnefcpcaa

namespace Go.Proofs.Ytidohmpnefcpcaa
open Go.RowKit
/-! ### hub: Send, Waits -/
def otherB (sf p : Pid) : Bool := mayB p && !decide (p = sf)
def sendR (sf : Pid) (H : HubD) (p : Pid) (bs : List Nat) : Int × HubD :=
  if otherB sf p = true then
    match linkD H p with
    | none => (7, H)
    | some H' => match look p H' with
      | none => (7, H')
      | some d => (putC d.snd bs, ins p { d with snd := putD d.snd bs } H')
  else (1, H)
theorem ins_hubD {A B : List HubX} {x : HubX} {k : LnkP} {d : LnkD} (h : x.p ∉ A.map (·.p)) : ins x.p d (hubD (A ++ x :: B)) = hubD (A ++ ⟨x.p, k, d⟩ :: B) := by
  induction A with
  | nil => simp [hubD, ins]
  | cons y l ih =>
    simp only [List.map_cons, List.mem_cons, not_or] at h
    simp only [hubD, List.cons_append, List.map_cons, ins, if_neg h.1]
    rw [show ins x.p d (List.map (fun x => (x.p, x.d)) (l ++ x :: B)) = _ from ih h.2]
    rfl
/-- a sender was put to use -/
theorem HubR.sent {w w' : World} {N : Nat → Prop} {h r : Nat} {sf : Pid} {A B : List HubX} {x : HubX} {sd : SndD} {wv' : Value} (H : HubIs w N h r sf (A ++ x :: B)) (hN : ∀ b, N b → b < w.heap.size) (hP : PutR w w' N x.k.sb x.k.wv sd wv') :
    HubR w w' N (fun b => N b ∨ wv'.ownBlock = some b) h r sf (A ++ x :: B) (A ++ ⟨x.p, { x.k with wv := wv' }, { x.d with snd := sd }⟩ :: B) := by
  obtain ⟨us', hs⟩ := hP.is
  have hx := H.lnk x (by simp)
  have hz := hP.mt.size
  have hN2 : ∀ b, (N b ∨ wv'.ownBlock = some b) → N b ∨ w.heap.size ≤ b := fun b e => by
    rcases e with e | e
    · exact .inl e
    · rcases hP.new b e with e | e
      · exact .inl (hx.nw b e).1
      · exact .inr e
  have hl := hx.sent hP.mt (fun b e => .inl e) hN2 hs hP.new
  have hmt : Mut (fpL x.k) w w' := hP.mt.mono fun b _ e => e.elim (fun e => .inr (.inl e)) fun e => .inr (.inr (.inr e))
  have hfk : ∀ b, fpL { x.k with wv := wv' } b → fpL x.k b ∨ w.heap.size ≤ b := fun b e => by
    rcases e with e | e | e | e
    · exact .inl (.inl e)
    · exact .inl (.inr (.inl e))
    · exact .inl (.inr (.inr (.inl e)))
    · exact (hP.new b e).imp (fun e => .inr (.inr (.inr e))) id
  refine ⟨H.turn hmt (fun b e => .inl e) hN2 hl rfl hfk, fun b e => .inl e, hN2, fun b e => ?_, hmt.mono fun b _ e => .inr (.inr ⟨x, by simp, e⟩), fun b e => ?_⟩
  · rcases e with e | e
    · have := hN b e; omega
    · exact (hs.row.blk e).2
  · rcases e with e | e | ⟨y, hy, e⟩
    · exact .inl (.inl e)
    · exact .inl (.inr (.inl e))
    · simp only [List.mem_append, List.mem_cons] at hy
      rcases hy with hy | rfl | hy
      · exact .inl (.inr (.inr ⟨y, by simp [hy], e⟩))
      · exact (hfk b e).imp (fun e => .inr (.inr ⟨x, by simp, e⟩)) id
      · exact .inl (.inr (.inr ⟨y, by simp [hy], e⟩))
set_option maxRecDepth 100000 in
set_option maxHeartbeats 3200000 in
theorem hsend_any {w : World} {N : Nat → Prop} {h r : Nat} {sf : Pid} {L : List HubX} {ba : Option Addr} {bc n : Nat} {bs : List Nat} (H : HubIs w N h r sf L) (hN : ∀ b, N b → b < w.heap.size) (x y : Int) (hok : ok (x, y)) (hn : Hid (bs.length = n)) (hnl : n ≤ 549755813888) (hr : ByteRow w ba bs) (hx : ∀ x ∈ bs, x < 256) (hbl : ∀ b off, ba = some ⟨b, off, none⟩ → bs ≠ [] → ¬ fpH h r L b) :
    Calls Try.prog 10 #[.pointer (some ⟨h, 0, none⟩), .agg #[.int .u16 x, .int .u32 y], .slice ba n bc] w fun e w' => e = .returned (.int .i64 (sendR sf (hubD L) (x, y) bs).1) ∧ ∃ N' L', HubR w w' N N' h r sf L L' ∧ hubD L' = (sendR sf (hubD L) (x, y) bs).2 := by
  have hb1 : Below w.heap.size w (w.alloc (.cells #[.int .u16 x, .int .u32 y] 30)) := (Below.refl _ _).alloc (Nat.le_refl _) _
  obtain ⟨W1, hW1⟩ : ∃ W1, w.alloc (.cells #[.int .u16 x, .int .u32 y] 30) = W1 := ⟨_, rfl⟩
  have d0 : W1.cell? ⟨w.heap.size, 0, none⟩ = some (.int .u16 x) := by rw [← hW1]; simp
  have d1 : W1.cell? ⟨w.heap.size, 1, none⟩ = some (.int .u32 y) := by rw [← hW1]; simp
  rw [hW1] at hb1
  have H1 := H.ext hb1
  have HH := hid H
  have HH1 := hid H1
  have HB1 := hid hb1
  have HN1 : Hid (∀ b, N b → b < W1.heap.size) := hid fun b e => Nat.lt_of_lt_of_le (hN b e) hb1.size
  have HN0 := hid hN
  have CO := other_any H1 x y
  cases hq : otherB sf (x, y)
  · have HQ : Hid (sendR sf (hubD L) (x, y) bs = (1, hubD L)) := hid (by unfold sendR; rw [hq]; rfl)
    rw [show (mayB (x, y) && !decide ((x, y) = sf)) = false from hq] at CO
    have CO := hid CO
    clear H H1 hb1 hq hN hr hbl hx
    go_enter Try.func10, Try.ntmps10
    go_wp2_with fail
    refine CO.out.mono ?_
    rintro e w2 ⟨rfl, hb2⟩
    go_wp2_with fail
    go_ret
    exact ⟨by rw [HQ.out]; rfl, N, L, HubR.same HH.out HN0.out (HB1.out.trans (hb2.mono HB1.out.size)), by rw [HQ.out]⟩
  · rw [show (mayB (x, y) && !decide ((x, y) = sf)) = true from hq] at CO
    have CO := hid CO
    have HQ := hid hq
    have HR := hid hr
    have HX := hid hx
    have HBL := hid hbl
    clear H H1 hb1 hq hN hr hbl hx
    go_enter Try.func10, Try.ntmps10
    go_wp2_with fail
    refine CO.out.mono ?_
    rintro e w2 ⟨rfl, hb2⟩
    have HB2 := hid hb2
    have q0 := cell_toB d0 hb2
    have q1 := cell_toB d1 hb2
    have CL := hid (hlink_any (HH1.out.ext hb2) (fun b e => Nat.lt_of_lt_of_le (HN1.out b e) hb2.size) x y hok)
    clear d0 d1 hb2 CO
    go_wp2_with fail
    refine CL.out.mono ?_
    rintro e w3 (⟨rfl, hd, hb3⟩ | ⟨N', A, z, B, rfl, HR3, hp, hA, hd⟩)
    · have HD := hid hd
      clear hd CL
      have HB3 := hid hb3
      go_wp2_with fail
      go_ret
      have hbw := HB1.out.trans (HB2.out.mono HB1.out.size)
      have e1 : sendR sf (hubD L) (x, y) bs = (7, hubD L) := by unfold sendR; rw [HQ.out, HD.out]; rfl
      exact ⟨by rw [e1]; rfl, N, L, HubR.same HH.out HN0.out (hbw.trans (HB3.out.mono hbw.size)), by rw [e1]⟩
    · have hbw := HB1.out.trans (HB2.out.mono HB1.out.size)
      have hR0 := HubR.same HH.out HN0.out hbw
      have hRR := hR0.trans HR3
      have hzl := HR3.is.lnk z (by simp)
      have z0 := hzl.box.c0
      obtain ⟨us, hs⟩ := hzl.snd
      have hr3 : ByteRow w3 ba bs := HR.out.mutT hRR.mt HBL.out
      have CP := hid (wput_any (bc := bc) hs HR3.lt hn hnl hr3 HX.out)
      have HRR := hid hRR
      have HR3' := hid HR3
      have HD := hid (show linkD (hubD L) (x, y) = some (hubD (A ++ z :: B)) ∧ z.p = (x, y) ∧ (x, y) ∉ A.map (·.p) from ⟨hd, hp, hA⟩)
      clear hbw hR0 hRR hzl hs hr3 HR3 hd hp hA q0 q1 CL
      go_wp2_with fail
      refine CP.out.mono ?_
      rintro e w4 ⟨wv', rfl, hP⟩
      have HP := hid hP
      clear hP CP z0
      go_wp2_with fail
      go_ret
      obtain ⟨f1, f2, f3⟩ := HD.out
      have hS := HubR.sent HR3'.out.is HR3'.out.lt HP.out
      have e1 : sendR sf (hubD L) (x, y) bs = (putC z.d.snd bs, hubD (A ++ ⟨z.p, { z.k with wv := wv' }, { z.d with snd := putD z.d.snd bs }⟩ :: B)) := by
        unfold sendR
        rw [HQ.out, f1]
        simp only [if_true]
        rw [← f2, look_hubD_at (by rw [f2]; exact f3)]
        simp only
        rw [ins_hubD (k := { z.k with wv := wv' }) (by rw [f2]; exact f3)]
      exact ⟨by rw [e1]; rfl, _, _, HRR.out.trans hS, by rw [e1]⟩
end Go.Proofs.Ytidohmpnefcpcaa

namespace Go.Proofs.Ytidohmpnefcpcaa
open Go.RowKit
/-! ### hub: Peers, Waits, Drop, Tick -/
def peersR (H : HubD) : List Pid := sortL (H.map (·.1))
set_option maxRecDepth 100000 in
set_option maxHeartbeats 1600000 in
theorem hpeers_any {w : World} {N : Nat → Prop} {h r : Nat} {sf : Pid} {L : List HubX} (H : HubIs w N h r sf L) :
    Calls Try.prog 27 #[.pointer (some ⟨h, 0, none⟩)] w fun e w' => ∃ v, e = .returned v ∧ OwnP w' w.heap.size v (peersR (hubD L)) ∧ Below w.heap.size w w' := by
  have c2 := H.c2
  have HH := hid H
  have HM : Hid (∀ w2, Below w.heap.size w w2 → ∀ Bm, w2.cell? ⟨Bm, 0, none⟩ = some (.map (some r)) → Bm < w2.heap.size → Calls Try.prog 47 #[.func (.func 59) #[] #[.pointer (some ⟨Bm, 0, none⟩)]] w2 fun e w' => ∃ v xs, e = .returned v ∧ OwnP w' w2.heap.size v xs ∧ xs.Perm (L.map (·.p)) ∧ Below w2.heap.size w2 w') := hid fun w2 hb Bm hm hlt => by
    have := collect_any Bm r _ w2 hlt hm (H.ext hb).map (by have := H.lim; simp; omega)
    have e : ((L.map fun x => (x.p, x.k.lb)).map (·.1)) = L.map (·.p) := by rw [List.map_map]; rfl
    rw [e] at this
    exact this
  have hl := H.lim
  have hnd := H.nd
  have hoks := H.oks
  have hS : Hid (∀ xs : List Pid, xs.Perm (L.map (·.p)) → sortP xs = peersR (hubD L) ∧ xs.length ≤ 48 ∧ ∀ p ∈ xs, ok p) := hid fun xs hp => by
    have hn : xs.Nodup := hp.symm.nodup hnd
    have ho : ∀ p ∈ xs, ok p := fun p hpx => by
      obtain ⟨z, hz, rfl⟩ := List.mem_map.1 (hp.mem_iff.1 hpx)
      exact hoks z hz
    refine ⟨?_, by have := hp.length_eq; simp at this; omega, ho⟩
    rw [sortP_nodup hn]
    have e : (hubD L).map (·.1) = L.map (·.p) := by simp [hubD]
    unfold peersR
    rw [e]
    exact sortL_perm hp ho
  clear H hl hnd hoks
  go_enter Try.func27, Try.ntmps27
  go_wp2_with fail
  refine (keysOf_any r w).mono ?_
  rintro e w1 ⟨rfl, hw1⟩
  have hb1 : Below w.heap.size w w1 := by rw [hw1]; exact (Below.refl _ _).alloc (Nat.le_refl _) _
  have hc1 : w1.cell? ⟨w.heap.size, 0, none⟩ = some (.map (some r)) := by rw [hw1]; simp
  have hz1 : w.heap.size < w1.heap.size := by rw [hw1]; simp
  clear hw1
  have HB1 := hid hb1
  have CC := hid (HM.out w1 hb1 _ hc1 hz1)
  clear hc1 hb1 HM
  go_wp2_with fail
  refine CC.out.mono ?_
  rintro e w2 ⟨v, xs, rfl, hown, hp, hb2⟩
  obtain ⟨a, c, rfl, hrow, -⟩ := hown.row
  obtain ⟨hs1, hs2, hs3⟩ := hS.out xs hp
  have CS := hid (sort_any a c xs w2 (by omega) hrow hs3)
  rw [hs1] at CS
  have HB2 := hid hb2
  clear hrow hown hp hs1 hs2 hs3 hb2 CC
  go_wp2_with fail
  refine CS.out.mono ?_
  rintro e w3 ⟨v3, rfl, hown3, hb3⟩
  go_wp2_with fail
  go_ret
  have hbw := HB1.out.trans (HB2.out.mono HB1.out.size)
  exact ⟨_, rfl, hown3.mono hbw.size, hbw.trans (hb3.mono hbw.size)⟩
def waitsR (H : HubD) (p : Pid) : Nat := match look p H with | none => 0 | some d => d.snd.wait.length
set_option maxRecDepth 100000 in
set_option maxHeartbeats 1600000 in
theorem hwaits_any {w : World} {N : Nat → Prop} {h r : Nat} {sf : Pid} {L : List HubX} (H : HubIs w N h r sf L) (x y : Int) :
    Calls Try.prog 15 #[.pointer (some ⟨h, 0, none⟩), .agg #[.int .u16 x, .int .u32 y]] w fun e w' => e = .returned (.int .i64 (waitsR (hubD L) (x, y))) ∧ Below w.heap.size w w' := by
  have hb1 : Below w.heap.size w (w.alloc (.cells #[.int .u16 x, .int .u32 y] 30)) := (Below.refl _ _).alloc (Nat.le_refl _) _
  obtain ⟨W1, hW1⟩ : ∃ W1, w.alloc (.cells #[.int .u16 x, .int .u32 y] 30) = W1 := ⟨_, rfl⟩
  have d0 : W1.drew.cell? ⟨w.heap.size, 0, none⟩ = some (.int .u16 x) := by rw [← hW1]; simp
  have d1 : W1.drew.cell? ⟨w.heap.size, 1, none⟩ = some (.int .u32 y) := by rw [← hW1]; simp
  rw [hW1] at hb1
  have H1 := (H.ext hb1).ext (Below.refl _ _).drew
  have HB1 := hid hb1.drew
  have c2 := H1.c2
  have hmp := H1.map
  rcases lookX (x, y) L with ⟨e1, e2⟩ | ⟨A, z, B, e1, e2, e3, e4⟩
  · have hlk : ∀ W, MapIs W r pidV ptrV (L.map fun x => (x.p, x.k.lb)) → (Instr.lookup 72 (.map (some r)) (.agg #[.int .u16 x, .int .u32 y]) true).run Try.prog W = .ok (.tuple #[.pointer none, .bool false]) W := fun W hM => by
      have := hM.lookup_ok keyPid Try.underlying72 (zeroLk W) (x, y)
      rw [e1] at this
      exact this
    have HE : Hid (waitsR (hubD L) (x, y) = 0) := hid (by unfold waitsR; rw [look_hubD e2])
    clear H H1 hb1 e1 e2
    go_enter Try.func15, Try.ntmps15
    go_wp2_with fail
    go_region_held3 (fun W => MapIs W r pidV ptrV (L.map fun x => (x.p, x.k.lb)) ∧ W.cell? ⟨h, 2, none⟩ = some (.map (some r)) ∧ W.cell? ⟨w.heap.size, 0, none⟩ = some (.int .u16 x) ∧ W.cell? ⟨w.heap.size, 1, none⟩ = some (.int .u32 y)) (first | exact ⟨hmp, c2, d0, d1⟩) (fail)
    go_wp2_with fail
    go_ret
    exact ⟨by rw [HE.out]; rfl, HB1.out⟩
  · have hlk : ∀ W, MapIs W r pidV ptrV (L.map fun x => (x.p, x.k.lb)) → (Instr.lookup 72 (.map (some r)) (.agg #[.int .u16 x, .int .u32 y]) true).run Try.prog W = .ok (.tuple #[.pointer (some ⟨z.k.lb, 0, none⟩), .bool true]) W := fun W hM => by
      have := hM.lookup_ok keyPid Try.underlying72 (zeroLk W) (x, y)
      rw [e4] at this
      exact this
    have HE : Hid (waitsR (hubD L) (x, y) = z.d.snd.wait.length) := hid (by unfold waitsR; rw [e1, ← e2, look_hubD_at (by rw [e2]; exact e3)])
    have hz := H1.lnk z (by rw [e1]; simp)
    have z0 := hz.box.c0
    obtain ⟨us, hs⟩ := hz.snd
    have CW := hid (wlen_any hs)
    clear H H1 hb1 e1 e2 e3 e4 hz hs
    go_enter Try.func15, Try.ntmps15
    go_wp2_with fail
    go_region_held3 (fun W => MapIs W r pidV ptrV (L.map fun x => (x.p, x.k.lb)) ∧ W.cell? ⟨h, 2, none⟩ = some (.map (some r)) ∧ W.cell? ⟨w.heap.size, 0, none⟩ = some (.int .u16 x) ∧ W.cell? ⟨w.heap.size, 1, none⟩ = some (.int .u32 y)) (first | exact ⟨hmp, c2, d0, d1⟩) (fail)
    go_wp2_with fail
    refine CW.out.mono ?_
    rintro e w3 ⟨rfl, rfl⟩
    go_wp2_with fail
    go_ret
    exact ⟨by rw [HE.out]; rfl, HB1.out⟩
theorem HubIs.remap {w w' : World} {N : Nat → Prop} {h r : Nat} {sf : Pid} {L : List HubX} (H : HubIs w N h r sf L) (hb : But r w w') (hM : MapIs w' r pidV ptrV (L.map fun x => (x.p, x.k.lb))) : HubIs w' N h r sf L := by
  have hm : Mut (fun b => b = r) w w' := Mut.of_but hb rfl
  have hG : ∀ b, b < w.heap.size → b = r → N b := fun b _ e => by rw [e]; exact H.rn
  exact ⟨(hb.cell (by exact H.hr)).trans H.c0, (hb.cell (by exact H.hr)).trans H.c1, (hb.cell (by exact H.hr)).trans H.c2, H.hn, H.rn, H.hr, hM, fun y hy => (H.lnk y hy).mut hm hG fun b e e2 => (H.out y hy b e).2 e2, H.out, H.dis, H.nd, H.lim, H.oks⟩
/-- a link was let go -/
theorem HubIs.drop {w w' : World} {N : Nat → Prop} {h r : Nat} {sf : Pid} {A B : List HubX} {z : HubX} (H : HubIs w N h r sf (A ++ z :: B)) (hb : But r w w') (hM : MapIs w' r pidV ptrV ((A ++ B).map fun x => (x.p, x.k.lb))) : HubIs w' N h r sf (A ++ B) := by
  have hm : Mut (fun b => b = r) w w' := Mut.of_but hb rfl
  have hG : ∀ b, b < w.heap.size → b = r → N b := fun b _ e => by rw [e]; exact H.rn
  have hmem : ∀ y, y ∈ A ++ B → y ∈ A ++ z :: B := fun y hy => by
    rcases List.mem_append.1 hy with hy | hy
    · simp [hy]
    · simp [hy]
  have hsub : (A ++ B).Sublist (A ++ z :: B) := List.Sublist.append (List.Sublist.refl _) (List.sublist_cons_self _ _)
  exact ⟨(hb.cell (by exact H.hr)).trans H.c0, (hb.cell (by exact H.hr)).trans H.c1, (hb.cell (by exact H.hr)).trans H.c2, H.hn, H.rn, H.hr, hM, fun y hy => (H.lnk y (hmem y hy)).mut hm hG fun b e e2 => (H.out y (hmem y hy) b e).2 e2, fun y hy => H.out y (hmem y hy), H.dis.sublist hsub, H.nd.sublist (hsub.map _), Nat.le_trans hsub.length_le H.lim, fun y hy => H.oks y (hmem y hy)⟩
theorem del_at {α β : Type} [DecidableEq α] {f : HubX → α × β} {A B : List HubX} {z : HubX} (h : ∀ y ∈ A, (f z).1 ≠ (f y).1) : del (f z).1 ((A ++ z :: B).map f) = (A ++ B).map f := by
  induction A with
  | nil => simp [del]
  | cons y l ih =>
    simp only [List.cons_append, List.map_cons, del]
    rw [if_neg (h y (by simp)), ih fun y hy => h y (by simp [hy])]
theorem del_not {α β : Type} [DecidableEq α] {x : α} : ∀ {L : List (α × β)}, look x L = none → del x L = L
  | [], _ => rfl
  | p :: l, h => by
    simp only [look] at h
    split at h
    · cases h
    · next hx => simp [del, if_neg hx, del_not h]
set_option maxRecDepth 100000 in
set_option maxHeartbeats 1600000 in
theorem hdrop_any {w : World} {N : Nat → Prop} {h r : Nat} {sf : Pid} {L : List HubX} (H : HubIs w N h r sf L) (hN : ∀ b, N b → b < w.heap.size) (x y : Int) :
    Calls Try.prog 22 #[.pointer (some ⟨h, 0, none⟩), .agg #[.int .u16 x, .int .u32 y]] w fun e w' => e = .returned (.bool (look (x, y) (hubD L)).isSome) ∧ ∃ L', HubR w w' N N h r sf L L' ∧ hubD L' = del (x, y) (hubD L) := by
  have hb1 : Below w.heap.size w (w.alloc (.cells #[.int .u16 x, .int .u32 y] 30)) := (Below.refl _ _).alloc (Nat.le_refl _) _
  obtain ⟨W1, hW1⟩ : ∃ W1, w.alloc (.cells #[.int .u16 x, .int .u32 y] 30) = W1 := ⟨_, rfl⟩
  have d0 : W1.drew.cell? ⟨w.heap.size, 0, none⟩ = some (.int .u16 x) := by rw [← hW1]; simp
  have d1 : W1.drew.cell? ⟨w.heap.size, 1, none⟩ = some (.int .u32 y) := by rw [← hW1]; simp
  rw [hW1] at hb1
  have H1 := (H.ext hb1).ext (Below.refl _ _).drew
  have HB1 := hid hb1.drew
  have c2 := H1.c2
  have hmp := H1.map
  have H2 := H1.ext (Below.refl _ _).drew
  obtain ⟨w3, hrun, hM3, hbut⟩ := H2.map.delete keyPid Try.underlying72 (x, y)
  have p0 : W1.drew.drew.cell? ⟨w.heap.size, 0, none⟩ = some (.int .u16 x) := d0
  have p1 : W1.drew.drew.cell? ⟨w.heap.size, 1, none⟩ = some (.int .u32 y) := d1
  have k2 := H2.c2
  have hwr : w.heap.size ≠ r := fun e => by have := H.map.lt; omega
  have s0 := (hbut.cell (p := ⟨w.heap.size, 0, none⟩) (by exact hwr)).trans p0
  have s1 := (hbut.cell (p := ⟨w.heap.size, 1, none⟩) (by exact hwr)).trans p1
  have s2 := (hbut.cell (p := ⟨h, 2, none⟩) (by exact H.hr)).trans k2
  have hrun2 : ∀ ty, (Builtin.delete_ #[72, 30] ty #[.map (some r), .agg #[.int .u16 x, .int .u32 y]]).run Try.prog W1.drew.drew = .ok (.tuple #[]) w3 := hrun
  have hbx : Below w.heap.size w W1.drew.drew := HB1.out.drew
  have hsz : w3.heap.size = W1.drew.drew.heap.size := hbut.size
  have hmt : Mut (fpH h r L) w w3 := (Mut.of_below hbx).trans (Mut.of_but hbut (.inr (.inl rfl)))
  have hlt3 : ∀ b, N b → b < w3.heap.size := fun b e => by have := hN b e; have := hbx.size; omega
  rcases lookX (x, y) L with ⟨e1, e2⟩ | ⟨A, z, B, e1, e2, e3, e4⟩
  · have hlk : ∀ W, MapIs W r pidV ptrV (L.map fun x => (x.p, x.k.lb)) → (Instr.lookup 72 (.map (some r)) (.agg #[.int .u16 x, .int .u32 y]) true).run Try.prog W = .ok (.tuple #[.pointer none, .bool false]) W := fun W hM => by
      have := hM.lookup_ok keyPid Try.underlying72 (zeroLk W) (x, y)
      rw [e1] at this
      exact this
    rw [del_not e1] at hM3
    have H3 : HubIs w3 N h r sf L := H2.remap hbut hM3
    have HE : Hid ((look (x, y) (hubD L)).isSome = false ∧ del (x, y) (hubD L) = hubD L) := hid ⟨by rw [look_hubD e2]; rfl, del_not (look_hubD e2)⟩
    have HR : Hid (HubR w w3 N N h r sf L L) := hid ⟨H3, fun _ e => e, fun _ e => .inl e, hlt3, hmt, fun _ e => .inl e⟩
    clear H H1 H2 H3 hb1 e1 e2 hM3 hbut hmt hbx hlt3 hrun
    go_enter Try.func22, Try.ntmps22
    go_wp2_with fail
    go_region_held3 (fun W => MapIs W r pidV ptrV (L.map fun x => (x.p, x.k.lb)) ∧ W.cell? ⟨h, 2, none⟩ = some (.map (some r)) ∧ W.cell? ⟨w.heap.size, 0, none⟩ = some (.int .u16 x) ∧ W.cell? ⟨w.heap.size, 1, none⟩ = some (.int .u32 y)) (first | exact ⟨hmp, c2, d0, d1⟩) (fail)
    go_wp2_with fail
    go_region_held3 (fun W => W.cell? ⟨h, 2, none⟩ = some (.map (some r)) ∧ W.cell? ⟨w.heap.size, 0, none⟩ = some (.int .u16 x) ∧ W.cell? ⟨w.heap.size, 1, none⟩ = some (.int .u32 y)) (first | exact ⟨k2, p0, p1⟩ | exact ⟨s2, s0, s1⟩) (fail)
    go_wp2_with fail
    go_ret
    exact ⟨by rw [HE.out.1]; rfl, L, HR.out, HE.out.2.symm⟩
  · have hlk : ∀ W, MapIs W r pidV ptrV (L.map fun x => (x.p, x.k.lb)) → (Instr.lookup 72 (.map (some r)) (.agg #[.int .u16 x, .int .u32 y]) true).run Try.prog W = .ok (.tuple #[.pointer (some ⟨z.k.lb, 0, none⟩), .bool true]) W := fun W hM => by
      have := hM.lookup_ok keyPid Try.underlying72 (zeroLk W) (x, y)
      rw [e4] at this
      exact this
    have hne : ∀ y ∈ A, z.p ≠ y.p := fun y hy e => by
      refine e3 ?_
      rw [← e2, e]
      exact List.mem_map_of_mem hy
    have hM4 : MapIs w3 r pidV ptrV ((A ++ B).map fun x => (x.p, x.k.lb)) := by
      rw [e1, ← e2, show del z.p ((A ++ z :: B).map fun x => (x.p, x.k.lb)) = _ from del_at (f := fun x => (x.p, x.k.lb)) hne] at hM3
      exact hM3
    have H3 : HubIs w3 N h r sf (A ++ B) := (show HubIs W1.drew.drew N h r sf (A ++ z :: B) by rw [← e1]; exact H2).drop hbut hM4
    have HE : Hid ((look (x, y) (hubD L)).isSome = true ∧ hubD (A ++ B) = del (x, y) (hubD L)) := hid ⟨by rw [e1, ← e2, look_hubD_at (by rw [e2]; exact e3)]; rfl, by rw [e1, ← e2]; exact (del_at (f := fun x => (x.p, x.d)) hne).symm⟩
    have HR : Hid (HubR w w3 N N h r sf L (A ++ B)) := hid ⟨H3, fun _ e => e, fun _ e => .inl e, hlt3, hmt, fun b e => by
      rcases e with e | e | ⟨y, hy, e⟩
      · exact .inl (.inl e)
      · exact .inl (.inr (.inl e))
      · refine .inl (.inr (.inr ⟨y, ?_, e⟩))
        rw [e1]
        rcases List.mem_append.1 hy with hy | hy
        · simp [hy]
        · simp [hy]⟩
    clear H H1 H2 H3 hb1 e1 e2 e3 e4 hM3 hM4 hbut hmt hbx hlt3 hrun hne
    go_enter Try.func22, Try.ntmps22
    go_wp2_with fail
    go_region_held3 (fun W => MapIs W r pidV ptrV (L.map fun x => (x.p, x.k.lb)) ∧ W.cell? ⟨h, 2, none⟩ = some (.map (some r)) ∧ W.cell? ⟨w.heap.size, 0, none⟩ = some (.int .u16 x) ∧ W.cell? ⟨w.heap.size, 1, none⟩ = some (.int .u32 y)) (first | exact ⟨hmp, c2, d0, d1⟩) (fail)
    go_wp2_with fail
    go_region_held3 (fun W => W.cell? ⟨h, 2, none⟩ = some (.map (some r)) ∧ W.cell? ⟨w.heap.size, 0, none⟩ = some (.int .u16 x) ∧ W.cell? ⟨w.heap.size, 1, none⟩ = some (.int .u32 y)) (first | exact ⟨k2, p0, p1⟩ | exact ⟨s2, s0, s1⟩) (fail)
    go_wp2_with fail
    go_ret
    exact ⟨by rw [HE.out.1]; rfl, _, HR.out, HE.out.2⟩
end Go.Proofs.Ytidohmpnefcpcaa

namespace Go.Proofs.Ytidohmpnefcpcaa
open Go.RowKit
/-! ### hub: Tick -/
def tickX (x : HubX) : HubX := ⟨x.p, x.k, { x.d with snd := { x.d.snd with told := 0 } }⟩
def tickT (todo : List Pid) (L : List HubX) : List HubX := L.map fun x => if x.p ∈ todo then x else tickX x
def tickH (H : HubD) : HubD := H.map fun x => (x.1, { x.2 with snd := { x.2.snd with told := 0 } })
theorem tickT_all {L : List HubX} {todo : List Pid} (h : ∀ x ∈ L, x.p ∈ todo) : tickT todo L = L := by
  unfold tickT
  conv => rhs; rw [← List.map_id L]
  exact List.map_congr_left fun x hx => by simp [h x hx]
theorem tickT_nil (L : List HubX) : hubD (tickT [] L) = tickH (hubD L) := by
  unfold tickT hubD tickH
  rw [List.map_map, List.map_map]
  exact List.map_congr_left fun x _ => rfl
theorem tickT_fp {todo : List Pid} {L : List HubX} {h r b : Nat} : fpH h r (tickT todo L) b ↔ fpH h r L b := by
  unfold fpH tickT
  constructor
  · rintro (e | e | ⟨x, hx, e⟩)
    · exact .inl e
    · exact .inr (.inl e)
    · obtain ⟨y, hy, rfl⟩ := List.mem_map.1 hx
      refine .inr (.inr ⟨y, hy, ?_⟩)
      split at e <;> exact e
  · rintro (e | e | ⟨x, hx, e⟩)
    · exact .inl e
    · exact .inr (.inl e)
    · exact .inr (.inr ⟨_, List.mem_map_of_mem hx, by split <;> exact e⟩)
theorem tickT_split {todo : List Pid} {A B : List HubX} {z : HubX} : tickT todo (A ++ z :: B) = tickT todo A ++ (if z.p ∈ todo then z else tickX z) :: tickT todo B := by simp [tickT]
theorem tickT_same {t1 t2 : List Pid} {A : List HubX} (h : ∀ x ∈ A, (x.p ∈ t1 ↔ x.p ∈ t2)) : tickT t1 A = tickT t2 A := by
  unfold tickT
  refine List.map_congr_left fun x hx => ?_
  by_cases h1 : x.p ∈ t1
  · rw [if_pos h1, if_pos ((h x hx).1 h1)]
  · rw [if_neg h1, if_neg fun e => h1 ((h x hx).2 e)]
theorem Mut.thenBut' {F : Nat → Prop} {a b c : World} {t : Nat} (h : Mut F a b) (k : But t b c) (ht : a.heap.size ≤ t) : Mut F a c :=
  h.transG (Mut.of_but k (F := fun b => b = t) rfl) fun i hi e => by have e : i = t := e; omega
set_option maxRecDepth 100000 in
set_option maxHeartbeats 3200000 in
theorem htick_any {w : World} {N : Nat → Prop} {h r : Nat} {sf : Pid} {L : List HubX} (H : HubIs w N h r sf L) (hN : ∀ b, N b → b < w.heap.size) :
    Calls Try.prog 11 #[.pointer (some ⟨h, 0, none⟩)] w fun e w' => e = .returned (.tuple #[]) ∧ ∃ L', HubR w w' N N h r sf L L' ∧ hubD L' = tickH (hubD L) := by
  have c2 := H.c2
  have hM := H.map
  have HH := hid H
  have HNN := hid hN
  have HND : Hid ((L.map (·.p)).Nodup) := hid H.nd
  clear H hN
  go_enter Try.func11, Try.ntmps11
  go_wp2_with (at_range; refine wpList_range_is hM Try.underlying72 rfl rfl rfl ?_; intro w0 hR0 hb0)
  go_frame
  go_loopw [3] (fun _ wr => ∃ (left : List (Pid × Nat)), RangeIs wr r w.heap.size pidV ptrV (L.map fun x => (x.p, x.k.lb)) left ∧ Hid (left.Sublist (L.map fun x => (x.p, x.k.lb))) ∧ Hid (HubIs wr (fun b => N b ∨ w.heap.size ≤ b) h r sf (tickT (left.map (·.1)) L)) ∧ Hid (Mut (fpH h r L) w wr)) (fun _ wr => wr.rangeLeft r w.heap.size)
  case atStart =>
    exact ⟨_, hR0, hid (List.Sublist.refl _), hid (by rw [tickT_all (fun x hx => by rw [List.map_map]; exact List.mem_map_of_mem (f := fun x : HubX => x.p) hx)]; exact (HH.out.less (fun b e => .inl (HH.out.fp b e)) fun b e => e).ext hb0), hid (Mut.of_below hb0)⟩
  case round =>
    obtain ⟨left, hR, hSub, HI, HM⟩ := hrel
    have HLM := hid hR.left_eq
    go_wp2_with (at_next; refine wpList_next_is hR rfl rfl rfl ?_ ?_)
    · intro hl
      have HL := hid hl.out
      clear hl
      go_wp2_with fail
      refine bodyPost_end (results_none rfl _ _ _) rfl ⟨rfl, tickT [] L, ⟨?_, fun _ e => e, fun _ e => .inl e, fun b e => Nat.lt_of_lt_of_le (HNN.out b e) HM.out.size, HM.out, fun b e => .inl (tickT_fp.1 e)⟩, tickT_nil L⟩
      have := HI.out
      rw [HL.out] at this
      exact this.less (fun b e => HH.out.fp b (tickT_fp.1 e)) fun b e => .inl (.inl e)
    · intro x y u0 s1 s2 w1 hl hR1 hbut hen
      have hmem : ((x, y), u0) ∈ left := by rw [hl.out]; simp
      obtain ⟨z, hz, hze⟩ := List.mem_map.1 (hSub.out.subset hmem)
      injection hze with hz1 hz2
      obtain ⟨A, B, hL⟩ := List.append_of_mem hz
      have hkl : (left.map (·.1)).Nodup := by
        have h1 := hSub.out.map (fun x : Pid × Nat => x.1)
        rw [List.map_map] at h1
        exact HND.out.sublist h1
      have hkeys : left.map (·.1) = s1.map (·.1) ++ z.p :: s2.map (·.1) := by rw [hl.out, hz1]; simp
      have hin : z.p ∈ left.map (·.1) := by rw [hkeys]; simp
      have hnot : z.p ∉ (s1 ++ s2).map (·.1) := by
        rw [hkeys] at hkl
        rw [List.map_append]
        intro h
        have := List.nodup_append.1 hkl
        rcases List.mem_append.1 h with h | h
        · exact this.2.2 _ h _ (List.mem_cons_self ..) rfl
        · exact (List.nodup_cons.1 this.2.1).1 h
      have hndL := HND.out
      rw [hL, List.map_append, List.map_cons] at hndL
      have hndL2 := List.nodup_append.1 hndL
      have hAz : ∀ q ∈ A, q.p ≠ z.p := fun q hq e => hndL2.2.2 _ (List.mem_map_of_mem (f := fun x : HubX => x.p) hq) _ (List.mem_cons_self ..) e
      have hBz : ∀ q ∈ B, q.p ≠ z.p := fun q hq e => (List.nodup_cons.1 hndL2.2.1).1 (by rw [← e]; exact List.mem_map_of_mem (f := fun x : HubX => x.p) hq)
      have hsame : ∀ q : HubX, q.p ≠ z.p → (q.p ∈ left.map (·.1) ↔ q.p ∈ (s1 ++ s2).map (·.1)) := fun q hq => by
        rw [hkeys, List.map_append]
        simp only [List.mem_append, List.mem_cons]
        constructor
        · rintro (e | e | e)
          · exact .inl e
          · exact absurd e hq
          · exact .inr e
        · rintro (e | e)
          · exact .inl e
          · exact .inr (.inr e)
      have hH0 := HI.out
      rw [hL, tickT_split, if_pos hin] at hH0
      have hH1 : HubIs w1 (fun b => N b ∨ w.heap.size ≤ b) h r sf (tickT (left.map (·.1)) A ++ z :: tickT (left.map (·.1)) B) := hH0.mut (Mut.of_but hbut (F := fun b => b = w.heap.size) rfl) (fun b _ e => .inr (by rw [show b = w.heap.size from e]; exact Nat.le_refl _)) (fun b e e2 => by
        have h1 : fpH h r (tickT (left.map (·.1)) L) b := by rw [hL, tickT_split, if_pos hin]; exact e
        have := HH.out.fplt b (tickT_fp.1 h1)
        have e2 : b = w.heap.size := e2
        omega)
      have hzl := hH1.lnk z (by simp)
      have z0 := hzl.box.c0
      rw [hz2] at z0
      obtain ⟨us, hs⟩ := hzl.snd
      have CT := hid (wtick_any hs)
      have HFZ : Hid (∀ b, fpL z.k b → fpH h r L b) := hid fun b e => .inr (.inr ⟨z, hz, e⟩)
      have HW1 : Hid (Mut (fpH h r L) w w1) := hid (HM.out.thenBut' hbut (Nat.le_refl _))
      have HE : Hid (tickT (left.map (·.1)) A = tickT ((s1 ++ s2).map (·.1)) A ∧ tickT (left.map (·.1)) B = tickT ((s1 ++ s2).map (·.1)) B ∧ L = A ++ z :: B ∧ z.p ∉ (s1 ++ s2).map (·.1)) := hid ⟨tickT_same fun q hq => hsame q (hAz q hq), tickT_same fun q hq => hsame q (hBz q hq), hL, hnot⟩
      have HH1 := hid hH1
      have HZL := hid hzl
      have HLN : Hid (left.length = s1.length + 1 + s2.length) := hid (by rw [hl.out]; simp; omega)
      have HS2 : Hid ((s1 ++ s2).Sublist (L.map fun x => (x.p, x.k.lb))) := hid (List.Sublist.trans (by rw [hl.out]; simp) hSub.out)
      clear hmem hz hz1 hz2 hL hkl hkeys hin hnot hndL hndL2 hAz hBz hsame hH0 hH1 hzl hs
      go_wp2_with fail
      refine CT.out.mono ?_
      rintro e w3 ⟨rfl, hS3, hm3⟩
      have hfs : ∀ b, b = z.k.sb → fpL z.k b := fun b e => .inr (.inl e)
      have hl3 := HZL.out.sent (hm3.mono fun b _ e => (show fpS z.k.sb z.k.wv b from .inl e)) (fun b e => e) (fun b e => .inl e) hS3 (fun g e => .inl e)
      have hT := HH1.out.turn (hm3.mono fun b _ e => hfs b e) (fun b e => e) (fun b e => .inl e) hl3 rfl (fun b e => .inl e)
      have hsbl := HZL.out.fplt z.k.sb (hfs _ rfl)
      have hsbw : z.k.sb < w.heap.size := HH.out.fplt _ (HFZ.out _ (hfs _ rfl))
      have hsbr : z.k.sb ≠ r := (HH1.out.out z (by simp) _ (hfs _ rfl)).2
      have hR3 : RangeIs w3 r w.heap.size pidV ptrV (L.map fun x => (x.p, x.k.lb)) (s1 ++ s2) := hR1.mut hm3 (fun e => hsbr (show r = z.k.sb from e).symm) (fun e => by have e : w.heap.size = z.k.sb := e; omega)
      obtain ⟨f1, f2, f3, f4⟩ := HE.out
      have HT : Hid (HubIs w3 (fun b => N b ∨ w.heap.size ≤ b) h r sf (tickT ((s1 ++ s2).map (·.1)) L)) := hid (by
        rw [f3, tickT_split, if_neg f4, ← f1, ← f2]
        exact hT)
      have HM3 : Hid (Mut (fpH h r L) w w3) := hid (HW1.out.trans (hm3.mono fun b _ e => HFZ.out b (hfs b e)))
      have HL3 := hid hR3.left_eq
      clear hT hl3 hS3 hm3 f1 f2 f3 f4 CT z0 hfs hsbl hsbw hsbr
      go_wp2_with fail
      go_roundw
      case rel => exact ⟨s1 ++ s2, hR3, HS2, HT, HM3⟩
      case measure => rw [HL3.out, HLM.out, HLN.out]; simp <;> omega
end Go.Proofs.Ytidohmpnefcpcaa

