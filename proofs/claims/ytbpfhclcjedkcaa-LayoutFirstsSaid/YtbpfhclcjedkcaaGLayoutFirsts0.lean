/- Parts of the proof: Base Maps W3 W4 W5 W6 W7 W8 R1 R2 R4 R5 Shelf T1 P1 L2 T2 M1 S1 N1 A2. -/
import Derived.Test.YtbpfhclcjedkcaaRows
import Derived.ChangeOld
import Derived.ShutString
import Derived.JoinedOf
import Derived.Test.YtbpfhclcjedkcaaChecked
import Derived.WalkKit
import Derived.WalkLawsBesides
import Derived.WalkSpells
import Derived.Deep.QuietTactic
import Derived.BigQuiet
import Derived.Maps.OwnSet
import Derived.Deep.RegionHeld3
import Derived.Lib.AppendZerosOnto
import Derived.Lib.SliceRun
import Derived.Shelf.SlSortCmp.NoneTotal
import Derived.Lib.EndianBits
import Derived.Sort.OwnSortedInts
import Derived.Maps.RangeRun
import Derived.Maps.RangeWalk
import Derived.Deep.RegionWith
namespace Go.Proofs.Ytbpfhclcjedkcaa
open Go.RowKit
theorem hid {p : Prop} (h : p) : Hid p := h
theorem ret_int {k : IntKind} {a b : Int} (h : a = b) : Ending.returned (.int k a) = .returned (.int k b) := by rw [h]
theorem ret_bool {a b : Bool} (h : a = b) : Ending.returned (.bool a) = .returned (.bool b) := by rw [h]

abbrev Pid := Int × Int
/-- the row of processes behind a slice's address -/
def PidRow (w : World) (a : Option Addr) (xs : List Pid) : Prop :=
  xs = [] ∨ ∃ b off, a = some ⟨b, off, none⟩ ∧ b < w.heap.size ∧ ∀ i (h : i < xs.length), w.cell? ⟨b, off + i * 2, none⟩ = some (.int .u16 xs[i].1) ∧ w.cell? ⟨b, off + i * 2 + 1, none⟩ = some (.int .u32 xs[i].2)
theorem PidRow.get {w : World} {a : Option Addr} {xs : List Pid} (h : PidRow w a xs) (h0 : 0 < xs.length) :
    ∃ b off, a = some ⟨b, off, none⟩ ∧ b < w.heap.size ∧ ∀ i (h : i < xs.length), w.cell? ⟨b, off + i * 2, none⟩ = some (.int .u16 xs[i].1) ∧ w.cell? ⟨b, off + i * 2 + 1, none⟩ = some (.int .u32 xs[i].2) := by
  rcases h with rfl | h
  · simp at h0
  · exact h
theorem PidRow.below {w w' : World} {a : Option Addr} {xs : List Pid} (h : PidRow w a xs) {B : Nat} (hb : Below B w w') (hB : ∀ b off, a = some ⟨b, off, none⟩ → b < B) : PidRow w' a xs := by
  rcases h with rfl | ⟨b, off, rfl, hlt, hc⟩
  · exact .inl rfl
  · refine .inr ⟨b, off, rfl, by have := hb.size; omega, fun i hi => ?_⟩
    have := hB b off rfl
    rw [hb.cell (by exact this), hb.cell (by exact this)]
    exact hc i hi
theorem PidRow.ext {w w' : World} {a : Option Addr} {xs : List Pid} (h : PidRow w a xs) (hb : Below w.heap.size w w') : PidRow w' a xs := by
  rcases h with rfl | ⟨b, off, rfl, hlt, hc⟩
  · exact .inl rfl
  · exact PidRow.below (.inr ⟨b, off, rfl, hlt, hc⟩) hb (fun b' off' e => by cases e; exact hlt)
/-- the k-th cell pair, in any later world -/
theorem PidRow.at {w wr : World} {a : Option Addr} {xs : List Pid} (h : PidRow w a xs) {B : Nat} (hb : Below B w wr) (hB : B = w.heap.size) {k : Nat} (hk : k < xs.length) :
    ∃ b off x y, a = some ⟨b, off, none⟩ ∧ (x, y) = xs[k] ∧ wr.cell? ⟨b, off + k * 2, none⟩ = some (.int .u16 x) ∧ wr.cell? ⟨b, off + k * 2 + 1, none⟩ = some (.int .u32 y) := by
  subst hB
  obtain ⟨b, off, rfl, hlt, hc⟩ := h.get (by omega)
  refine ⟨b, off, xs[k].1, xs[k].2, rfl, rfl, ?_, ?_⟩
  · rw [hb.cell (by exact hlt)]; exact (hc k hk).1
  · rw [hb.cell (by exact hlt)]; exact (hc k hk).2
theorem below_drewN {B : Nat} {a w : World} (h : Below B a w) (n : Nat) : Below B a (w.drewN n) := ⟨h.os, h.tape, h.output, h.size, h.block⟩
def atFrom (p : Pid) : List Pid → Nat → Int
  | [], _ => -1
  | x :: xs, k => if x = p then k else atFrom p xs (k + 1)
/-- the first place of p in a list; -1: none -/
def atIx (xs : List Pid) (p : Pid) : Int := atFrom p xs 0
theorem atFrom_drop {xs : List Pid} {k : Nat} (h : k < xs.length) (p : Pid) : atFrom p (xs.drop k) k = if xs[k] = p then (k : Int) else atFrom p (xs.drop (k + 1)) (k + 1) := by
  rw [List.drop_eq_getElem_cons h]; rfl
theorem atFrom_end {xs : List Pid} {k : Nat} (h : xs.length ≤ k) (p : Pid) : atFrom p (xs.drop k) k = -1 := by
  rw [List.drop_eq_nil_of_le h]; rfl
theorem bcell {W w1 : World} (hb : Below W.heap.size W w1) : (∀ b o, b < W.heap.size → w1.cell? ⟨b, o, none⟩ = W.cell? ⟨b, o, none⟩) ∧ (∀ b o, b < W.heap.size → w1.frozen? ⟨b, o, none⟩ = W.frozen? ⟨b, o, none⟩) :=
  ⟨fun b o h => hb.cell (p := ⟨b, o, none⟩) h, fun b o h => hb.frozen (p := ⟨b, o, none⟩) h⟩
/-- the rows behind a slice of slices -/
def LeafRow (w : World) (a : Option Addr) (ls : List (List Pid)) : Prop :=
  ls = [] ∨ ∃ b off, a = some ⟨b, off, none⟩ ∧ b < w.heap.size ∧ ∀ i (h : i < ls.length), ∃ ai ci, w.cell? ⟨b, off + i, none⟩ = some (.slice ai ls[i].length ci) ∧ PidRow w ai ls[i]
theorem LeafRow.ext {w w' : World} {a : Option Addr} {ls : List (List Pid)} (h : LeafRow w a ls) (hb : Below w.heap.size w w') : LeafRow w' a ls := by
  rcases h with rfl | ⟨b, off, rfl, hlt, hc⟩
  · exact .inl rfl
  · refine .inr ⟨b, off, rfl, by have := hb.size; omega, fun i hi => ?_⟩
    obtain ⟨ai, ci, h1, h2⟩ := hc i hi
    exact ⟨ai, ci, by rw [hb.cell (by exact hlt)]; exact h1, h2.ext hb⟩
theorem LeafRow.at {w wr : World} {a : Option Addr} {ls : List (List Pid)} (h : LeafRow w a ls) {B : Nat} (hb : Below B w wr) (hB : B = w.heap.size) {k : Nat} (hk : k < ls.length) :
    ∃ b off ai ci l, a = some ⟨b, off, none⟩ ∧ l = ls[k] ∧ wr.cell? ⟨b, off + k, none⟩ = some (.slice ai l.length ci) ∧ PidRow wr ai l := by
  subst hB
  rcases h with rfl | ⟨b, off, rfl, hlt, hc⟩
  · simp at hk
  · obtain ⟨ai, ci, h1, h2⟩ := hc k hk
    exact ⟨b, off, ai, ci, ls[k], rfl, rfl, by rw [hb.cell (by exact hlt)]; exact h1, h2.ext hb⟩
/-- a view, as data -/
structure View where
  id : Int
  ms : List Pid
  ls : List (List Pid)
  ds : List Pid
structure ViewR (w : World) (am al ad : Option Addr) (V : View) : Prop where
  ms : PidRow w am V.ms
  ls : LeafRow w al V.ls
  ds : PidRow w ad V.ds
  lm : V.ms.length ≤ 70368744177664
  ll : V.ls.length ≤ 70368744177664
  ld : V.ds.length ≤ 70368744177664
  le : ∀ l ∈ V.ls, l.length ≤ 70368744177664
theorem ViewR.ext {w w' : World} {am al ad : Option Addr} {V : View} (h : ViewR w am al ad V) (hb : Below w.heap.size w w') : ViewR w' am al ad V :=
  ⟨h.ms.ext hb, h.ls.ext hb, h.ds.ext hb, h.lm, h.ll, h.ld, h.le⟩
theorem eql_pid (a b c d : Int) (w : World) : (binOp .eql 26 (.agg #[.int .u16 a, .int .u32 b]) (.agg #[.int .u16 c, .int .u32 d])).run Try.prog w = .ok (.bool (decide ((a, b) = (c, d)))) w := by
  have hS : Try.prog.underlying 26 = some (.struct (Try.prog.fieldsOf 26)) := by kernel_rfl
  have hp : Try.prog.stoodInHeld 26 = false := by kernel_rfl
  rw [run_eql_struct, show (10000 : Nat) = 9999 + 1 from rfl, run_equalIn_agg w 9999 26 _ _ hS hp]
  simp only [Program.fieldsOf, Try.underlying26]
  go_simp
  by_cases h1 : a = c <;> by_cases h2 : b = d <;> simp [h1, h2]
theorem neq_pid (a b c d : Int) (w : World) : (binOp .neq 26 (.agg #[.int .u16 a, .int .u32 b]) (.agg #[.int .u16 c, .int .u32 d])).run Try.prog w = .ok (.bool (!decide ((a, b) = (c, d)))) w := by
  have hS : Try.prog.underlying 26 = some (.struct (Try.prog.fieldsOf 26)) := by kernel_rfl
  have hp : Try.prog.stoodInHeld 26 = false := by kernel_rfl
  rw [run_neq_struct, show (10000 : Nat) = 9999 + 1 from rfl, run_equalIn_agg w 9999 26 _ _ hS hp]
  simp only [Program.fieldsOf, Try.underlying26]
  go_simp
  by_cases h1 : a = c <;> by_cases h2 : b = d <;> simp [h1, h2]
end Go.Proofs.Ytbpfhclcjedkcaa

namespace Go.Proofs.Ytbpfhclcjedkcaa
open Go.RowKit
open Go.Instr Go.MapKept

/-- first place and value at a key -/
def lookI {α β : Type} [DecidableEq α] (x : α) : List (α × β) → Nat → Option (Nat × β)
  | [], _ => none
  | p :: l, i => if x = p.1 then some (i, p.2) else lookI x l (i + 1)
def look {α β : Type} [DecidableEq α] (x : α) : List (α × β) → Option β
  | [] => none
  | p :: l => if x = p.1 then some p.2 else look x l
def ins {α β : Type} [DecidableEq α] (x : α) (v : β) : List (α × β) → List (α × β)
  | [] => [(x, v)]
  | p :: l => if x = p.1 then (x, v) :: l else p :: ins x v l
/-- what the laws ask of a key type -/
structure KeyOk (P : Program) (K : TypeId) {α : Type} [DecidableEq α] (ke : α → Value) : Prop where
  find : ∀ (x : α) (L : List (α × Value)) (es : List MapEntry) (w : World), es.map (fun e => (e.key, e.val)) = L.map (fun p => (ke p.1, p.2)) →
    (findKey K (ke x) es).run P w = .ok (lookI x L 0) w
  check : ∀ (b : Bool) (x : α) (w : World), (checkKey b 10000 K (ke x)).run P w = .ok () w
  same : ∀ x, sameBits 10000 (ke x) (ke x) = true

def bornOk (es : Array MapEntry) (clock : Nat) : Prop := (es.toList.map (·.born)).Nodup ∧ ∀ e ∈ es.toList, e.born < clock

def MapIs {α β : Type} (w : World) (r : Nat) (ke : α → Value) (ve : β → Value) (L : List (α × β)) : Prop :=
  ∃ es clock, w.heap[r]? = some (.map es clock) ∧ es.toList.map (fun e => (e.key, e.val)) = L.map (fun p => (ke p.1, ve p.2)) ∧ bornOk es clock

section
set_option linter.unusedSectionVars false
variable {α β : Type} [DecidableEq α] {ke : α → Value} {ve : β → Value} {P : Program} {K : TypeId}

theorem MapIs.lt {w : World} {r : Nat} {L : List (α × β)} (h : MapIs w r ke ve L) : r < w.heap.size := by
  obtain ⟨es, clock, hb, _⟩ := h
  exact (Array.getElem?_eq_some_iff.1 hb).1
theorem MapIs.same {w w' : World} {r : Nat} {L : List (α × β)} (h : MapIs w r ke ve L) (hb : w'.heap[r]? = w.heap[r]?) : MapIs w' r ke ve L := by
  obtain ⟨es, clock, h1, h2⟩ := h
  exact ⟨es, clock, hb.trans h1, h2⟩
theorem MapIs.ext {w w' : World} {r : Nat} {L : List (α × β)} (h : MapIs w r ke ve L) (hb : Below w.heap.size w w') : MapIs w' r ke ve L :=
  h.same (hb.block _ h.lt)
theorem MapIs.alloc {w : World} {r : Nat} {L : List (α × β)} (h : MapIs w r ke ve L) (o : Obj) : MapIs (w.alloc o) r ke ve L :=
  h.ext ((Below.refl _ _).alloc (Nat.le_refl _) _)
theorem MapIs.setCell {w : World} {r : Nat} {L : List (α × β)} (h : MapIs w r ke ve L) {p : Addr} (hp : r ≠ p.block) (u : Value) : MapIs (w.setCell p u) r ke ve L :=
  h.same (Below.heap_setCell _ _ _ _ hp)
theorem MapIs.made (w : World) : MapIs (w.alloc (.map #[] 0)) w.heap.size ke ve ([] : List (α × β)) :=
  ⟨#[], 0, (MapKept.heap_alloc w _).1, rfl, by simp [bornOk]⟩

theorem lookI_map (f : β → Value) (x : α) : ∀ (L : List (α × β)) (i : Nat), lookI x (L.map fun p => (p.1, f p.2)) i = (lookI x L i).map fun q => (q.1, f q.2)
  | [], _ => rfl
  | p :: l, i => by
    simp only [List.map_cons, lookI]
    split
    · rfl
    · exact lookI_map f x l (i + 1)
theorem lookI_look (x : α) : ∀ (L : List (α × β)) (i : Nat), (lookI x L i).map (·.2) = look x L
  | [], _ => rfl
  | p :: l, i => by
    simp only [lookI, look]
    split
    · rfl
    · exact lookI_look x l (i + 1)
theorem lookI_some {x : α} : ∀ {L : List (α × β)} {i j : Nat} {v : β}, lookI x L i = some (j, v) → i ≤ j ∧ j - i < L.length ∧ (∃ u, L[j - i]? = some (x, u)) ∧ ∀ u, ins x u L = L.set (j - i) (x, u)
  | [], _, _, _, h => by simp [lookI] at h
  | p :: l, i, j, v, h => by
    simp only [lookI] at h
    split at h
    · next hx =>
      simp only [Option.some.injEq, Prod.mk.injEq] at h
      obtain ⟨rfl, rfl⟩ := h
      refine ⟨Nat.le_refl _, by simp, ⟨p.2, by simp [hx]⟩, fun u => by simp [ins, hx]⟩
    · next hx =>
      obtain ⟨h1, h2, h3, h4⟩ := lookI_some h
      have e : j - i = (j - (i + 1)) + 1 := by omega
      refine ⟨by omega, by simp; omega, ?_, fun u => ?_⟩
      · rw [e]; simpa using h3
      · rw [e]; simp only [ins, if_neg hx, List.set_cons_succ, h4 u]
theorem lookI_none {x : α} : ∀ {L : List (α × β)} {i : Nat}, lookI x L i = none → ∀ u, ins x u L = L ++ [(x, u)]
  | [], _, _, u => rfl
  | p :: l, i, h, u => by
    simp only [lookI] at h
    split at h
    · simp at h
    · next hx => simp [ins, if_neg hx, lookI_none h u]

theorem find_run {w : World} {L : List (α × β)} (kk : KeyOk P K ke) {es : Array MapEntry} (he : es.toList.map (fun e => (e.key, e.val)) = L.map (fun p => (ke p.1, ve p.2))) (x : α) :
    (findKey K (ke x) es.toList).run P w = .ok ((lookI x L 0).map fun q => (q.1, ve q.2)) w := by
  rw [kk.find x (L.map fun p => (p.1, ve p.2)) es.toList w (by rw [he]; simp), lookI_map]

theorem MapIs.lookup_ok {w : World} {r : Nat} {L : List (α × β)} (h : MapIs w r ke ve L) (kk : KeyOk P K ke) {t e : TypeId} (ht : P.underlying t = some (.map K e))
    {z : Value} (hz : (zeroValue e).run P w = .ok z w) (x : α) :
    (Instr.lookup t (.map (some r)) (ke x) true).run P w = .ok (.tuple #[((look x L).map ve).getD z, .bool (look x L).isSome]) w := by
  obtain ⟨es, clock, hb, he, _⟩ := h
  have hf := find_run (w := w) kk he x
  have hl := lookI_look x L 0
  cases hq : lookI x L 0 with
  | none =>
    rw [hq] at hl hf
    simp [Instr.lookup, run_underlying ht, MapKept.run_getObj_map hb, kk.check, hf, Result.andThen, ← hl, hz]
  | some q =>
    rw [hq] at hl hf
    simp [Instr.lookup, run_underlying ht, MapKept.run_getObj_map hb, kk.check, hf, Result.andThen, ← hl]
/-- w' is w but for block r -/
structure But (r : Nat) (w w' : World) : Prop where
  os : w'.os = w.os
  tape : w'.tape = w.tape
  output : w'.output = w.output
  size : w'.heap.size = w.heap.size
  block : ∀ k, k ≠ r → w'.heap[k]? = w.heap[k]?
theorem But.below {r B : Nat} {w w' : World} (h : But r w w') (hB : B ≤ r) : Below B w w' :=
  ⟨h.os, h.tape, h.output, by rw [h.size]; exact Nat.le_refl _, fun k hk => h.block k (by omega)⟩
theorem But.cell {r : Nat} {w w' : World} (h : But r w w') {p : Addr} (hp : p.block ≠ r) : w'.cell? p = w.cell? p := World.cell?_of_block (w := w) (h.block p.block hp)
theorem But.frozen {r : Nat} {w w' : World} (h : But r w w') {p : Addr} (hp : p.block ≠ r) : w'.frozen? p = w.frozen? p := World.frozen?_of_block (w := w) (h.block p.block hp)
theorem But.of_set (w : World) (r : Nat) (o : Obj) : But r w { w with heap := w.heap.setIfInBounds r o } :=
  ⟨rfl, rfl, rfl, by simp, fun k hk => by simp [Ne.symm hk]⟩

theorem lookI_lt {x : α} {L : List (α × β)} {q : Nat × β} (h : lookI x L 0 = some q) : q.1 < L.length := by
  obtain ⟨j, v⟩ := q
  have := (lookI_some h).2.1
  simpa using this

theorem MapIs.update {w : World} {r : Nat} {L : List (α × β)} (h : MapIs w r ke ve L) (kk : KeyOk P K ke) {t e : TypeId} (ht : P.underlying t = some (.map K e)) (x : α) (v : β) :
    ∃ w', (Instr.mapUpdate t (.map (some r)) (ke x) (ve v)).run P w = .ok () w' ∧ MapIs w' r ke ve (ins x v L) ∧ But r w w' := by
  obtain ⟨es, clock, hb, he, hbn⟩ := h
  have hf := find_run (w := w) kk he x
  have hlen : es.toList.length = L.length := by simpa using congrArg List.length he
  cases hq : lookI x L 0 with
  | none =>
    rw [hq] at hf
    refine ⟨{ w with heap := w.heap.setIfInBounds r (.map (es.push { key := ke x, val := ve v, born := clock }) (clock + 1)) },
      by simp [Instr.mapUpdate, run_underlying ht, MapKept.run_getObj_map hb, kk.check, hf, run_setObj_map _ hb, Result.andThen], ⟨_, _, (heap_set hb).1, ?_, ?_⟩, But.of_set _ _ _⟩
    · rw [lookI_none hq]; simp [he]
    · obtain ⟨h1, h2⟩ := hbn
      refine ⟨?_, ?_⟩
      · simp only [Array.toList_push, List.map_append, List.map_cons, List.map_nil]
        rw [List.nodup_append]
        refine ⟨h1, by simp, ?_⟩
        intro a ha b hb' 
        simp at hb'; subst hb'
        obtain ⟨e0, he0, rfl⟩ := List.mem_map.1 ha
        exact Nat.ne_of_lt (h2 e0 he0)
      · intro e0 he0
        simp only [Array.toList_push, List.mem_append, List.mem_singleton] at he0
        rcases he0 with he0 | rfl
        · have := h2 e0 he0; omega
        · simp
  | some q =>
    obtain ⟨j, u⟩ := q
    have hlt := lookI_lt hq
    obtain ⟨_, _, ⟨u', hu'⟩, hins⟩ := lookI_some hq
    simp only [Nat.sub_zero] at hu' hins hlt
    rw [hq] at hf
    have hj : ∃ e0, es[j]? = some e0 ∧ e0.key = ke x := by
      have : (es.toList.map (fun e => (e.key, e.val)))[j]? = some (ke x, ve u') := by rw [he, List.getElem?_map, hu']; rfl
      rw [List.getElem?_map] at this
      cases hej : es.toList[j]? with
      | none => rw [hej] at this; simp at this
      | some e0 =>
        rw [hej] at this
        simp at this
        exact ⟨e0, by simpa using hej, this.1⟩
    obtain ⟨e0, hej, hek⟩ := hj
    refine ⟨{ w with heap := w.heap.setIfInBounds r (.map (es.modify j fun e => { e with key := ke x, val := ve v }) clock) },
      by simp [Instr.mapUpdate, run_underlying ht, MapKept.run_getObj_map hb, kk.check, hf, hej, hek, Instr.keyThatStays, kk.same, run_setObj_map _ hb, Result.andThen], ⟨_, _, (heap_set hb).1, ?_, ?_⟩, But.of_set _ _ _⟩
    · rw [hins]
      apply List.ext_getElem?
      intro i
      have hi : (es.toList.map (fun e => (e.key, e.val)))[i]? = (L.map (fun p => (ke p.1, ve p.2)))[i]? := by rw [he]
      simp only [List.getElem?_map, Array.toList_modify, List.getElem?_modify, List.getElem?_set] at hi ⊢
      by_cases hij : j = i
      · subst hij
        simp [hlt, hej]
      · simp [hij] at hi ⊢
        exact hi
    · obtain ⟨h1, h2⟩ := hbn
      have hborn : (es.modify j fun e => { e with key := ke x, val := ve v }).toList.map (·.born) = es.toList.map (·.born) := by
        apply List.ext_getElem?
        intro i
        simp only [List.getElem?_map, Array.toList_modify, List.getElem?_modify]
        split
        · cases es.toList[i]? <;> simp
        · simp
      refine ⟨by rw [hborn]; exact h1, fun e1 he1 => ?_⟩
      have : e1.born ∈ es.toList.map (·.born) := by rw [← hborn]; exact List.mem_map_of_mem he1
      obtain ⟨e2, he2, heq⟩ := List.mem_map.1 this
      rw [← heq]; exact h2 e2 he2

theorem MapIs.len {w : World} {r : Nat} {L : List (α × β)} (h : MapIs w r ke ve L) {t e : TypeId} (ht : P.underlying t = some (.map K e)) (ty : TypeId) :
    (Builtin.len_ #[t] ty #[.map (some r)]).run P w = .ok (.int .i64 L.length) w := by
  obtain ⟨es, clock, hb, he, _⟩ := h
  have hlen : es.size = L.length := by simpa using congrArg List.length he
  simp [Builtin.len_, run_underlying ht, MapKept.run_getObj_map hb, Result.andThen, goInt, hlen]
end

/-- a lookup with ok, at the operation -/
theorem wpList_lookup_is {α β : Type} [DecidableEq α] {ke : α → Value} {ve : β → Value} {P : Program} {K : TypeId} (kk : KeyOk P K ke) {w : World} {ops : Array Oper} {rest : List Oper} {o : Oper} {a : Act} {Q : Exit → Act → World → Prop}
    {m x : Operand} {t e : TypeId} (ht : P.underlying t = some (.map K e)) (z : Value) (hz : ∀ w, (zeroValue e).run P w = .ok z w) {r : Nat} {L : List (α × β)} (hM : MapIs w r ke ve L) (y : α) (V : Value) (hV : ((look y L).map ve).getD z = V) {bs : Bool} (hs : Hid ((look y L).isSome = bs))
    (hg : o.guard = none) (hop : o.op = Op.lookup t m x true) (hm : a.eval m = .map (some r)) (hx : a.eval x = ke y)
    (hK : wpList P ops Q rest (a.put o.dst (.tuple #[V, .bool bs])) w) :
    wpList P ops Q (o :: rest) a w := by
  refine wpList_plain hg fun K' hK' => ?_
  have hrun := hM.lookup_ok kk ht (hz w) y
  rw [hV, hs.out] at hrun
  unfold Oper.wp
  simp [execOp, hop, hm, hx, hrun, Result.andThen]
  exact hK' _ _ hK
abbrev e16 : Int → Value := fun x => .int .u16 x
abbrev eU : Unit → Value := fun _ => .agg #[]
abbrev eI : Int → Value := fun x => .int .i64 x
theorem look_unit {α : Type} [DecidableEq α] (y : α) (L : List (α × Unit)) : ((look y L).map eU).getD (.agg #[]) = .agg #[] := by cases look y L <;> rfl
theorem wpList_mapUpdate_is {α β : Type} [DecidableEq α] {ke : α → Value} {ve : β → Value} {P : Program} {K : TypeId} (kk : KeyOk P K ke) {w : World} {ops : Array Oper} {rest : List Oper} {o : Oper} {a : Act} {Q : Exit → Act → World → Prop}
    {m x v : Operand} {t e : TypeId} (ht : P.underlying t = some (.map K e)) {r : Nat} {L : List (α × β)} (hM : MapIs w r ke ve L) (y : α) (u : β)
    (hg : o.guard = none) (hop : o.op = Op.mapUpdate t m x v) (hm : a.eval m = .map (some r)) (hx : a.eval x = ke y) (hv : a.eval v = ve u)
    (hK : ∀ w', MapIs w' r ke ve (ins y u L) → But r w w' → wpList P ops Q rest (a.put o.dst undef) w') :
    wpList P ops Q (o :: rest) a w := by
  refine wpList_plain hg fun K' hK' => ?_
  obtain ⟨w', hrun, r1, r2⟩ := hM.update kk ht y u
  unfold Oper.wp
  simp [execOp, hop, hm, hx, hv, hrun, Result.andThen]
  exact hK' _ _ (hK w' r1 r2)

/-! ### the two key types -/
theorem key16 (K : TypeId) (hK : Try.prog.underlying K = some (.int .u16)) : KeyOk Try.prog K (fun (x : Int) => Value.int .u16 x) where
  find := by
    intro x L es w h
    simp only [findKey, Sem.run_bind, run_underlying hK, Result.andThen]
    have : ∀ (es : List MapEntry) (L : List (Int × Value)) (i : Nat), es.map (fun e => (e.key, e.val)) = L.map (fun p => (Value.int .u16 p.1, p.2)) → findNow (.int .u16) (.int .u16 x) es i = some (lookI x L i) := by
      intro es
      induction es with
      | nil => intro L i h; cases L with | nil => rfl | cons _ _ => simp at h
      | cons e es ih =>
        intro L i h
        cases L with
        | nil => simp at h
        | cons p L =>
          simp only [List.map_cons, List.cons.injEq, Prod.mk.injEq] at h
          obtain ⟨⟨h1, h2⟩, h3⟩ := h
          simp only [findNow, h1, sameNow, lookI, if_true]
          by_cases hx : x = p.1
          · simp [hx, h2]
          · have hb : (x == p.1) = false := by simpa using hx
            simp [hx, hb, ih L (i + 1) h3]
    rw [this es L 0 h]
    simp
  check := by intro b x w; exact run_checkKey (n := 9999) hK (by simp [IsKey]) b
  same := by intro x; simp [sameBits]
theorem key16_116 : KeyOk Try.prog 23 (fun (x : Int) => Value.int .u16 x) := key16 23 Try.underlying23
abbrev pidV (p : Pid) : Value := .agg #[.int .u16 p.1, .int .u32 p.2]
theorem equal_pid (a b c d : Int) (w : World) : (Op.equal 26 (.agg #[.int .u16 a, .int .u32 b]) (.agg #[.int .u16 c, .int .u32 d])).run Try.prog w = .ok (decide ((a, b) = (c, d))) w := by
  have hS : Try.prog.underlying 26 = some (.struct (Try.prog.fieldsOf 26)) := by kernel_rfl
  have hp : Try.prog.stoodInHeld 26 = false := by kernel_rfl
  unfold Op.equal Op.maxDepth
  rw [show (10000 : Nat) = 9999 + 1 from rfl, run_equalIn_agg w 9999 26 _ _ hS hp]
  simp only [Program.fieldsOf, Try.underlying26]
  go_simp
  by_cases h1 : a = c <;> by_cases h2 : b = d <;> simp [h1, h2]
theorem keyPid : KeyOk Try.prog 26 pidV where
  find := by
    intro x L es w h
    cases es with
    | nil =>
      cases L with
      | nil => simp [findKey, run_underlying Try.underlying26, Result.andThen, findNow, lookI]
      | cons _ _ => simp at h
    | cons e es =>
      have hn : ∀ d, findNow (.struct d) (pidV x) (e :: es) 0 = none := by intro d; simp [findNow, sameNow]
      simp only [findKey, Sem.run_bind, run_underlying Try.underlying26, Result.andThen, hn]
      generalize e :: es = es' at h
      have : ∀ (es : List MapEntry) (L : List (Pid × Value)) (i : Nat), es.map (fun e => (e.key, e.val)) = L.map (fun p => (pidV p.1, p.2)) → (findAsking 26 (pidV x) es i).run Try.prog w = .ok (lookI x L i) w := by
        intro es
        induction es with
        | nil => intro L i h; cases L with | nil => simp [findAsking, lookI] | cons _ _ => simp at h
        | cons e es ih =>
          intro L i h
          cases L with
          | nil => simp at h
          | cons p L =>
            simp only [List.map_cons, List.cons.injEq, Prod.mk.injEq] at h
            obtain ⟨⟨h1, h2⟩, h3⟩ := h
            have he := equal_pid x.1 x.2 p.1.1 p.1.2 w
            simp only [findAsking, h1, Sem.run_bind, he, Result.andThen, lookI]
            by_cases hx : x = p.1
            · simp [hx, h2]
            · simp [hx, ih L (i + 1) h3]
      exact this es' L 0 h
  check := by
    intro b x w
    kernel_rfl
  same := by intro x; simp [sameBits]
theorem zero106 (w : World) : (zeroValue 222).run Try.prog w = .ok (.agg #[]) w := by kernel_rfl
end Go.Proofs.Ytbpfhclcjedkcaa

namespace Go.Proofs.Ytbpfhclcjedkcaa
open Go.RowKit

def mayB (p : Pid) : Bool := decide (p.1 < 16) && (p.2 != 0)
theorem may_any (x y : Int) (w : World) : Calls Try.prog 105 #[.agg #[.int .u16 x, .int .u32 y]] w fun e w' => e = .returned (.bool (mayB (x, y))) ∧ Below w.heap.size w w' := by
  have hB : Below w.heap.size w (w.alloc (.cells #[.int .u16 x, .int .u32 y] 26)) := (Below.refl _ _).alloc (Nat.le_refl _) _
  by_cases h1 : x < 16
  · have h1' : decide (x < 16) = true := by simpa using h1
    go_enter Try.func105, Try.ntmps105
    go_wp2
    go_ret
    exact ⟨ret_bool (by simp [mayB, h1]), hB⟩
  · have h1' : decide (x < 16) = false := by simpa using h1
    go_enter Try.func105, Try.ntmps105
    go_wp2
    go_ret
    exact ⟨ret_bool (by unfold mayB; rw [show decide ((x, y).1 < 16) = false from h1']; rfl), hB⟩

theorem may_is {x y : Int} {w : World} {bm : Bool} (h : Hid (mayB (x, y) = bm)) : Calls Try.prog 105 #[.agg #[.int .u16 x, .int .u32 y]] w fun e w' => e = .returned (.bool bm) ∧ Below w.heap.size w w' := by
  have := may_any x y w
  rw [h.out] at this
  exact this

def memFrom (n : Nat) : List (Int × Unit) → List Pid → Bool
  | _, [] => decide (0 < n) && decide (n ≤ 24)
  | S, p :: l => if (look p.1 S).isSome = true then false else if mayB p then memFrom n (ins p.1 () S) l else false
def membersB (xs : List Pid) : Bool := memFrom xs.length [] xs
end Go.Proofs.Ytbpfhclcjedkcaa

namespace Go.Proofs.Ytbpfhclcjedkcaa
open Go.RowKit

/-- the members' ranks, as a map: in insertion order -/
def ranksFrom : List (Pid × Int) → List Pid → Nat → List (Pid × Int)
  | S, [], _ => S
  | S, p :: l, k => ranksFrom (if (look p S).isSome = true then S else ins p (k : Int) S) l (k + 1)
def ranksL (xs : List Pid) : List (Pid × Int) := ranksFrom [] xs 0
/-- risingFrom: the rest of 'rising' -/
def risFrom (S : List (Pid × Int)) : Int → List Pid → Bool
  | _, [] => true
  | last, p :: l => match look p S with
    | none => false
    | some k => if k ≤ last then false else risFrom S k l
end Go.Proofs.Ytbpfhclcjedkcaa

namespace Go.Proofs.Ytbpfhclcjedkcaa
open Go.RowKit

/-- the set behind a pointer: its box at block s holds the map in block r -/
structure SetIs (w : World) (s r : Nat) (L : List (Pid × Unit)) : Prop where
  box : w.cell? ⟨s, 0, none⟩ = some (.map (some r))
  map : MapIs w r pidV eU L
theorem SetIs.lt {w : World} {s r : Nat} {L : List (Pid × Unit)} (h : SetIs w s r L) : s < w.heap.size := World.block_lt_of_cell? w _ h.box
theorem SetIs.ext {w w' : World} {s r : Nat} {L : List (Pid × Unit)} (h : SetIs w s r L) (hb : Below w.heap.size w w') : SetIs w' s r L :=
  ⟨by rw [hb.cell (by exact h.lt)]; exact h.box, h.map.ext hb⟩
theorem SetIs.alloc {w : World} {s r : Nat} {L : List (Pid × Unit)} (h : SetIs w s r L) (o : Obj) : SetIs (w.alloc o) s r L := h.ext ((Below.refl _ _).alloc (Nat.le_refl _) _)
theorem SetIs.drew {w : World} {s r : Nat} {L : List (Pid × Unit)} (h : SetIs w s r L) : SetIs w.drew s r L := h.ext (Below.refl _ _).drew

set_option maxHeartbeats 800000 in
set_option maxRecDepth 100000 in
theorem has_any (s r : Nat) (L : List (Pid × Unit)) (x y : Int) (bs : Bool) (w : World) (hS : SetIs w s r L) (hl : Hid ((look (x, y) L).isSome = bs)) :
   Calls Try.prog 173 #[.pointer (some ⟨s, 0, none⟩), .agg #[.int .u16 x, .int .u32 y]] w fun e w' => e = .returned (.bool bs) ∧ Below w.heap.size w w' := by
  have hlk : ∀ W, SetIs W s r L → (Instr.lookup 225 (.map (some r)) (.agg #[.int .u16 x, .int .u32 y]) true).run Try.prog W = .ok (.tuple #[.agg #[], .bool bs]) W := fun W h => by
    have := h.map.lookup_ok keyPid Try.underlying225 (zero106 W) (x, y)
    rw [look_unit, hl.out] at this
    exact this
  have hbx : ∀ W, SetIs W s r L → W.cell? ⟨s, 0, none⟩ = some (.map (some r)) := fun W h => h.box
  have hS1 := hS.alloc (.cells #[.int .u16 x, .int .u32 y] 26)
  have hb1 : Below w.heap.size w (w.alloc (.cells #[.int .u16 x, .int .u32 y] 26)) := (Below.refl _ _).alloc (Nat.le_refl _) _
  go_enter Try.func173, Try.ntmps173
  go_wp2
  go_region_held3 (fun W => SetIs W s r L ∧ W.cell? ⟨w.heap.size, 0, none⟩ = some (.int .u16 x) ∧ W.cell? ⟨w.heap.size, 1, none⟩ = some (.int .u32 y)) (first | exact ⟨hS1.drew, by simp, by simp⟩ | exact ⟨(hS1.alloc _).drew, by simp, by simp⟩) (fail)
  all_goals go_wp2
  all_goals go_ret
  all_goals exact ⟨rfl, (hb1.alloc hb1.size _).drew⟩

/-- w' is w, grown, but for the blocks of F -/
structure Mut (F : Nat → Prop) (w w' : World) : Prop where
  os : w'.os = w.os
  tape : w'.tape = w.tape
  output : w'.output = w.output
  size : w.heap.size ≤ w'.heap.size
  block : ∀ k, k < w.heap.size → ¬ F k → w'.heap[k]? = w.heap[k]?
theorem Mut.refl (F : Nat → Prop) (w : World) : Mut F w w := ⟨rfl, rfl, rfl, Nat.le_refl _, fun _ _ _ => rfl⟩
theorem Mut.trans {F : Nat → Prop} {a b c : World} (h : Mut F a b) (k : Mut F b c) : Mut F a c :=
  ⟨k.os.trans h.os, k.tape.trans h.tape, k.output.trans h.output, Nat.le_trans h.size k.size, fun i hi hf => (k.block i (Nat.lt_of_lt_of_le hi h.size) hf).trans (h.block i hi hf)⟩
theorem Mut.of_below {F : Nat → Prop} {w w' : World} (h : Below w.heap.size w w') : Mut F w w' := ⟨h.os, h.tape, h.output, h.size, fun k hk _ => h.block k hk⟩
theorem Mut.of_but {F : Nat → Prop} {r : Nat} {w w' : World} (h : But r w w') (hr : F r) : Mut F w w' :=
  ⟨h.os, h.tape, h.output, by rw [h.size]; exact Nat.le_refl _, fun k _ hf => h.block k (fun e => hf (e ▸ hr))⟩
theorem Mut.mono {F G : Nat → Prop} {w w' : World} (h : Mut F w w') (hFG : ∀ k, k < w.heap.size → F k → G k) : Mut G w w' :=
  ⟨h.os, h.tape, h.output, h.size, fun k hk hg => h.block k hk (fun hf => hg (hFG k hk hf))⟩
theorem Mut.below {F : Nat → Prop} {w w' : World} (h : Mut F w w') {B : Nat} (hB : B ≤ w.heap.size) (hF : ∀ k, F k → B ≤ k) : Below B w w' :=
  ⟨h.os, h.tape, h.output, h.size, fun k hk => h.block k (by omega) (fun hf => by have := hF k hf; omega)⟩
theorem Mut.cell {F : Nat → Prop} {w w' : World} (h : Mut F w w') {p : Addr} (hp : p.block < w.heap.size) (hf : ¬ F p.block) : w'.cell? p = w.cell? p := World.cell?_of_block (w := w) (h.block p.block hp hf)

/-- a process into a set -/
def add1 (p : Pid) (L : List (Pid × Unit)) : List (Pid × Unit) := if (look p L).isSome = true then L else ins p () L

set_option maxHeartbeats 800000 in
set_option maxRecDepth 100000 in
theorem add_any (s r : Nat) (L : List (Pid × Unit)) (x y : Int) (w : World) (hS : SetIs w s r L) :
   Calls Try.prog 227 #[.pointer (some ⟨s, 0, none⟩), .agg #[.int .u16 x, .int .u32 y]] w fun e w' => e = .returned (.bool (!(look (x, y) L).isSome)) ∧ SetIs w' s r (add1 (x, y) L) ∧ Mut (fun k => k = r) w w' := by
  have hS1 := hS.alloc (.cells #[.int .u16 x, .int .u32 y] 26)
  have hb1 : Below w.heap.size w (w.alloc (.cells #[.int .u16 x, .int .u32 y] 26)) := (Below.refl _ _).alloc (Nat.le_refl _) _
  have hsr : s ≠ r := fun e => by
    have h1 := hS.box
    obtain ⟨es, cl, h2, _⟩ := hS.map
    subst e
    simp [World.cell?, h2] at h1
  cases hs : (look (x, y) L).isSome
  · have HS := hid hs
    clear hs
    go_enter Try.func227, Try.ntmps227
    go_wp2_with (go_at_call 173; refine (has_any _ _ _ _ _ _ _ hS1 HS).mono ?_; rintro e w1 ⟨rfl, hb2⟩; obtain ⟨hc1, hf1⟩ := bcell hb2)
    have hb12 := hb1.trans (hb2.mono hb1.size)
    have hz := hb2.size
    simp at hz
    have hS2 := hS1.ext hb2
    obtain ⟨w2, hrun, hM2, hbut⟩ := hS2.drew.map.update keyPid Try.underlying225 (x, y) ()
    have hrlt := hS.map.lt
    have c0 : w2.cell? ⟨s, 0, none⟩ = some (.map (some r)) := (hbut.cell (by exact hsr)).trans hS2.drew.box
    have e0 : w1.drew.cell? ⟨w.heap.size, 0, none⟩ = some (.int .u16 x) := by simp [hc1]
    have e1 : w1.drew.cell? ⟨w.heap.size, 1, none⟩ = some (.int .u32 y) := by simp [hc1]
    have c1 : w2.cell? ⟨w.heap.size, 0, none⟩ = some (.int .u16 x) := (hbut.cell (by simp; omega)).trans e0
    have c2 : w2.cell? ⟨w.heap.size, 1, none⟩ = some (.int .u32 y) := (hbut.cell (by simp; omega)).trans e1
    go_region_held3 (fun W => W.cell? ⟨s, 0, none⟩ = some (.map (some r)) ∧ W.cell? ⟨w.heap.size, 0, none⟩ = some (.int .u16 x) ∧ W.cell? ⟨w.heap.size, 1, none⟩ = some (.int .u32 y)) (first | exact ⟨hS2.drew.box, e0, e1⟩ | exact ⟨c0, c1, c2⟩) (fail)
    go_wp2
    go_ret
    exact ⟨rfl, ⟨c0, by unfold add1; rw [HS.out]; exact hM2⟩, (Mut.of_below hb12.drew).trans (Mut.of_but hbut rfl)⟩
  · have HS := hid hs
    clear hs
    go_enter Try.func227, Try.ntmps227
    go_wp2_with (go_at_call 173; refine (has_any _ _ _ _ _ _ _ hS1 HS).mono ?_; rintro e w1 ⟨rfl, hb2⟩; obtain ⟨hc1, hf1⟩ := bcell hb2)
    go_ret
    exact ⟨rfl, by unfold add1; rw [HS.out]; exact hS1.ext hb2, Mut.of_below (hb1.trans (hb2.mono hb1.size))⟩

theorem add_is (s r : Nat) (L : List (Pid × Unit)) (x y : Int) {bs : Bool} (h : (look (x, y) L).isSome = bs) (w : World) (hS : SetIs w s r L) :
   Calls Try.prog 227 #[.pointer (some ⟨s, 0, none⟩), .agg #[.int .u16 x, .int .u32 y]] w fun e w' => e = .returned (.bool (!bs)) ∧ SetIs w' s r (add1 (x, y) L) ∧ Mut (fun k => k = r) w w' := by
  have := add_any s r L x y w hS
  rw [h] at this
  exact this
theorem len_any (s r : Nat) (L : List (Pid × Unit)) (w : World) (hS : SetIs w s r L) :
   Calls Try.prog 87 #[.pointer (some ⟨s, 0, none⟩)] w fun e w' => e = .returned (.int .i64 L.length) ∧ w = w' := by
  have h0 := hS.box
  have hl := hS.map.len Try.underlying225 3
  go_enter Try.func87, Try.ntmps87
  go_wp2
  go_ret
  exact ⟨rfl, rfl⟩

/-- what a set holds after Union -/
def unionL : List (Pid × Unit) → List Pid → List (Pid × Unit)
  | L, [] => L
  | L, p :: l => unionL (add1 p L) l
/-- how many Union takes in -/
def unionN : List (Pid × Unit) → List Pid → Nat
  | _, [] => 0
  | L, p :: l => (if (look p L).isSome = true then 0 else 1) + unionN (add1 p L) l
theorem unionL_drop {L : List (Pid × Unit)} {xs : List Pid} {k : Nat} (h : k < xs.length) {x y : Int} (hx : (x, y) = xs[k]) : unionL L (xs.drop k) = unionL (add1 (x, y) L) (xs.drop (k + 1)) := by
  rw [List.drop_eq_getElem_cons h, ← hx]; rfl
theorem unionN_drop {L : List (Pid × Unit)} {xs : List Pid} {k : Nat} (h : k < xs.length) {x y : Int} (hx : (x, y) = xs[k]) : unionN L (xs.drop k) = (if (look (x, y) L).isSome = true then 0 else 1) + unionN (add1 (x, y) L) (xs.drop (k + 1)) := by
  rw [List.drop_eq_getElem_cons h, ← hx]; rfl
theorem PidRow.mut {F : Nat → Prop} {w w' : World} {a : Option Addr} {xs : List Pid} (h : PidRow w a xs) (hm : Mut F w w') (hF : ∀ b off, a = some ⟨b, off, none⟩ → 0 < xs.length → ¬ F b) : PidRow w' a xs := by
  rcases h with rfl | ⟨b, off, rfl, hlt, hc⟩
  · exact .inl rfl
  · by_cases h0 : 0 < xs.length
    · refine .inr ⟨b, off, rfl, by have := hm.size; omega, fun i hi => ?_⟩
      have := hF b off rfl h0
      rw [hm.cell (by exact hlt) (by exact this), hm.cell (by exact hlt) (by exact this)]
      exact hc i hi
    · exact .inl (List.length_eq_zero_iff.1 (by omega))
/-- a row of cells is no map -/
theorem PidRow.ne_map {w : World} {a : Option Addr} {xs : List Pid} (h : PidRow w a xs) {r : Nat} {es : Array MapEntry} {cl : Nat} (hr : w.heap[r]? = some (.map es cl)) {b off : Nat} (ha : a = some ⟨b, off, none⟩) (h0 : 0 < xs.length) : b ≠ r := by
  obtain ⟨b', off', rfl, _, hc⟩ := h.get h0
  cases ha
  intro e
  subst e
  have := (hc 0 h0).1
  simp [World.cell?, hr] at this
theorem PidRow.mutMap {w w' : World} {a : Option Addr} {xs : List Pid} (h : PidRow w a xs) {r : Nat} (hm : Mut (fun k => k = r) w w') {α β : Type} {ke : α → Value} {ve : β → Value} {L : List (α × β)} (hr : MapIs w r ke ve L) : PidRow w' a xs := by
  obtain ⟨es, cl, h2, _⟩ := hr
  exact h.mut hm fun b off ha h0 => h.ne_map h2 ha h0

set_option maxHeartbeats 800000 in
set_option maxRecDepth 100000 in
theorem union_any (s r : Nat) (L : List (Pid × Unit)) (a : Option Addr) (c : Nat) (xs : List Pid) (w : World) (hn : xs.length ≤ 70368744177664) (hrow : PidRow w a xs) (hS : SetIs w s r L) :
   Calls Try.prog 179 #[.pointer (some ⟨s, 0, none⟩), .slice a xs.length c] w fun e w' => e = .returned (.int .i64 (unionN L xs)) ∧ SetIs w' s r (unionL L xs) ∧ Mut (fun k => k = r) w w' := by
  go_enter Try.func179, Try.ntmps179
  go_wp2
  go_loopw [5, 10] (fun n i wr => ∃ (k : Nat) (Lk : List (Pid × Unit)) (m : Nat), k ≤ xs.length ∧ i = .int .i64 k ∧ n = .int .i64 m ∧ m ≤ k ∧ Hid (unionL L xs = unionL Lk (xs.drop k)) ∧ Hid (unionN L xs = m + unionN Lk (xs.drop k)) ∧ SetIs wr s r Lk ∧ Mut (fun k => k = r) w wr) (fun _ i _ => xs.length - (intOf i).toNat)
  case atStart => exact ⟨0, L, 0, Nat.zero_le _, rfl, rfl, Nat.le_refl _, rfl, (show unionN L xs = 0 + unionN L xs by omega), hS, Mut.refl _ _⟩
  case round =>
    obtain ⟨k, Lk, m, hk, rfl, rfl, hmk, hL, hN, hSk, hmut⟩ := hrel
    by_cases hlt : k < xs.length
    · obtain ⟨b, off, x, y, rfl, hx, d1, d2⟩ := (hrow.mutMap hmut hS.map).at (Below.refl _ _) rfl hlt
      have hL1 := unionL_drop (L := Lk) hlt hx
      have hN1 := unionN_drop (L := Lk) hlt hx
      have HL1 := hid hL1
      have HN1 := hid hN1
      clear hx hrow hL1 hN1
      have hB1 : Mut (fun k => k = r) w (wr.alloc (.cells #[.int .u16 x, .int .u32 y] 26)) := hmut.trans (Mut.of_below ((Below.refl _ _).alloc (Nat.le_refl _) _))
      cases hs : (look (x, y) Lk).isSome
      · have HS := hid hs
        clear hs
        go_wp2_with (go_at_call 227; refine (add_is _ _ _ _ _ HS.out _ (hSk.alloc _)).mono ?_; rintro e w1 ⟨rfl, hS1, hm1⟩)
        go_roundw
        case rel => exact ⟨k + 1, _, m + 1, by omega, by go_num, by go_num, by omega, hL.out.trans HL1.out, hN.out.trans (by rw [HN1.out, HS.out]; simp; omega), hS1, hB1.trans hm1⟩
        case measure => simp [intOf]; omega
      · have HS := hid hs
        clear hs
        go_wp2_with (go_at_call 227; refine (add_is _ _ _ _ _ HS.out _ (hSk.alloc _)).mono ?_; rintro e w1 ⟨rfl, hS1, hm1⟩)
        go_roundw
        case rel => exact ⟨k + 1, _, m, by omega, by go_num, rfl, by omega, hL.out.trans HL1.out, hN.out.trans (by rw [HN1.out, HS.out]; simp), hS1, hB1.trans hm1⟩
        case measure => simp [intOf]; omega
    · go_wp2
      go_ret
      exact ⟨ret_int (by rw [hN.out, List.drop_eq_nil_of_le (by omega)]; simp [unionN]), by rw [hL.out, List.drop_eq_nil_of_le (by omega)]; exact hSk, hmut⟩

set_option maxHeartbeats 800000 in
theorem new_any (a : Option Addr) (c : Nat) (xs : List Pid) (w : World) (hn : xs.length ≤ 70368744177664) (hrow : PidRow w a xs) :
   Calls Try.prog 85 #[.slice a xs.length c] w fun e w' => ∃ s r, e = .returned (.pointer (some ⟨s, 0, none⟩)) ∧ w.heap.size ≤ s ∧ w.heap.size ≤ r ∧ SetIs w' s r (unionL [] xs) ∧ Below w.heap.size w w' := by
  have hmm := @run_makeMap Try.prog
  have hB : Below w.heap.size w ((w.alloc (.map #[] 0)).alloc (.cells #[.map (some w.heap.size)] 227)) := ((Below.refl _ _).alloc (Nat.le_refl _) _).alloc (by simp) _
  have hS : SetIs ((w.alloc (.map #[] 0)).alloc (.cells #[.map (some w.heap.size)] 227)) (w.heap.size + 1) w.heap.size [] := ⟨by simp, (MapIs.made _).alloc _⟩
  go_enter Try.func85, Try.ntmps85
  go_wp2_with (go_at_call 179; refine (union_any _ _ _ _ _ _ _ hn (hrow.ext hB) hS).mono ?_; rintro e w1 ⟨rfl, hS1, hm1⟩)
  go_ret
  exact ⟨_, _, rfl, by omega, Nat.le_refl _, hS1, hB.trans (hm1.below (by simp; omega) (fun k hk => by omega))⟩
end Go.Proofs.Ytbpfhclcjedkcaa

namespace Go.Proofs.Ytbpfhclcjedkcaa
open Go.RowKit

theorem info36 : (Try.prog.info? 26).map (fun i => (i.zero, i.size, i.bytes)) = some (some (.agg #[.int .u16 0, .int .u32 0]), 2, 8) := by kernel_rfl

def pidCells (xs : List Pid) : List Value := xs.flatMap fun p => [.int .u16 p.1, .int .u32 p.2]
theorem pidCells_length : ∀ (xs : List Pid), (pidCells xs).length = xs.length * 2
  | [] => rfl
  | p :: l => by
    have := pidCells_length l
    unfold pidCells at this ⊢
    simp only [List.flatMap_cons, List.length_append, List.length_cons, List.length_nil, this]
    omega
theorem pidCells_append (xs ys : List Pid) : pidCells (xs ++ ys) = pidCells xs ++ pidCells ys := by simp [pidCells]
theorem pidCells_get : ∀ (xs : List Pid) (i : Nat) (h : i < xs.length), (pidCells xs)[i * 2]? = some (.int .u16 xs[i].1) ∧ (pidCells xs)[i * 2 + 1]? = some (.int .u32 xs[i].2)
  | p :: l, 0, _ => by simp [pidCells]
  | p :: l, i + 1, h => by
    have := pidCells_get l i (by simpa using h)
    have e : pidCells (p :: l) = [.int .u16 p.1, .int .u32 p.2] ++ pidCells l := by simp [pidCells]
    rw [e, show (i + 1) * 2 = i * 2 + 2 by omega]
    constructor
    · rw [List.getElem?_append_right (by simp)]
      simpa using this.1
    · rw [List.getElem?_append_right (by simp)]
      simpa using this.2
theorem pidCells_one (xs : List Pid) : ∀ u ∈ pidCells xs, u.oneCell' = true := by
  intro u hu
  obtain ⟨p, _, hp⟩ := List.mem_flatMap.1 hu
  simp at hp
  rcases hp with rfl | rfl <;> rfl
theorem addr_add (b off n : Nat) : (⟨b, off, none⟩ : Addr).add n = ⟨b, off + n, none⟩ := by
  unfold Addr.add; split <;> simp_all
/-- the cells of a row, one by one -/
theorem PidRow.cells {w : World} {b off : Nat} {xs : List Pid} (hc : ∀ i (h : i < xs.length), w.cell? ⟨b, off + i * 2, none⟩ = some (.int .u16 xs[i].1) ∧ w.cell? ⟨b, off + i * 2 + 1, none⟩ = some (.int .u32 xs[i].2)) :
    ∀ j u, (pidCells xs)[j]? = some u → w.cell? ((⟨b, off, none⟩ : Addr).add j) = some u := by
  intro j u hu
  have hj : j < (pidCells xs).length := (List.getElem?_eq_some_iff.1 hu).1
  rw [pidCells_length] at hj
  rw [addr_add]
  have hi : j / 2 < xs.length := by omega
  obtain ⟨h1, h2⟩ := hc (j / 2) hi
  obtain ⟨g1, g2⟩ := pidCells_get xs (j / 2) hi
  rcases Nat.mod_two_eq_zero_or_one j with hm | hm
  · have e : j / 2 * 2 = j := by omega
    rw [e] at h1 g1
    rw [h1, ← g1, hu]
  · have e : j / 2 * 2 + 1 = j := by omega
    rw [e] at g2
    rw [show off + j = off + j / 2 * 2 + 1 by omega, h2, ← g2, hu]

/-- a slice value that owns a row of processes, from block base on -/
def OwnP (w : World) (base : Nat) (v : Value) (xs : List Pid) : Prop := w.ownsRow base 26 2 v xs.length (pidCells xs)
theorem OwnP.nil (w : World) (base : Nat) : OwnP w base (.slice none 0 0) [] := World.ownsRow_nil _ _ _ _
theorem OwnP.row {w : World} {base : Nat} {v : Value} {xs : List Pid} (h : OwnP w base v xs) : ∃ a c, v = .slice a xs.length c ∧ PidRow w a xs ∧ ∀ b off, a = some ⟨b, off, none⟩ → base ≤ b := by
  have hcells := fun g => World.ownsRow.cells (g := g) h
  rcases h.2 with ⟨rfl, hn⟩ | ⟨g, cap, cur, rfl, hb, hg, hnc, hcm, hcs, htake⟩
  · exact ⟨none, 0, by rw [hn], .inl (List.length_eq_zero_iff.1 hn), by simp⟩
  · refine ⟨_, cap, rfl, .inr ⟨g, 0, rfl, (Array.getElem?_eq_some_iff.1 hg).1, fun i hi => ?_⟩, fun b off e => by cases e; exact hb⟩
    obtain ⟨g1, g2⟩ := pidCells_get xs i hi
    have h1 := hcells g rfl _ _ g1
    have h2 := hcells g rfl _ _ g2
    rw [addr_add] at h1 h2
    exact ⟨h1, h2⟩
theorem OwnP.ext {w w' : World} {base : Nat} {v : Value} {xs : List Pid} (h : OwnP w base v xs) (hb : Below w.heap.size w w') : OwnP w' base v xs := by
  refine ⟨h.1, ?_⟩
  rcases h.2 with hn | ⟨g, cap, cur, rfl, hbb, hgg, rest⟩
  · exact .inl hn
  · exact .inr ⟨g, cap, cur, rfl, hbb, (hb.block g (Array.getElem?_eq_some_iff.1 hgg).1).trans hgg, rest⟩

theorem run_appendP {w : World} {base : Nat} {v : Value} {xs ys : List Pid} (hown : OwnP w base v xs) {a : Option Addr} {c : Nat} (hy : PidRow w a ys) (hlen : xs.length + ys.length ≤ 1099511627776) (hbase : base ≤ w.heap.size) (ty : TypeId) :
    ∃ v' w', (Builtin.append_ #[30, 30] ty #[v, .slice a ys.length c]).run Try.prog w = .ok v' w' ∧ OwnP w' base v' (xs ++ ys) ∧ w.grownBy w' v.ownBlock ∧ (v' = .slice none 0 0 ↔ v = .slice none 0 0 ∧ ys = []) := by
  obtain ⟨i0, hi, hz0, hz1, hz2⟩ := info_parts info36
  rcases hy with rfl | ⟨b, off, rfl, hlt, hc⟩
  · refine ⟨v, w, ?_, by simpa using hown, ⟨rfl, rfl, rfl, Nat.le_refl _, fun _ _ _ => rfl⟩, by simp⟩
    rcases hown.2 with ⟨rfl, hn⟩ | ⟨g, cap, cur, rfl, hb, hg, hnc, hcm, hcs, htake⟩
    · cases a <;> simp [Builtin.append_, run_underlying Try.underlying30, sizeOf, typeInfo, hi, Builtin.lenOf, Builtin.firstCells, loadCells, loadCellsFrom]
    · cases a <;> simp [Builtin.append_, run_underlying Try.underlying30, sizeOf, typeInfo, hi, Builtin.lenOf, Builtin.firstCells, loadCells, loadCellsFrom, hnc, storeCells]
  · obtain ⟨v', w', hr, h2, h3, h4⟩ := run_append_own (P := Try.prog) w base 30 ty 26 i0 _ 2 8 Try.underlying30 hi hz0 hz1 hz2 rfl (by decide) v xs.length (pidCells xs) hown ⟨b, off, none⟩ ys.length c (pidCells ys) (pidCells_length ys) (PidRow.cells hc) (pidCells_one ys) (by unfold maxLen; omega) (by omega) hbase
    refine ⟨v', w', hr, ?_, h3, ?_⟩
    · unfold OwnP; rw [List.length_append, pidCells_append]; exact h2
    · rw [h4, List.length_eq_zero_iff]

/-- 'append(out, ys...)' at the operation -/
theorem wpList_appendP {w : World} {ops : Array Oper} {rest : List Oper} {o : Oper} {a : Act} {Q : Exit → Act → World → Prop} {s x : Operand} {base : Nat} {v : Value} {xs ys : List Pid} (hown : OwnP w base v xs) {ad : Option Addr} {c : Nat} (hy : PidRow w ad ys)
    (hlen : xs.length + ys.length ≤ 1099511627776) (hbase : base ≤ w.heap.size)
    (hg : o.guard = none) (ho : o.op = .call { callee := .builtin .append, args := #[s, x], argTypes := #[30, 30] }) (hs : a.eval s = v) (hx : a.eval x = .slice ad ys.length c)
    (h : ∀ v' w', OwnP w' base v' (xs ++ ys) → w.grownBy w' v.ownBlock → (v' = .slice none 0 0 ↔ v = .slice none 0 0 ∧ ys = []) → wpList Try.prog ops Q rest (a.put o.dst v') w') : wpList Try.prog ops Q (o :: rest) a w := by
  obtain ⟨v', w', hr, h2, h3, h4⟩ := run_appendP hown (c := c) hy hlen hbase o.type
  exact Lib.wpList_append_run w hg s x 30 30 ho _ _ hs hx v' w' hr (h v' w' h2 h3 h4)

end Go.Proofs.Ytbpfhclcjedkcaa

namespace Go.Proofs.Ytbpfhclcjedkcaa
open Go.RowKit

/-- the lists' lengths, together -/
def lens (ls : List (List Pid)) : Nat := (ls.map List.length).sum
theorem lens_take_succ {ls : List (List Pid)} {k : Nat} (h : k < ls.length) : lens (ls.take (k + 1)) = lens (ls.take k) + ls[k].length := by
  unfold lens
  rw [List.take_succ_eq_append_getElem h, List.map_append, List.sum_append]
  simp only [List.map_cons, List.map_nil, List.sum_cons, List.sum_nil, Nat.add_zero]
theorem lens_take_le (ls : List (List Pid)) (k : Nat) : lens (ls.take k) ≤ lens ls := by
  unfold lens
  have h : ls = ls.take k ++ ls.drop k := (List.take_append_drop k ls).symm
  conv => rhs; rw [h]
  rw [List.map_append, List.sum_append]
  omega
theorem lens_take_all {ls : List (List Pid)} {k : Nat} (h : ls.length ≤ k) : lens (ls.take k) = lens ls := by rw [List.take_of_length_le h]
theorem flatten_take_succ {ls : List (List Pid)} {k : Nat} (h : k < ls.length) : (ls.take (k + 1)).flatten = (ls.take k).flatten ++ ls[k] := by
  rw [List.take_succ_eq_append_getElem h, List.flatten_append]; simp only [List.flatten_cons, List.flatten_nil, List.append_nil]
theorem lens_flatten (ls : List (List Pid)) : ls.flatten.length = lens ls := by unfold lens; rw [List.length_flatten]

end Go.Proofs.Ytbpfhclcjedkcaa

namespace Go.Proofs.Ytbpfhclcjedkcaa
open Go.RowKit

theorem PidRow.one (w : World) (x y : Int) : PidRow (w.alloc (.cells #[.int .u16 x, .int .u32 y] 26)) (some ⟨w.heap.size, 0, none⟩) [(x, y)] :=
  .inr ⟨_, 0, rfl, by simp, fun i hi => by
    have : i = 0 := by simpa using hi
    subst this
    exact ⟨by simp, by simp⟩⟩
theorem PidRow.drew {w : World} {a : Option Addr} {xs : List Pid} (h : PidRow w a xs) : PidRow w.drew a xs := h.ext (Below.refl _ _).drew

def chkFrom (S : List (Pid × Int)) (K : List Pid → Nat → Bool) : List Pid → Nat → List (List Pid) → Bool
  | F, n, [] => K F n
  | F, n, l :: r => match l with
    | [] => false
    | p :: _ => if risFrom S (-1) l then chkFrom S K (F ++ [p]) (n + l.length) r else false
def chkEnd (V : View) (F : List Pid) (n : Nat) : Bool :=
  decide (n = V.ms.length) && (decide ((unionL [] V.ls.flatten).length = n) && (risFrom (ranksL V.ms) (-1) F && (decide (V.ds ≠ []) && risFrom (ranksL V.ms) (-1) V.ds)))
/-- view.Check, as data -/
def checkB (V : View) : Bool :=
  decide (1 ≤ V.id) && (decide (V.id ≤ 4611686018427387904) && (membersB V.ms && chkFrom (ranksL V.ms) (chkEnd V) [] 0 V.ls))
theorem checkB_4 {V : View} (h1 : 1 ≤ V.id) (h2 : V.id ≤ 4611686018427387904) (h : membersB V.ms = true) : checkB V = chkFrom (ranksL V.ms) (chkEnd V) [] 0 V.ls := by
  unfold checkB; rw [decide_eq_true h1, decide_eq_true h2, h, Bool.true_and, Bool.true_and, Bool.true_and]
/-- a view in a box of its own -/
structure ViewBox (w : World) (b : Nat) (V : View) (am al ad : Option Addr) (cm cl cd : Nat) : Prop where
  c0 : w.cell? ⟨b, 0, none⟩ = some (.int .u64 V.id)
  c1 : w.cell? ⟨b, 1, none⟩ = some (.slice am V.ms.length cm)
  c2 : w.cell? ⟨b, 2, none⟩ = some (.slice al V.ls.length cl)
  c3 : w.cell? ⟨b, 3, none⟩ = some (.slice ad V.ds.length cd)
section
variable {w w' : World} {b : Nat} {V : View} {am al ad : Option Addr} {cm cl cd : Nat}
theorem ViewBox.lt (h : ViewBox w b V am al ad cm cl cd) : b < w.heap.size := World.block_lt_of_cell? w _ h.c0
theorem ViewBox.ext (h : ViewBox w b V am al ad cm cl cd) {B : Nat} (hb : Below B w w') (hB : b < B) : ViewBox w' b V am al ad cm cl cd :=
  ⟨by rw [hb.cell (by exact hB)]; exact h.c0, by rw [hb.cell (by exact hB)]; exact h.c1, by rw [hb.cell (by exact hB)]; exact h.c2, by rw [hb.cell (by exact hB)]; exact h.c3⟩
theorem ViewBox.made (w : World) : ViewBox (w.alloc (.cells #[.int .u64 V.id, .slice am V.ms.length cm, .slice al V.ls.length cl, .slice ad V.ds.length cd] 33)) w.heap.size V am al ad cm cl cd :=
  ⟨by simp, by simp, by simp, by simp⟩
end
theorem ViewR.of (w : World) {am al ad : Option Addr} {V : View} (h : ViewR w am al ad V) (o : Obj) : ViewR (w.alloc o) am al ad V := h.ext ((Below.refl _ _).alloc (Nat.le_refl _) _)

end Go.Proofs.Ytbpfhclcjedkcaa

namespace Go.Proofs.Ytbpfhclcjedkcaa
open Go.RowKit

/-- w, grown -/
structure ExtW (w : World) where
  W : World
  h : Below w.heap.size w W
instance extW_some (w : World) : Nonempty (ExtW w) := ⟨⟨w, Below.refl _ _⟩⟩
theorem wp_region_ext {P : Program} {w wr : World} {id : Nat} {Q : Exit → Act → World → Prop} {a : Act} {l : List Oper} (hb : Below w.heap.size w wr) (hm : P.follows .mixedOrders = true) (hB : Region.lexB .any l.toArray = true)
    (h : wpQuiet P l.toArray (fun w' => ∃ U : ExtW w, w' = U.W) (fun a' => ∀ w', (∃ U : ExtW w, w' = U.W) → Q .normal a' w') l a) : (Code.region id l.toArray true).wp P Q a wr :=
  wp_region_quiet (C := fun w' => ∃ U : ExtW w, w' = U.W) hm hB ⟨⟨wr.drew, hb.drew⟩, rfl⟩ (by simpa using h)
def mayR (p : Pid) : Bool := decide (p.1 < 16) && decide (0 < p.2)
theorem mayR_any (x y : Int) (w : World) : Calls Try.prog 68 #[.agg #[.int .u16 x, .int .u32 y]] w fun e w' => e = .returned (.bool (mayR (x, y))) ∧ Below w.heap.size w w' := by
  have hB : Below w.heap.size w (w.alloc (.cells #[.int .u16 x, .int .u32 y] 26)) := (Below.refl _ _).alloc (Nat.le_refl _) _
  by_cases h1 : x < 16
  · have h1' : decide (x < 16) = true := by simpa using h1
    go_enter Try.func68, Try.ntmps68
    go_wp2
    go_ret
    exact ⟨ret_bool (by simp [mayR, h1]), hB⟩
  · have h1' : decide (x < 16) = false := by simpa using h1
    go_enter Try.func68, Try.ntmps68
    go_wp2
    go_ret
    exact ⟨ret_bool (by unfold mayR; rw [show decide ((x, y).1 < 16) = false from h1']; rfl), hB⟩
theorem mayR_is {x y : Int} {w : World} {bm : Bool} (h : Hid (mayR (x, y) = bm)) : Calls Try.prog 68 #[.agg #[.int .u16 x, .int .u32 y]] w fun e w' => e = .returned (.bool bm) ∧ Below w.heap.size w w' := by
  have := mayR_any x y w
  rw [h.out] at this
  exact this

/-- cells of a row, in every later world -/
theorem PidRow.all {w : World} {b off : Nat} {xs : List Pid} (hrow : PidRow w (some ⟨b, off, none⟩) xs) {k : Nat} (hlt : k < xs.length) {x y : Int} (hx : (x, y) = xs[k]) :
    (∀ W, Below w.heap.size w W → W.cell? ⟨b, off + k * 2, none⟩ = some (.int .u16 x)) ∧ (∀ W, Below w.heap.size w W → W.cell? ⟨b, off + k * 2 + 1, none⟩ = some (.int .u32 y)) := by
  constructor <;> intro W h <;> obtain ⟨b', off', x', y', e, hx', h1, h2⟩ := hrow.at h rfl hlt <;> cases e <;> rw [← hx] at hx' <;> cases hx' <;> assumption

end Go.Proofs.Ytbpfhclcjedkcaa

namespace Go.Proofs.Ytbpfhclcjedkcaa
open Go.RowKit

section
variable {w : World} {b : Nat} {V : View} {am al ad : Option Addr} {cm cl cd : Nat}
end

theorem cell_extw {w : World} {a : Addr} {v : Value} (h : w.cell? a = some v) : ∀ U : ExtW w, U.W.cell? a = some v := fun U => (U.h.cell (World.block_lt_of_cell? w _ h)).trans h
theorem cell_to {w wr : World} {a : Addr} {v : Value} (h : w.cell? a = some v) (hb : Below w.heap.size w wr) : wr.cell? a = some v := (hb.cell (World.block_lt_of_cell? w _ h)).trans h
end Go.Proofs.Ytbpfhclcjedkcaa

namespace Go.Proofs.Ytbpfhclcjedkcaa
open Go.RowKit
theorem PidRow.two (w : World) (x1 y1 x2 y2 : Int) : PidRow (w.alloc (.cells #[.int .u16 x1, .int .u32 y1, .int .u16 x2, .int .u32 y2] 26)) (some ⟨w.heap.size, 0, none⟩) [(x1, y1), (x2, y2)] :=
  .inr ⟨_, 0, rfl, by simp, fun i hi => by
    match i, hi with
    | 0, _ => exact ⟨by simp, by simp⟩
    | 1, _ => exact ⟨by simp, by simp⟩⟩
theorem PidRow.three (w : World) (x1 y1 x2 y2 x3 y3 : Int) : PidRow (w.alloc (.cells #[.int .u16 x1, .int .u32 y1, .int .u16 x2, .int .u32 y2, .int .u16 x3, .int .u32 y3] 26)) (some ⟨w.heap.size, 0, none⟩) [(x1, y1), (x2, y2), (x3, y3)] :=
  .inr ⟨_, 0, rfl, by simp, fun i hi => by
    match i, hi with
    | 0, _ => exact ⟨by simp, by simp⟩
    | 1, _ => exact ⟨by simp, by simp⟩
    | 2, _ => exact ⟨by simp, by simp⟩⟩
theorem PidRow.one' (w : World) {b : Nat} (h : b = w.heap.size) (x y : Int) : PidRow (w.alloc (.cells #[.int .u16 x, .int .u32 y] 26)) (some ⟨b, 0, none⟩) [(x, y)] := by subst h; exact PidRow.one _ _ _
theorem LeafRow.alloc {w : World} {a : Option Addr} {xs : List (List Pid)} (h : LeafRow w a xs) (o : Obj) : LeafRow (w.alloc o) a xs := h.ext ((Below.refl _ _).alloc (Nat.le_refl _) _)
theorem PidRow.alloc {w : World} {a : Option Addr} {xs : List Pid} (h : PidRow w a xs) (o : Obj) : PidRow (w.alloc o) a xs := h.ext ((Below.refl _ _).alloc (Nat.le_refl _) _)

end Go.Proofs.Ytbpfhclcjedkcaa

namespace Go.Proofs.Ytbpfhclcjedkcaa
open Go.RowKit

theorem rel {P : Program} {f : FuncId} {args : Array Value} {w0 W : World} {v v' : Value} (hb : Below w0.heap.size w0 W) (h : Calls P f args W fun e w' => e = .returned v ∧ Below W.heap.size W w') (hv : v = v') :
    Calls P f args W fun e w' => e = .returned v' ∧ Below w0.heap.size w0 w' := by
  subst hv
  exact h.mono fun _ _ ⟨h1, h2⟩ => ⟨h1, hb.trans (h2.mono hb.size)⟩

end Go.Proofs.Ytbpfhclcjedkcaa

/- The contract of the library at this program: the numbers, and a field a fact. Printed by the kit. -/
namespace Go.Proofs
open Go.Shelf
def Try.sortPid_ren : Go.Shelf.Ren := ⟨fun | 6 => 209 | 15 => 235 | 14 => 234 | 28 => 253 | 29 => 254 | 20 => 245 | 21 => 246 | 22 => 247 | 23 => 248 | 24 => 249 | 25 => 250 | 26 => 251 | 27 => 252 | 46 => 257 | 47 => 258 | 48 => 259 | 49 => 260 | 50 => 261 | 57 => 270 | n => n, fun | 22 => 30 | 24 => 26 | 25 => 250 | 3 => 3 | 39 => 142 | 0 => 0 | 53 => 24 | 55 => 29 | 4 => 4 | 46 => 275 | 45 => 274 | 50 => 224 | 5 => 5 | 9 => 9 | 66 => 283 | 70 => 285 | 76 => 292 | 77 => 293 | n => n, fun | n => n⟩
theorem Try.sortPid : Go.Proofs.SlLaysF0.n6 Try.prog Try.sortPid_ren := {
  mixed := by kernel_rfl
  f6 := ⟨Try.f209.name, by decide, Try.func209.trans (congrArg some (by kernel_rfl))⟩
  f14 := ⟨Try.f234.name, by decide, Try.func234.trans (congrArg some (by kernel_rfl))⟩
  f15 := Try.func235.trans (congrArg some (by kernel_rfl))
  f20 := ⟨Try.f245.name, by decide, Try.func245.trans (congrArg some (by kernel_rfl))⟩
  f21 := ⟨Try.f246.name, by decide, Try.func246.trans (congrArg some (by kernel_rfl))⟩
  f22 := ⟨Try.f247.name, by decide, Try.func247.trans (congrArg some (by kernel_rfl))⟩
  f23 := ⟨Try.f248.name, by decide, Try.func248.trans (congrArg some (by kernel_rfl))⟩
  f24 := ⟨Try.f249.name, by decide, Try.func249.trans (congrArg some (by kernel_rfl))⟩
  f25 := ⟨Try.f250.name, by decide, Try.func250.trans (congrArg some (by kernel_rfl))⟩
  f26 := ⟨Try.f251.name, by decide, Try.func251.trans (congrArg some (by kernel_rfl))⟩
  f27 := ⟨Try.f252.name, by decide, Try.func252.trans (congrArg some (by kernel_rfl))⟩
  f28 := Try.func253.trans (congrArg some (by kernel_rfl))
  f29 := Try.func254.trans (congrArg some (by kernel_rfl))
  f46 := ⟨Try.f257.name, by decide, Try.func257.trans (congrArg some (by kernel_rfl))⟩
  f47 := Try.func258.trans (congrArg some (by kernel_rfl))
  f48 := Try.func259.trans (congrArg some (by kernel_rfl))
  f49 := ⟨Try.f260.name, by decide, Try.func260.trans (congrArg some (by kernel_rfl))⟩
  f50 := ⟨Try.f261.name, by decide, Try.func261.trans (congrArg some (by kernel_rfl))⟩
  f57 := ⟨Try.f270.name, by decide, Try.func270.trans (congrArg some (by kernel_rfl))⟩
  t0 := Try.underlying0
  a0 := Try.isAgg0
  z0 := Try.sizeOf0
  v0 := Try.zeroValue0
  t3 := Try.underlying3
  a3 := Try.isAgg3
  z3 := Try.sizeOf3
  v3 := Try.zeroValue3
  t4 := Try.underlying4
  a4 := Try.isAgg4
  z4 := Try.sizeOf4
  v4 := Try.zeroValue4
  t5 := Try.underlying5
  a5 := Try.isAgg5
  z5 := Try.sizeOf5
  v5 := Try.zeroValue5
  t9 := Try.underlying9
  a9 := Try.isAgg9
  z9 := Try.sizeOf9
  v9 := Try.zeroValue9
  t22 := Try.underlying30
  a22 := Try.isAgg30
  z22 := Try.sizeOf30
  v22 := Try.zeroValue30
  t25 := Try.underlying250
  a25 := Try.isAgg250
  z25 := Try.sizeOf250
  v25 := Try.zeroValue250
  t39 := Try.underlying142
  a39 := Try.isAgg142
  z39 := Try.sizeOf142
  v39 := Try.zeroValue142
  t45 := Try.underlying274
  a45 := Try.isAgg274
  z45 := Try.sizeOf274
  v45 := Try.zeroValue274
  t46 := Try.underlying275
  a46 := Try.isAgg275
  z46 := Try.sizeOf275
  v46 := Try.zeroValue275
  t50 := Try.underlying224
  a50 := Try.isAgg224
  z50 := Try.sizeOf224
  v50 := Try.zeroValue224
  t53 := Try.underlying24
  a53 := Try.isAgg24
  z53 := Try.sizeOf24
  v53 := Try.zeroValue24
  t55 := Try.underlying29
  a55 := Try.isAgg29
  z55 := Try.sizeOf29
  v55 := Try.zeroValue29
  t66 := Try.underlying283
  a66 := Try.isAgg283
  z66 := Try.sizeOf283
  v66 := Try.zeroValue283
  t70 := Try.underlying285
  a70 := Try.isAgg285
  z70 := Try.sizeOf285
  v70 := Try.zeroValue285
  t76 := Try.underlying292
  a76 := Try.isAgg292
  z76 := Try.sizeOf292
  v76 := Try.zeroValue292
  t77 := Try.underlying293
  a77 := Try.isAgg293
  z77 := Try.sizeOf293
  v77 := Try.zeroValue293 }
end Go.Proofs

namespace Go.Proofs.Ytbpfhclcjedkcaa
open Go.RowKit
open Go.Sort (grow grow_grow grow_empty alloc_eq_grow ahead putRow putCells HoldsK Holds flatK SWO)

/-- w', but for draws and new blocks -/
def Grew (w w' : World) : Prop := ∃ q os, w' = grow (w.drewN q) os
theorem Grew.refl (w : World) : Grew w w := ⟨0, #[], by rw [grow_empty]; rfl⟩
theorem Grew.alloc {w w' : World} (h : Grew w w') (o : Obj) : Grew w (w'.alloc o) := by
  obtain ⟨q, os, rfl⟩ := h
  exact ⟨q, os ++ #[o], by rw [alloc_eq_grow, grow_grow]⟩
theorem Grew.trans {a b c : World} (h : Grew a b) (k : Grew b c) : Grew a c := by
  obtain ⟨q, os, rfl⟩ := h
  obtain ⟨q', os', rfl⟩ := k
  refine ⟨q + q', os ++ os', ?_⟩
  rw [← grow_grow]
  unfold grow World.drewN
  simp [Nat.add_assoc]
theorem Grew.drew {w w' : World} (h : Grew w w') : Grew w w'.drew := h.trans ⟨1, #[], by rw [grow_empty]; rfl⟩
theorem Grew.below {w w' : World} (h : Grew w w') : Below w.heap.size w w' := by
  obtain ⟨q, os, rfl⟩ := h
  refine ⟨rfl, rfl, rfl, by simp [grow, World.drewN], fun k hk => ?_⟩
  simp [grow, World.drewN, Array.getElem?_append, hk]
structure GrewW (w : World) where
  W : World
  h : Grew w W
instance grewW_some (w : World) : Nonempty (GrewW w) := ⟨⟨w, Grew.refl _⟩⟩
theorem wp_region_grew {P : Program} {w wr : World} {id : Nat} {Q : Exit → Act → World → Prop} {a : Act} {l : List Oper} (hb : Grew w wr) (hm : P.follows .mixedOrders = true) (hB : Region.lexB .any l.toArray = true)
    (h : wpQuiet P l.toArray (fun w' => ∃ U : GrewW w, w' = U.W) (fun a' => ∀ w', (∃ U : GrewW w, w' = U.W) → Q .normal a' w') l a) : (Code.region id l.toArray true).wp P Q a wr :=
  wp_region_quiet (C := fun w' => ∃ U : GrewW w, w' = U.W) hm hB ⟨⟨wr.drew, hb.drew⟩, rfl⟩ (by simpa using h)
theorem cell_greww {w : World} {a : Addr} {v : Value} (h : w.cell? a = some v) : ∀ U : GrewW w, U.W.cell? a = some v := fun U => (U.h.below.cell (World.block_lt_of_cell? w _ h)).trans h
theorem grew_of {P : Program} {f : FuncId} {args : Array Value} {w0 : World} {U : GrewW w0} {v v' : Value} (h : Calls P f args U.W fun e w' => e = .returned v ∧ Grew U.W w') (hv : v = v') :
    Calls P f args U.W fun e w' => e = .returned v' ∧ ∃ U' : GrewW w0, w' = U'.W := by
  subst hv
  refine h.mono ?_
  rintro e w' ⟨rfl, hb⟩
  exact ⟨rfl, ⟨_, U.h.trans hb⟩, rfl⟩

/-- a process that may stand in a program -/
def ok (p : Pid) : Prop := 0 ≤ p.1 ∧ p.1 < 65536 ∧ 0 ≤ p.2 ∧ p.2 < 4294967296
def numOf (p : Pid) : Int := p.1 * 4294967296 + p.2
def ahead (p q : Pid) : Bool := decide (numOf p < numOf q)
theorem ret_u64 {a b : Int} (h : a = b) : Ending.returned (.int .u64 a) = .returned (.int .u64 b) := by rw [h]
theorem u64_or32 (x y : Int) (hy₀ : 0 ≤ y) (hy : y < 4294967296) (hx₀ : 0 ≤ x) (hx : x % 4294967296 = 0) (hx₁ : x < 18446744073709551616) : bits .or .u64 x y = x + y :=
  bits_join .u64 64 (by decide) wraps_u64 32 x y hx₀ hx hx₁ hy₀ hy (by omega)
set_option maxHeartbeats 400000 in
theorem number_any (x y : Int) (w : World) (h : ok (x, y)) : Calls Try.prog 232 #[.agg #[.int .u16 x, .int .u32 y]] w fun e w' => e = .returned (.int .u64 (numOf (x, y))) ∧ Grew w w' := by
  obtain ⟨hx, hx2, hy, hy2⟩ := h
  simp only at hx hx2 hy hy2
  go_enter Try.func232, Try.ntmps232
  go_wp2
  go_ret
  exact ⟨ret_u64 (u64_or32 _ _ hy hy2 (by omega) (by omega) (by omega)), (Grew.refl _).alloc _⟩
set_option maxHeartbeats 400000 in
theorem ahead_any (a b c d : Int) (w : World) (h1 : ok (a, b)) (h2 : ok (c, d)) : Calls Try.prog 195 #[.agg #[.int .u16 a, .int .u32 b], .agg #[.int .u16 c, .int .u32 d]] w fun e w' => e = .returned (.bool (ahead (a, b) (c, d))) ∧ Grew w w' := by
  have hB : Grew w ((w.alloc (.cells #[.int .u16 a, .int .u32 b] 26)).alloc (.cells #[.int .u16 c, .int .u32 d] 26)) := ((Grew.refl _).alloc _).alloc _
  have k0 : ((w.alloc (.cells #[.int .u16 a, .int .u32 b] 26)).alloc (.cells #[.int .u16 c, .int .u32 d] 26)).cell? ⟨w.heap.size, 0, none⟩ = some (.int .u16 a) := by simp
  have k1 : ((w.alloc (.cells #[.int .u16 a, .int .u32 b] 26)).alloc (.cells #[.int .u16 c, .int .u32 d] 26)).cell? ⟨w.heap.size, 1, none⟩ = some (.int .u32 b) := by simp
  have k2 : ((w.alloc (.cells #[.int .u16 a, .int .u32 b] 26)).alloc (.cells #[.int .u16 c, .int .u32 d] 26)).cell? ⟨w.heap.size + 1, 0, none⟩ = some (.int .u16 c) := by simp
  have k3 : ((w.alloc (.cells #[.int .u16 a, .int .u32 b] 26)).alloc (.cells #[.int .u16 c, .int .u32 d] 26)).cell? ⟨w.heap.size + 1, 1, none⟩ = some (.int .u32 d) := by simp
  go_enter Try.func195, Try.ntmps195
  go_wp2
  revert hB k0 k1 k2 k3
  generalize (w.alloc (.cells #[.int .u16 a, .int .u32 b] 26)).alloc (.cells #[.int .u16 c, .int .u32 d] 26) = wr
  intro hB k0 k1 k2 k3
  have f0 := cell_greww k0
  have f1 := cell_greww k1
  have f2 := cell_greww k2
  have f3 := cell_greww k3
  clear k0 k1 k2 k3
  have n1 : ∀ U : GrewW wr, Calls Try.prog 232 #[.agg #[.int .u16 a, .int .u32 b]] U.W fun e w' => e = .returned (.int .u64 (numOf (a, b))) ∧ ∃ U' : GrewW wr, w' = U'.W := fun U => grew_of (number_any a b U.W h1) rfl
  have n2 : ∀ U : GrewW wr, Calls Try.prog 232 #[.agg #[.int .u16 c, .int .u32 d]] U.W fun e w' => e = .returned (.int .u64 (numOf (c, d))) ∧ ∃ U' : GrewW wr, w' = U'.W := fun U => grew_of (number_any c d U.W h2) rfl
  have hs : ahead (a, b) (c, d) = decide (numOf (a, b) < numOf (c, d)) := rfl
  have HS := hid hs
  clear hs
  revert n1 n2 HS
  generalize numOf (a, b) = A
  generalize numOf (c, d) = B
  intro n1 n2 HS
  refine wp_region_grew (w := wr) (Grew.refl _) (by kernel_rfl) (by kernel_rfl) ?_
  repeat (go_big_quiet_step (first | (go_at_call_of 232 c; exact n2 _) | exact n1 _))
  refine wpQuiet_nil ?_
  rintro w9 ⟨⟨_, hb9⟩, rfl⟩
  go_wp2
  go_ret
  exact ⟨ret_bool HS.out.symm, hB.trans hb9⟩
theorem ahead_is {a b c d : Int} {w : World} {bm : Bool} (h : Hid (ahead (a, b) (c, d) = bm)) (h1 : ok (a, b)) (h2 : ok (c, d)) : Calls Try.prog 195 #[.agg #[.int .u16 a, .int .u32 b], .agg #[.int .u16 c, .int .u32 d]] w fun e w' => e = .returned (.bool bm) ∧ Grew w w' := by
  have := ahead_any a b c d w h1 h2
  rw [h.out] at this
  exact this
/-- the order of Sort -/
def cmpP (p q : Pid) : Int := if ahead p q = true then -1 else 1
set_option maxHeartbeats 400000 in
theorem cmp_any (a b c d : Int) (w : World) (h1 : ok (a, b)) (h2 : ok (c, d)) : Calls Try.prog 210 #[.agg #[.int .u16 a, .int .u32 b], .agg #[.int .u16 c, .int .u32 d]] w fun e w' => e = .returned (.int .i64 (cmpP (a, b) (c, d))) ∧ Grew w w' := by
  have hB : Grew w ((w.alloc (.cells #[.int .u16 a, .int .u32 b] 26)).alloc (.cells #[.int .u16 c, .int .u32 d] 26)) := ((Grew.refl _).alloc _).alloc _
  have hC : cmpP (a, b) (c, d) = if ahead (a, b) (c, d) = true then -1 else 1 := rfl
  cases h : ahead (a, b) (c, d)
  · rw [h] at hC
    have HC := hid hC
    have H := hid h
    clear h hC
    go_enter Try.func210, Try.ntmps210
    go_wp2_with (go_at_call 195; refine (ahead_is H h1 h2).mono ?_; rintro e w3 ⟨rfl, hb3⟩)
    go_ret
    exact ⟨ret_int HC.out.symm, hB.trans hb3⟩
  · rw [h] at hC
    have HC := hid hC
    have H := hid h
    clear h hC
    go_enter Try.func210, Try.ntmps210
    go_wp2_with (go_at_call 195; refine (ahead_is H h1 h2).mono ?_; rintro e w3 ⟨rfl, hb3⟩)
    go_ret
    exact ⟨ret_int HC.out.symm, hB.trans hb3⟩
end Go.Proofs.Ytbpfhclcjedkcaa

namespace Go.Proofs.Ytbpfhclcjedkcaa

/-! ## the plain law: view.Check answers as the document says -/
def keys {α β : Type} (L : List (α × β)) : List α := L.map (·.1)
theorem look_isSome {α β : Type} [DecidableEq α] {x : α} : ∀ {L : List (α × β)}, (look x L).isSome = true ↔ x ∈ keys L
  | [] => by simp [look, keys]
  | p :: l => by
    have ih := look_isSome (x := x) (L := l)
    have e : look x (p :: l) = if x = p.1 then some p.2 else look x l := rfl
    have ek : keys (p :: l) = p.1 :: keys l := rfl
    rw [e, ek, List.mem_cons, ← ih]
    by_cases h : x = p.1 <;> simp [h]
theorem ins_len {α β : Type} [DecidableEq α] {x : α} {v : β} : ∀ {L : List (α × β)}, x ∉ keys L → ins x v L = L ++ [(x, v)]
  | [], _ => rfl
  | p :: l, h => by
    simp only [keys, List.map_cons, List.mem_cons, not_or] at h
    simp only [ins, if_neg h.1, List.cons_append]
    rw [ins_len h.2]
theorem look_ins {α β : Type} [DecidableEq α] {x y : α} {v : β} : ∀ {L : List (α × β)}, look x (ins y v L) = if x = y then some v else look x L
  | [] => by simp [ins, look]
  | p :: l => by
    have ih := look_ins (x := x) (y := y) (v := v) (L := l)
    simp only [ins]
    by_cases h : y = p.1
    · simp only [if_pos h, look]
      by_cases hx : x = y
      · simp [hx]
      · have : ¬ x = p.1 := fun e => hx (e.trans h.symm)
        simp [hx, this]
    · simp only [if_neg h, look, ih]
      by_cases hx : x = p.1
      · have : ¬ x = y := fun e => h (e.symm.trans hx)
        simp [hx]
        intro e; exact absurd (e.symm) (by intro e2; exact h (by rw [← e2]))
      · simp [hx]

theorem add1_of_mem {p : Pid} {L : List (Pid × Unit)} (h : p ∈ keys L) : add1 p L = L := by unfold add1; rw [if_pos (look_isSome.2 h)]
theorem add1_of_not {p : Pid} {L : List (Pid × Unit)} (h : p ∉ keys L) : add1 p L = L ++ [(p, ())] := by
  unfold add1; rw [if_neg (fun e => h (look_isSome.1 e)), ins_len h]
theorem unionL_len : ∀ (xs : List Pid) (L : List (Pid × Unit)), (unionL L xs).length ≤ L.length + xs.length ∧ ((unionL L xs).length = L.length + xs.length ↔ xs.Nodup ∧ ∀ x ∈ xs, x ∉ keys L)
  | [], L => by simp [unionL]
  | p :: l, L => by
    simp only [unionL]
    by_cases h : p ∈ keys L
    · obtain ⟨h1, h2⟩ := unionL_len l L
      rw [add1_of_mem h]
      refine ⟨by simp only [List.length_cons]; omega, ?_⟩
      constructor
      · intro e; simp only [List.length_cons] at e; omega
      · rintro ⟨_, h3⟩; exact absurd h (h3 p (List.mem_cons_self ..))
    · obtain ⟨h1, h2⟩ := unionL_len l (L ++ [(p, ())])
      rw [add1_of_not h]
      simp only [List.length_append, List.length_cons, List.length_nil] at h1 h2 ⊢
      refine ⟨by omega, ?_⟩
      have e : (unionL (L ++ [(p, ())]) l).length = L.length + (l.length + 1) ↔ (unionL (L ++ [(p, ())]) l).length = L.length + (0 + 1) + l.length := by omega
      rw [e, h2, List.nodup_cons]
      have hk : keys (L ++ [(p, ())]) = keys L ++ [p] := by simp [keys]
      rw [hk]
      simp only [List.mem_append, List.mem_cons, List.not_mem_nil, or_false, not_or]
      constructor
      · rintro ⟨a, b⟩
        exact ⟨⟨fun hp => (b p hp).2 rfl, a⟩, fun x hx => by
          rcases hx with rfl | hx
          · exact h
          · exact (b x hx).1⟩
      · rintro ⟨⟨a, b⟩, c⟩
        exact ⟨b, fun x hx => ⟨c x (.inr hx), fun e => a (e ▸ hx)⟩⟩
theorem unionL_nodup {xs : List Pid} : (unionL [] xs).length = xs.length ↔ xs.Nodup := by
  have := (unionL_len xs []).2
  simpa [keys] using this

theorem memFrom_iff {n : Nat} : ∀ {xs : List Pid} {S : List (Int × Unit)}, memFrom n S xs = true ↔ (0 < n ∧ n ≤ 24) ∧ (∀ p ∈ xs, mayB p = true) ∧ xs.Pairwise (fun p q => p.1 ≠ q.1) ∧ ∀ p ∈ xs, p.1 ∉ keys S
  | [], S => by simp [memFrom]
  | p :: l, S => by
    simp only [memFrom]
    by_cases h : p.1 ∈ keys S
    · rw [if_pos (look_isSome.2 h)]
      simp only [Bool.false_eq_true, false_iff]
      rintro ⟨_, _, _, h4⟩
      exact h4 p (List.mem_cons_self ..) h
    · rw [if_neg (fun e => h (look_isSome.1 e))]
      by_cases hm : mayB p = true
      · rw [if_pos hm, memFrom_iff, ins_len h]
        have hk : keys (S ++ [(p.1, ())]) = keys S ++ [p.1] := by simp [keys]
        rw [hk]
        simp only [List.mem_append, List.mem_cons, List.not_mem_nil, or_false, not_or, List.pairwise_cons, forall_eq_or_imp]
        constructor
        · rintro ⟨a, b, c, d⟩
          exact ⟨a, ⟨hm, b⟩, ⟨fun q hq e => (d q hq).2 e.symm, c⟩, h, fun q hq => (d q hq).1⟩
        · rintro ⟨a, ⟨_, b⟩, ⟨c, d⟩, _, e⟩
          exact ⟨a, b, d, fun q hq => ⟨e q hq, fun e2 => c q hq e2.symm⟩⟩
      · rw [if_neg hm]
        simp only [Bool.false_eq_true, false_iff]
        rintro ⟨_, b, _⟩
        exact hm (b p (List.mem_cons_self ..))

/-- the heads of the leaves -/
def heads : List (List Pid) → List Pid
  | [] => []
  | l :: r => l.head?.toList ++ heads r
theorem chkFrom_iff {S : List (Pid × Int)} {K : List Pid → Nat → Bool} : ∀ {ls : List (List Pid)} {F : List Pid} {n : Nat}, chkFrom S K F n ls = true ↔ (∀ l ∈ ls, l ≠ [] ∧ risFrom S (-1) l = true) ∧ K (F ++ heads ls) (n + lens ls) = true
  | [], F, n => by simp [chkFrom, heads, lens]
  | l :: r, F, n => by
    cases l with
    | nil => simp [chkFrom]
    | cons p l =>
      simp only [chkFrom]
      by_cases h : risFrom S (-1) (p :: l) = true
      · rw [if_pos h, chkFrom_iff]
        have e1 : F ++ [p] ++ heads r = F ++ heads ((p :: l) :: r) := by simp [heads]
        have e2 : n + (p :: l).length + lens r = n + lens ((p :: l) :: r) := by simp [lens]; omega
        rw [e1, e2]
        simp [h]
      · rw [if_neg h]; simp [h]
/-- the rank of p, if it is a member -/
def rankO (ms : List Pid) (p : Pid) : Option Int := if atIx ms p < 0 then none else some (atIx ms p)
theorem look_ranks {p : Pid} : ∀ {xs : List Pid} {S : List (Pid × Int)} {k : Nat}, look p (ranksFrom S xs k) = match look p S with | some v => some v | none => if atFrom p xs k < 0 then none else some (atFrom p xs k)
  | [], S, k => by
    simp only [ranksFrom, atFrom]
    cases look p S <;> simp
  | q :: l, S, k => by
    simp only [ranksFrom, atFrom]
    by_cases h : (look q S).isSome = true
    · rw [if_pos h, look_ranks]
      cases hp : look p S with
      | some v => rfl
      | none =>
        have : ¬ q = p := fun e => by subst e; rw [hp] at h; simp at h
        simp only [if_neg this]
    · rw [if_neg h, look_ranks, look_ins]
      by_cases hpq : p = q
      · subst hpq
        have : look p S = none := by simpa using h
        simp only [if_true, this]
        rw [if_neg (by omega)]
      · have : ¬ q = p := fun e => hpq e.symm
        simp only [if_neg hpq, if_neg this]
theorem look_ranksL {ms : List Pid} {p : Pid} : look p (ranksL ms) = rankO ms p := by
  unfold ranksL rankO atIx
  rw [look_ranks]
  rfl
/-! ### lists without repeats -/
theorem nodup_of_ids {ms : List Pid} (h : ms.Pairwise (fun p q => p.1 ≠ q.1)) : ms.Nodup := h.imp fun hne e => hne (by rw [e])
theorem nodup_len {l : List Pid} : ∀ {m : List Pid}, l.Nodup → (∀ x ∈ l, x ∈ m) → l.length ≤ m.length := by
  induction l with
  | nil => intro m _ _; simp
  | cons p l ih =>
    intro m hn hs
    rw [List.nodup_cons] at hn
    have hp := hs p (List.mem_cons_self ..)
    have h := ih (m := m.erase p) hn.2 (fun x hx => by
      have hne : x ≠ p := fun e => hn.1 (e ▸ hx)
      exact (List.mem_erase_of_ne hne).2 (hs x (List.mem_cons_of_mem _ hx)))
    rw [List.length_erase_of_mem hp] at h
    have := List.length_pos_of_mem hp
    simp only [List.length_cons]
    omega
theorem count_sum {l : List Pid} : ∀ {m : List Pid}, m.Nodup → (∀ x ∈ l, x ∈ m) → l.length = (m.map fun p => l.count p).sum := by
  induction l with
  | nil =>
    intro m _ _
    have : ∀ m : List Pid, (m.map fun p => ([] : List Pid).count p).sum = 0 := by
      intro m; induction m with
      | nil => rfl
      | cons a m ih => simp only [List.map_cons, List.sum_cons, ih]; simp
    rw [this]; rfl
  | cons q l ih =>
    intro m hm hs
    have h := ih hm (fun x hx => hs x (List.mem_cons_of_mem _ hx))
    have hq := hs q (List.mem_cons_self ..)
    have key : ∀ m : List Pid, m.Nodup → (m.map fun p => (q :: l).count p).sum = (m.map fun p => l.count p).sum + (if q ∈ m then 1 else 0) := by
      intro m
      induction m with
      | nil => intro _; simp
      | cons a m ihm =>
        intro hn
        rw [List.nodup_cons] at hn
        rw [List.map_cons, List.sum_cons, ihm hn.2, List.map_cons, List.sum_cons, List.count_cons]
        by_cases hqa : q = a
        · subst hqa
          simp only [beq_self_eq_true, if_true, if_neg hn.1, List.mem_cons, true_or]
          omega
        · have hb : (q == a) = false := by simpa using hqa
          simp only [hb, List.mem_cons, hqa, false_or, Bool.false_eq_true, if_false]
          omega
    rw [key m hm, if_pos hq, List.length_cons, h]
theorem sum_one : ∀ {m : List Pid} {f : Pid → Nat}, (∀ p ∈ m, f p = 1) → (m.map f).sum = m.length
  | [], _, _ => rfl
  | a :: m, f, h => by
    simp only [List.map_cons, List.sum_cons, List.length_cons, sum_one (fun p hp => h p (List.mem_cons_of_mem _ hp)), h a (List.mem_cons_self ..)]
    omega
/-- each member is met once, just if the lists have no repeat and as many elements as there are members -/
theorem count_iff {ms fl : List Pid} (hm : ms.Nodup) (hs : ∀ x ∈ fl, x ∈ ms) : (∀ p ∈ ms, fl.count p = 1) ↔ fl.length = ms.length ∧ fl.Nodup := by
  constructor
  · intro h
    refine ⟨by rw [count_sum hm hs, sum_one h], ?_⟩
    rw [List.nodup_iff_count]
    intro a
    by_cases ha : a ∈ fl
    · rw [h a (hs a ha)]; exact Nat.le_refl _
    · rw [List.count_eq_zero.2 ha]; omega
  · rintro ⟨hl, hn⟩ p hp
    have h1 := List.nodup_iff_count.1 hn p
    by_cases h0 : fl.count p = 0
    · exfalso
      have hnot : p ∉ fl := List.count_eq_zero.1 h0
      have := nodup_len (l := p :: fl) (m := ms) (List.nodup_cons.2 ⟨hnot, hn⟩) (fun x hx => by
        rcases List.mem_cons.1 hx with rfl | hx
        · exact hp
        · exact hs x hx)
      simp only [List.length_cons] at this
      omega
    · omega

def WfPids (l : List Pid) : Prop := ∀ p ∈ l, 0 ≤ p.1 ∧ p.1 < 65536 ∧ 0 ≤ p.2 ∧ p.2 < 4294967296
theorem may_eq {p : Pid} (h : 0 ≤ p.2) : mayB p = mayR p := by
  unfold mayB mayR
  by_cases h0 : p.2 = 0
  · have : ¬ (0 < p.2) := by omega
    simp [h0]
  · have : 0 < p.2 := by omega
    simp [h0, this]

end Go.Proofs.Ytbpfhclcjedkcaa

namespace Go.Proofs.Ytbpfhclcjedkcaa
open Go.RowKit

theorem quiet_of {P : Program} {f : FuncId} {args : Array Value} {w0 : World} {U : ExtW w0} {v v' : Value} (h : Calls P f args U.W fun e w' => e = .returned v ∧ Below U.W.heap.size U.W w') (hv : v = v') :
    Calls P f args U.W fun e w' => e = .returned v' ∧ ∃ U' : ExtW w0, w' = U'.W := by
  subst hv
  exact h.mono fun _ _ ⟨h1, h2⟩ => ⟨h1, ⟨_, U.h.trans (h2.mono U.h.size)⟩, rfl⟩

section
variable (V : View) (am al ad : Option Addr) (cm cl cd : Nat) (x y : Int) (w : World)
end
/-! ### two quorums meet -/
theorem mem_unionL {p : Pid} : ∀ {xs : List Pid} {L : List (Pid × Unit)}, p ∈ keys (unionL L xs) ↔ p ∈ keys L ∨ p ∈ xs
  | [], L => by simp [unionL]
  | q :: l, L => by
    simp only [unionL]
    rw [mem_unionL]
    have : p ∈ keys (add1 q L) ↔ p ∈ keys L ∨ p = q := by
      by_cases h : q ∈ keys L
      · rw [add1_of_mem h]
        constructor
        · exact .inl
        · rintro (h1 | rfl)
          · exact h1
          · exact h
      · rw [add1_of_not h]; simp [keys]
    rw [this, List.mem_cons, or_assoc]
end Go.Proofs.Ytbpfhclcjedkcaa

namespace Go.Proofs.Ytbpfhclcjedkcaa
open Go.RowKit
open Go.Sort (grow grow_grow grow_empty alloc_eq_grow putRow putCells HoldsK Holds flatK SWO heap_grow_old mapBlock onCells)

abbrev WP : Type := { p : Pid // ok p }
instance : Inhabited WP := ⟨⟨(0, 0), by unfold ok; simp⟩⟩
def encW (x : WP) : List Value := [.int .u16 x.val.1, .int .u32 x.val.2]
def cmpW (x y : WP) : Int := cmpP x.val y.val
theorem ltW (x y : WP) : ltOf cmpW x y = ahead x.val y.val := by
  unfold ltOf cmpW cmpP
  cases ahead x.val y.val <;> simp
theorem swoW : SWO (ltOf cmpW) where
  irrefl x := by rw [ltW]; simp [ahead]
  trans x y z h1 h2 := by rw [ltW] at *; simp [ahead] at *; omega
  ntrans x y z h1 h2 := by rw [ltW] at *; simp [ahead] at *; omega
theorem numOf_inj {p q : Pid} (hp : ok p) (hq : ok q) (h : numOf p = numOf q) : p = q := by
  obtain ⟨a, b⟩ := p
  obtain ⟨c, d⟩ := q
  unfold numOf at h
  obtain ⟨h1, h2, h3, h4⟩ := hp
  obtain ⟨g1, g2, g3, g4⟩ := hq
  simp only at *
  have e1 : a = c := by omega
  have e2 : b = d := by omega
  rw [e1, e2]
theorem totW (x y : WP) (h1 : ltOf cmpW x y = false) (h2 : ltOf cmpW y x = false) : x = y := by
  rw [ltW] at h1 h2
  simp [ahead] at h1 h2
  exact Subtype.ext (numOf_inj x.2 y.2 (by omega))

theorem flat_cells (d : Array WP) : (flatK encW 2 d).toList = pidCells (d.toList.map (·.val)) := by
  apply List.ext_getElem?
  intro t
  by_cases ht : t < d.size * 2
  · have h1 : t / 2 < d.size := by omega
    have g := Sort.get_flatK encW 2 d t ht
    have hl : (flatK encW 2 d).toList[t]? = some (flatK encW 2 d)[t]! := by
      rw [getElem!_pos (flatK encW 2 d) t (by simpa using ht)]
      simp [ht]
    rw [hl, g]
    obtain ⟨c1, c2⟩ := pidCells_get (d.toList.map (·.val)) (t / 2) (by simpa using h1)
    have hd : d[t / 2]! = d[t / 2] := getElem!_pos d _ h1
    rcases Nat.mod_two_eq_zero_or_one t with hm | hm
    · rw [show t / 2 * 2 = t by omega] at c1
      rw [c1, hm, hd]; simp [encW]
    · rw [show t / 2 * 2 + 1 = t by omega] at c2
      rw [c2, hm, hd]; simp [encW]
  · rw [List.getElem?_eq_none (by simp; omega), List.getElem?_eq_none (by rw [pidCells_length]; simp; omega)]

theorem heap_put {w : World} {g n : Nat} {os : Array Obj} {cur : Array Value} {e : TypeId} {fr : Nat × Nat} (F : Array Value) (hb : w.heap[g]? = some (.cells cur e fr)) :
    (grow (putRow id (Sort.ahead w n) g 0 F) os).heap[g]? = some (.cells (putCells id 0 F cur) e fr) := by
  have hg : g < w.heap.size := (Array.getElem?_eq_some_iff.1 hb).1
  rw [heap_grow_old _ _ (by simpa using hg)]
  simp [putRow, mapBlock, Sort.ahead, Array.getElem?_modify, hb, onCells]
theorem grownBy_put {w : World} {g n : Nat} {os : Array Obj} (F : Array Value) : w.grownBy (grow (putRow id (Sort.ahead w n) g 0 F) os) (some g) := by
  refine ⟨rfl, rfl, rfl, by simp, fun k hk hne => ?_⟩
  rw [heap_grow_old _ _ (by simpa using hk)]
  have : g ≠ k := fun e => hne (by rw [e])
  simp [putRow, mapBlock, Sort.ahead, Array.getElem?_modify, this]
theorem take_put (cur F : Array Value) (h : F.size ≤ cur.size) : (putCells id 0 F cur).toList.take F.size = F.toList := by
  apply List.ext_getElem?
  intro j
  by_cases hj : j < F.size
  · rw [List.getElem?_take_of_lt hj, Array.getElem?_toList]
    simp [putCells, hj, show j < cur.size by omega]
  · rw [List.getElem?_take_eq_none (by omega), List.getElem?_eq_none (by simp; omega)]
theorem holds_put {w : World} {g : Nat} {cur F : Array Value} {e : TypeId} (hb : w.heap[g]? = some (.cells cur e (0, 0))) (ht : cur.toList.take F.size = F.toList) : Holds id w g 0 F := by
  intro j hj
  refine ⟨?_, by simp [World.frozen?, hb]⟩
  have h1 : (cur.toList.take F.size)[j]? = F.toList[j]? := by rw [ht]
  rw [List.getElem?_take_of_lt hj] at h1
  simp only [World.cell?, hb, Nat.zero_add, Option.isSome_none, Bool.false_eq_true, if_false]
  rw [← Array.getElem?_toList, h1]
  simp [hj]

/-- processes, sorted (each once, if they are so) -/
def sortL (ps : List Pid) : List Pid := ps.mergeSort fun x y => !(ahead y x)
theorem sortL_length (ps : List Pid) : (sortL ps).length = ps.length := List.length_mergeSort _
theorem cmpLays (blk off size : Nat) (w : World) : CmpLays Try.prog 210 #[] encW 2 cmpW blk off size w :=
  fun _ _ _ _ x y => cmp_any x.val.1 x.val.2 y.val.1 y.val.2 _ x.2 y.2
theorem sortFunc_own {w : World} {base : Nat} {v : Value} {ps : List Pid} (hown : OwnP w base v ps) (hok : ∀ p ∈ ps, ok p) (hn : ps.length < 4611686018427387904) :
    Calls Try.prog 209 #[v, .func (.func 210) #[] #[]] w fun e w' => e = .returned (.tuple #[]) ∧ OwnP w' base v (sortL ps) ∧ w.grownBy w' v.ownBlock := by
  have eg : ∀ args w, (callFunc 210 args).run Try.prog w = .ok (.enter 210 args) w := enters_of Try.func210 (by kernel_rfl) rfl
  rcases hown.2 with ⟨rfl, h0⟩ | ⟨g, cap, cur, rfl, hb, hg, hnc, hcm, hcs, htake⟩
  · have hp : ps = [] := List.length_eq_zero_iff.1 h0
    subst hp
    have hcon := AnyF.slices_SortFunc_none Try.sortPid none 0 (.func (.func 210) #[] #[]) w
    change Calls Try.prog 209 _ _ _ at hcon
    refine hcon.mono ?_
    rintro e w' ⟨rfl, rfl⟩
    exact ⟨rfl, by rw [show sortL [] = [] by simp [sortL]]; exact OwnP.nil _ _, ⟨rfl, rfl, rfl, Nat.le_refl _, fun _ _ _ => rfl⟩⟩
  · obtain ⟨d, hd, hds⟩ : ∃ d : Array WP, d.toList.map (·.val) = ps ∧ d.size = ps.length := by
      refine ⟨(ps.pmap Subtype.mk hok).toArray, ?_, by simp⟩
      simp [List.map_pmap]
    have hF : (flatK encW 2 d).toList = pidCells ps := by rw [flat_cells, hd]
    have hFs : (flatK encW 2 d).size = ps.length * 2 := by simp [hds]
    have hH : HoldsK encW 2 w g 0 d := holds_put hg (by rw [hFs, hF]; exact htake)
    have hlt : g < w.heap.size := (Array.getElem?_eq_some_iff.1 hg).1
    have hcon := AnyQ.slices_SortFunc_total Try.sortPid 2 Try.isAgg26 Try.sizeOf26 encW (fun _ => rfl) (fun x v hv => by simp [encW] at hv; rcases hv with rfl | rfl <;> rfl) cmpW swoW 210 #[] g 0 cap d w eg (cmpLays g 0 d.size w) hH hlt (by rw [hds]; exact hn) totW
    change Calls Try.prog 209 _ _ _ at hcon
    rw [hds] at hcon
    refine hcon.mono ?_
    rintro e w' ⟨rfl, n, os, rfl⟩
    obtain ⟨d', hd'⟩ : ∃ d' : Array WP, d' = (d.toList.mergeSort fun x y => !(ltOf cmpW) y x).toArray := ⟨_, rfl⟩
    rw [← hd']
    have hs' : d'.toList.map (·.val) = sortL ps := by
      rw [hd', ← hd]
      unfold sortL
      rw [List.map_mergeSort]
      intro a _ b _
      rw [ltW]
    have hsz : d'.size = ps.length := by rw [hd']; simp [List.length_mergeSort, hds]
    have hF' : (flatK encW 2 d').toList = pidCells (sortL ps) := by rw [flat_cells, hs']
    have hFs' : (flatK encW 2 d').size = ps.length * 2 := by simp [hsz]
    refine ⟨rfl, ⟨by rw [pidCells_length], .inr ⟨g, cap, putCells id 0 (flatK encW 2 d') cur, by rw [sortL_length], hb, heap_put _ hg, by rw [sortL_length]; exact hnc, hcm, by simp [putCells, hcs], ?_⟩⟩, grownBy_put _⟩
    rw [sortL_length, ← hFs', take_put _ _ (by rw [hFs', hcs]; exact Nat.mul_le_mul_right _ hnc), hF']

theorem OwnP.but {w w' : World} {base r : Nat} {v : Value} {xs : List Pid} (h : OwnP w base v xs) (hb : But r w w') {α β : Type} {ke : α → Value} {ve : β → Value} {L : List (α × β)} (hM : MapIs w r ke ve L) : OwnP w' base v xs := by
  refine ⟨h.1, ?_⟩
  obtain ⟨es, cl, hm, _⟩ := hM
  rcases h.2 with hn | ⟨g, cap, cur, rfl, hbb, hgg, rest⟩
  · exact .inl hn
  · exact .inr ⟨g, cap, cur, rfl, hbb, (hb.block g (fun e => by rw [e, hm] at hgg; cases hgg)).trans hgg, rest⟩
theorem OwnP.alloc {w : World} {base : Nat} {v : Value} {xs : List Pid} (h : OwnP w base v xs) (o : Obj) : OwnP (w.alloc o) base v xs := h.ext ((Below.refl _ _).alloc (Nat.le_refl _) _)
theorem OwnP.ne_map {w : World} {base : Nat} {v : Value} {xs : List Pid} (h : OwnP w base v xs) {r : Nat} {es : Array MapEntry} {cl : Nat} (hm : w.heap[r]? = some (.map es cl)) : some r ≠ v.ownBlock := by
  rcases h.2 with ⟨rfl, _⟩ | ⟨g, cap, cur, rfl, hbb, hgg, rest⟩
  · simp [Value.ownBlock]
  · simp only [Value.ownBlock, ne_eq, Option.some.injEq]
    intro e; subst e; rw [hm] at hgg; cases hgg
theorem MapIs.grown {w w' : World} {r : Nat} {α β : Type} [DecidableEq α] {ke : α → Value} {ve : β → Value} {L : List (α × β)} (hM : MapIs w r ke ve L) {base : Nat} {v : Value} {xs : List Pid} (h : OwnP w base v xs) (hg : w.grownBy w' v.ownBlock) : MapIs w' r ke ve L := by
  refine hM.same (hg.block r hM.lt ?_)
  obtain ⟨es, cl, hm, _⟩ := hM
  exact h.ne_map hm

/-- some processes, each once, in their first places' order -/
def dedup (xs : List Pid) : List Pid := keys (unionL [] xs)
/-- Sort -/
def sortP (xs : List Pid) : List Pid := sortL (dedup xs)
theorem keys_add1_no {p : Pid} {L : List (Pid × Unit)} (h : (look p L).isSome = false) : keys (add1 p L) = keys L ++ [p] := by
  have : p ∉ keys L := by rw [← look_isSome, h]; simp
  rw [add1_of_not this]; simp [keys]

set_option maxRecDepth 100000 in
set_option maxHeartbeats 1600000 in
theorem sort_any (a : Option Addr) (c : Nat) (xs : List Pid) (w : World) (hn : xs.length ≤ 549755813888) (hrow : PidRow w a xs) (hok : ∀ p ∈ xs, ok p) :
   Calls Try.prog 160 #[.slice a xs.length c] w fun e w' => ∃ v, e = .returned v ∧ OwnP w' w.heap.size v (sortP xs) ∧ Below w.heap.size w w' := by
  have hmm := @run_makeMap Try.prog
  go_enter Try.func160, Try.ntmps160
  go_wp2
  go_loopw [4, 12] (fun v i wr => ∃ (k : Nat) (Lk : List (Pid × Unit)), k ≤ xs.length ∧ i = .int .i64 k ∧ Hid (unionL [] xs = unionL Lk (xs.drop k)) ∧ (keys Lk).length ≤ k ∧ (∀ p ∈ keys Lk, ok p) ∧ Below w.heap.size w wr ∧ MapIs wr w.heap.size pidV eU Lk ∧ OwnP wr w.heap.size v (keys Lk)) (fun _ i _ => xs.length - (intOf i).toNat)
  case atStart => exact ⟨0, [], Nat.zero_le _, rfl, rfl, Nat.le_refl _, by simp [keys], (Below.refl _ _).alloc (Nat.le_refl _) _, MapIs.made _, OwnP.nil _ _⟩
  case round =>
    obtain ⟨k, Lk, hk, rfl, hL, hlk, hokk, hb, hM, hown⟩ := hrel
    have hs0 := hb.size
    have hs1 := hM.lt
    by_cases hlt : k < xs.length
    · obtain ⟨b, off, x, y, rfl, hx, d1, d2⟩ := hrow.at hb rfl hlt
      have hL1 := unionL_drop (L := Lk) hlt hx
      have hxok : ok (x, y) := by rw [hx]; exact hok _ (List.getElem_mem _)
      have HL1 := hid hL1
      have HOK := hid hxok
      have HOKK := hid hokk
      clear hx hrow hL1 hxok hokk
      have hB1 : Below w.heap.size w (wr.alloc (.cells #[.int .u16 x, .int .u32 y] 26)) := hb.alloc hb.size _
      have hB2 : Below w.heap.size w ((wr.alloc (.cells #[.int .u16 x, .int .u32 y] 26)).alloc (.cells #[] 222)) := hB1.alloc hB1.size _
      have hs2 := hB2.size
      cases hs : (look (x, y) Lk).isSome
      · have HS := hid hs
        clear hs
        go_wp2_with (first
          | (at_lookup; refine wpList_lookup_is keyPid Try.underlying225 (.agg #[]) zero106 (hM.alloc _) (x, y) _ (look_unit _ _) HS rfl rfl rfl rfl ?_)
          | (at_mapUpdate; refine wpList_mapUpdate_is keyPid Try.underlying225 ((hM.alloc _).alloc _) (x, y) () rfl rfl rfl rfl rfl ?_; intro w2 hM2 hbut; have c0 : w2.cell? ⟨wr.heap.size, 0, none⟩ = some (.int .u16 x) := (hbut.cell (by simp; omega)).trans (by simp); have c1 : w2.cell? ⟨wr.heap.size, 1, none⟩ = some (.int .u32 y) := (hbut.cell (by simp; omega)).trans (by simp))
          | (at_builtin; go_loud (refine wpList_appendP (((hown.alloc _).alloc _).but hbut ((hM.alloc _).alloc _) |>.alloc _) (PidRow.one _ x y) ?cb ?cz rfl rfl rfl rfl ?_); rotate_right; intro v4 w4 hown4 hg4 hnil4))
        case cb => simp; omega
        case cz => have := hbut.size; simp at this; simp; omega
        have hsz2 := hbut.size
        simp at hsz2
        have hown2 : OwnP w2 w.heap.size u4 (keys Lk) := ((hown.alloc _).alloc _).but hbut ((hM.alloc _).alloc _)
        have hB4 : Below w.heap.size w w4 := ((hB2.trans (hbut.below (Nat.le_refl _))).alloc (by omega) _).grown hg4 (by simp; omega) (fun g hg => (World.ownsRow.lt hown g hg).1)
        have hM4 : MapIs w4 w.heap.size pidV eU (ins (x, y) () Lk) := (hM2.alloc _).grown (hown2.alloc _) hg4
        have hA : add1 (x, y) Lk = ins (x, y) () Lk := by unfold add1; rw [HS.out]; rfl
        have hK := keys_add1_no HS.out
        have HA := hid hA
        have HK := hid hK
        clear hA hK
        go_roundw
        case rel =>
          refine ⟨k + 1, ins (x, y) () Lk, by omega, by go_num, hL.out.trans (by rw [HL1.out, HA.out]), ?_, ?_, hB4, hM4, ?_⟩
          · rw [← HA.out, HK.out]; simp; omega
          · rw [← HA.out, HK.out]
            intro p hp
            rcases List.mem_append.1 hp with hp | hp
            · exact HOKK.out p hp
            · rw [List.mem_singleton.1 hp]; exact HOK.out
          · rw [← HA.out, HK.out]; exact hown4
        case measure => simp [intOf]; omega
      · have HS := hid hs
        clear hs
        go_wp2_with (first
          | (at_lookup; refine wpList_lookup_is keyPid Try.underlying225 (.agg #[]) zero106 (hM.alloc _) (x, y) _ (look_unit _ _) HS rfl rfl rfl rfl ?_))
        go_roundw
        case rel => exact ⟨k + 1, Lk, by omega, by go_num, hL.out.trans (by rw [HL1.out]; unfold add1; rw [HS.out]; rfl), by omega, HOKK.out, hB2, (hM.alloc _).alloc _, (hown.alloc _).alloc _⟩
        case measure => simp [intOf]; omega
    · have hkk : Hid (keys Lk = dedup xs) := by
        have := hL.out
        rw [List.drop_eq_nil_of_le (by omega)] at this
        unfold dedup
        rw [this]; rfl
      have hS := sortFunc_own hown hokk (by omega)
      have HS := hid hS
      clear hS
      go_wp2_with (go_at_call 209; refine HS.out.mono ?_; rintro e w3 ⟨rfl, hown3, hg3⟩)
      go_ret
      exact ⟨_, rfl, by unfold sortP; rw [← hkk.out]; exact hown3, hb.grown hg3 hb.size (fun g hg => (World.ownsRow.lt hown g hg).1)⟩
end Go.Proofs.Ytbpfhclcjedkcaa

namespace Go.Proofs.Ytbpfhclcjedkcaa
open Go.RowKit
open Go.ChangeMaps (setBlock)

/-- 'range' over the map in block r under way, its iterator in block t: L all, left what is still to come -/
def RangeIs {α β : Type} (w : World) (r t : Nat) (ke : α → Value) (ve : β → Value) (L left : List (α × β)) : Prop :=
  ∃ es clock since seen, w.heap[r]? = some (.map es clock) ∧ es.toList.map (fun e => (e.key, e.val)) = L.map (fun p => (ke p.1, ve p.2)) ∧ bornOk es clock ∧
    w.heap[t]? = some (.mapIter (some r) since seen clock) ∧ (∀ x ∈ es.toList, x.born < since) ∧ since ≤ clock ∧
    (es.toList.filter fun e => !seen.contains e.born).map (fun e => (e.key, e.val)) = left.map (fun p => (ke p.1, ve p.2))

section
set_option linter.unusedSectionVars false
variable {α β : Type} [DecidableEq α] {ke : α → Value} {ve : β → Value} {P : Program} {K : TypeId} {w : World} {r t : Nat} {L left : List (α × β)}

theorem RangeIs.map (h : RangeIs w r t ke ve L left) : MapIs w r ke ve L := by
  obtain ⟨es, clock, since, seen, h1, h2, h3, _⟩ := h
  exact ⟨es, clock, h1, h2, h3⟩
theorem RangeIs.lt (h : RangeIs w r t ke ve L left) : t < w.heap.size := by
  obtain ⟨es, clock, since, seen, _, _, _, h1, _⟩ := h
  exact (Array.getElem?_eq_some_iff.1 h1).1
theorem RangeIs.ne (h : RangeIs w r t ke ve L left) : t ≠ r := by
  obtain ⟨es, clock, since, seen, h0, _, _, h1, _⟩ := h
  intro e; subst e; rw [h0] at h1; cases h1
theorem RangeIs.same {w' : World} (h : RangeIs w r t ke ve L left) (h1 : w'.heap[r]? = w.heap[r]?) (h2 : w'.heap[t]? = w.heap[t]?) : RangeIs w' r t ke ve L left := by
  obtain ⟨es, clock, since, seen, a1, a2, a3, a4, a5⟩ := h
  exact ⟨es, clock, since, seen, h1.trans a1, a2, a3, h2.trans a4, a5⟩
theorem RangeIs.mut {F : Nat → Prop} {w' : World} (h : RangeIs w r t ke ve L left) (hm : Mut F w w') (hr : ¬ F r) (ht : ¬ F t) : RangeIs w' r t ke ve L left :=
  h.same (hm.block r h.map.lt hr) (hm.block t h.lt ht)
theorem RangeIs.ext {w' : World} (h : RangeIs w r t ke ve L left) (hb : Below w.heap.size w w') : RangeIs w' r t ke ve L left :=
  h.same (hb.block _ h.map.lt) (hb.block _ h.lt)

theorem MapIs.range (h : MapIs w r ke ve L) {ty K e : TypeId} (ht : P.underlying ty = some (.map K e)) :
    ∃ w', (Instr.range ty (.map (some r))).run P w = .ok (.pointer (some ⟨w.heap.size, 0, none⟩)) w' ∧ RangeIs w' r w.heap.size ke ve L L ∧ Below w.heap.size w w' := by
  have hlt := h.lt
  obtain ⟨es, clock, hb, he, hbn⟩ := h
  refine ⟨_, run_range_map w ty K e r es clock ht hb, ⟨es, clock, clock, #[], ((MapKept.heap_alloc w _).2 r hlt).trans hb, he, hbn, (MapKept.heap_alloc w _).1, hbn.2, Nat.le_refl _, ?_⟩, (Below.refl _ _).alloc (Nat.le_refl _) _⟩
  rw [List.filter_eq_self.2 (by simp)]; exact he

theorem filter_push (seen : Array Nat) (es : List MapEntry) (b : Nat) : (es.filter fun e => !(seen.push b).contains e.born) = (es.filter fun e => !seen.contains e.born).filter fun e => e.born != b := by
  rw [List.filter_filter]
  congr 1
  funext e
  by_cases hb : e.born = b <;> simp [Array.contains_push, bne, hb]
theorem filter_split {s u : List MapEntry} {e : MapEntry} (hn : ((s ++ e :: u).map (·.born)).Nodup) : (s ++ e :: u).filter (fun x => x.born != e.born) = s ++ u := by
  rw [List.map_append, List.map_cons, List.nodup_append] at hn
  obtain ⟨_, h2, h3⟩ := hn
  rw [List.nodup_cons] at h2
  have hs : s.filter (fun x => x.born != e.born) = s := List.filter_eq_self.2 fun x hx => by
    have := h3 x.born (List.mem_map_of_mem hx) e.born (by simp)
    simpa using this
  have hu : u.filter (fun x => x.born != e.born) = u := List.filter_eq_self.2 fun x hx => by
    have : x.born ≠ e.born := fun hq => h2.1 (hq ▸ List.mem_map_of_mem hx)
    simpa using this
  rw [List.filter_append, List.filter_cons, hs, hu]
  simp

/-- the step -/
theorem RangeIs.next (h : RangeIs w r t ke ve L left) (ty : TypeId) :
    (left = [] ∧ (Instr.next (.pointer (some ⟨t, 0, none⟩)) false ty).run P w = .ok (.tuple #[.bool false]) w) ∨
    ∃ (p : α × β) (s u : List (α × β)) (w' : World), left = s ++ p :: u ∧ (Instr.next (.pointer (some ⟨t, 0, none⟩)) false ty).run P w = .ok (.tuple #[.bool true, ke p.1, ve p.2]) w' ∧
      RangeIs w' r t ke ve L (s ++ u) ∧ But t w w' ∧ (Instr.entry (.pointer (some ⟨t, 0, none⟩))).run P w' = .ok (.tuple #[ke p.1, ve p.2]) w' := by
  have hne := h.ne
  obtain ⟨es, clock, since, seen, h1, h2, h3, h4, h5, h6, h7⟩ := h
  rcases run_next_at (P := P) w ty t r since clock seen es clock h4 h1 h5 h6 with ⟨h0, hrun⟩ | ⟨e, he, w1, hal, hrun⟩
  · refine .inl ⟨?_, hrun⟩
    have : (leftOf es seen).toList = [] := by rw [← Array.length_toList] at h0; exact List.length_eq_zero_iff.1 h0
    unfold leftOf at this
    rw [Array.toList_filter] at this
    rw [this] at h7
    exact List.map_eq_nil_iff.1 h7.symm
  · right
    unfold leftOf at he
    rw [Array.toList_filter] at he
    obtain ⟨s, u, hsu⟩ := List.append_of_mem he
    have hes : e ∈ es.toList := (List.mem_filter.1 he).1
    rw [hsu] at h7
    rw [List.map_append, List.map_cons] at h7
    obtain ⟨s', q', hl, hs', hq'⟩ := List.map_eq_append_iff.1 h7.symm
    obtain ⟨p, u', rfl, hp, hu'⟩ := List.map_eq_cons_iff.1 hq'
    have hk : e.key = ke p.1 := (congrArg Prod.fst hp).symm
    have hv : e.val = ve p.2 := (congrArg Prod.snd hp).symm
    rw [hk, hv] at hrun
    have hw1 : But t w w1 ∧ w1.heap = w.heap := by rcases hal with rfl | rfl <;> exact ⟨⟨rfl, rfl, rfl, rfl, fun _ _ => rfl⟩, rfl⟩
    have htlt : t < w1.heap.size := by rw [hw1.2]; exact (Array.getElem?_eq_some_iff.1 h4).1
    have hset : (setBlock w1 t (.mapIter (some r) since (seen.push e.born) clock)).heap[t]? = some (.mapIter (some r) since (seen.push e.born) clock) := by
      simp [setBlock, htlt]
    have hrr : (setBlock w1 t (.mapIter (some r) since (seen.push e.born) clock)).heap[r]? = some (.map es clock) := by
      rw [show (setBlock w1 t (.mapIter (some r) since (seen.push e.born) clock)).heap[r]? = w1.heap[r]? by simp [setBlock, hne], hw1.2, h1]
    refine ⟨p, s', u', _, hl, hrun, ⟨es, clock, since, seen.push e.born, hrr, h2, h3, hset, h5, h6, ?_⟩, ?_, ?_⟩
    · rw [filter_push, hsu, filter_split, List.map_append, List.map_append, hs', hu']
      have hn := h3.1
      exact List.Nodup.sublist (List.Sublist.map _ (by rw [← hsu]; exact List.filter_sublist)) hn
    · refine ⟨hw1.1.os, hw1.1.tape, hw1.1.output, by simp [setBlock, hw1.2], fun k hk => ?_⟩
      rw [show (setBlock w1 t (.mapIter (some r) since (seen.push e.born) clock)).heap[k]? = w1.heap[k]? by simp [setBlock, Ne.symm hk], hw1.2]
    · rw [← hk, ← hv]
      exact run_entry_at _ t r since seen es clock e hset hrr hes h3.1

theorem filter_modify {p : MapEntry → Bool} {f : MapEntry → MapEntry} : ∀ (l : List MapEntry) (j : Nat), (∀ x, l[j]? = some x → p x = false ∧ p (f x) = false) → (l.modify j f).filter p = l.filter p
  | [], j, _ => by simp
  | x :: l, 0, h => by
    obtain ⟨h1, h2⟩ := h x rfl
    simp [List.modify_zero_cons, List.filter_cons, h1, h2]
  | x :: l, j + 1, h => by
    rw [List.modify_succ_cons, List.filter_cons, List.filter_cons, filter_modify l j (fun y hy => h y (by simpa using hy))]

/-- a store at a key that is there and has been met -/
theorem RangeIs.update (h : RangeIs w r t ke ve L left) (kk : KeyOk P K ke) (hinj : ∀ x y, ke x = ke y → x = y) {ty e : TypeId} (ht : P.underlying ty = some (.map K e)) (x : α) (v : β) (hx : (look x L).isSome = true) (hl : ∀ p ∈ left, p.1 ≠ x) :
    ∃ w', (Instr.mapUpdate ty (.map (some r)) (ke x) (ve v)).run P w = .ok () w' ∧ RangeIs w' r t ke ve (ins x v L) left ∧ But r w w' := by
  have hne := h.ne
  obtain ⟨es, clock, since, seen, h1, h2, h3, h4, h5, h6, h7⟩ := h
  have hf := find_run (w := w) kk h2 x
  have hlk := lookI_look x L 0
  cases hq : lookI x L 0 with
  | none => rw [hq] at hlk; rw [← hlk] at hx; simp at hx
  | some q =>
    obtain ⟨j, u⟩ := q
    have hlt := lookI_lt hq
    obtain ⟨_, _, ⟨u', hu'⟩, hins⟩ := lookI_some hq
    simp only [Nat.sub_zero] at hu' hins hlt
    rw [hq] at hf
    have hj : ∃ e0, es[j]? = some e0 ∧ e0.key = ke x := by
      have : (es.toList.map (fun e => (e.key, e.val)))[j]? = some (ke x, ve u') := by rw [h2, List.getElem?_map, hu']; rfl
      rw [List.getElem?_map] at this
      cases hej : es.toList[j]? with
      | none => rw [hej] at this; simp at this
      | some e0 =>
        rw [hej] at this
        simp at this
        exact ⟨e0, by simpa using hej, this.1⟩
    obtain ⟨e0, hej, hek⟩ := hj
    obtain ⟨w', hrun, hM, hbut⟩ := MapIs.update (L := L) ⟨es, clock, h1, h2, h3⟩ kk ht x v
    have hw' : w' = { w with heap := w.heap.setIfInBounds r (.map (es.modify j fun e => { e with key := ke x, val := ve v }) clock) } := by
      have : (Instr.mapUpdate ty (.map (some r)) (ke x) (ve v)).run P w = .ok () { w with heap := w.heap.setIfInBounds r (.map (es.modify j fun e => { e with key := ke x, val := ve v }) clock) } := by
        simp [Instr.mapUpdate, run_underlying ht, MapKept.run_getObj_map h1, kk.check, hf, hej, hek, Instr.keyThatStays, kk.same, MapKept.run_setObj_map _ h1, Result.andThen]
      rw [this] at hrun
      cases hrun
      rfl
    refine ⟨w', hrun, ?_, hbut⟩
    have hmem : e0 ∈ es.toList := by
      have : es.toList[j]? = some e0 := by simpa using hej
      exact List.mem_of_getElem? this
    have hseen : seen.contains e0.born = true := by
      cases hc : seen.contains e0.born
      · exfalso
        have : (e0.key, e0.val) ∈ left.map (fun p => (ke p.1, ve p.2)) := by
          rw [← h7]
          exact List.mem_map_of_mem (f := fun e : MapEntry => (e.key, e.val)) (List.mem_filter.2 ⟨hmem, by rw [hc]; rfl⟩)
        obtain ⟨p, hp, hpe⟩ := List.mem_map.1 this
        exact hl p hp (hinj _ _ ((congrArg Prod.fst hpe).trans hek))
      · rfl
    have hrlt : r < w.heap.size := (Array.getElem?_eq_some_iff.1 h1).1
    obtain ⟨es', clock', g1, g2, g3⟩ := hM
    have hes : es' = (es.modify j fun e => { e with key := ke x, val := ve v }) ∧ clock' = clock := by
      rw [hw'] at g1
      simp [hrlt] at g1
      exact ⟨g1.1.symm, g1.2.symm⟩
    obtain ⟨rfl, rfl⟩ := hes
    refine ⟨_, _, since, seen, g1, g2, g3, (hbut.block t hne).trans h4, ?_, h6, ?_⟩
    · intro y hy
      simp only [Array.toList_modify] at hy
      obtain ⟨i, hi⟩ := List.mem_iff_getElem?.1 hy
      rw [List.getElem?_modify] at hi
      cases hyi : es.toList[i]? with
      | none => rw [hyi] at hi; simp at hi
      | some z =>
        rw [hyi] at hi
        have hz := h5 z (List.mem_of_getElem? hyi)
        have : y.born = z.born := by
          simp at hi
          rw [← hi]
          split <;> rfl
        rw [this]; exact hz
    · rw [Array.toList_modify, filter_modify, h7]
      intro y hy
      have : y = e0 := by
        have h8 : es.toList[j]? = some e0 := by simpa using hej
        rw [hy] at h8; exact Option.some.inj h8
      subst this
      exact ⟨by simp only [hseen]; rfl, by simp only [hseen]; rfl⟩
end

section
variable {α β : Type} [DecidableEq α] {ke : α → Value} {ve : β → Value} {P : Program} {w : World} {ops : Array Oper} {rest : List Oper} {o : Oper} {a : Act} {Q : Exit → Act → World → Prop} {r t : Nat} {L left : List (α × β)}
theorem wpList_range_is (hM : MapIs w r ke ve L) {ty K e : TypeId} (ht : P.underlying ty = some (.map K e)) {m : Operand} (hg : o.guard = none) (hop : o.op = Op.range ty m) (hm : a.eval m = .map (some r))
    (hK : ∀ w', RangeIs w' r w.heap.size ke ve L L → Below w.heap.size w w' → wpList P ops Q rest (a.put o.dst (.pointer (some ⟨w.heap.size, 0, none⟩))) w') : wpList P ops Q (o :: rest) a w := by
  refine wpList_plain hg fun K' hK' => ?_
  obtain ⟨w', hrun, r1, r2⟩ := hM.range ht
  unfold Oper.wp
  simp [execOp, hop, hm, hrun, Result.andThen]
  exact hK' _ _ (hK w' r1 r2)
theorem wpList_next_is (h : RangeIs w r t ke ve L left) {it : Operand} (hg : o.guard = none) (hop : o.op = Op.next it false) (hit : a.eval it = .pointer (some ⟨t, 0, none⟩))
    (hDone : Hid (left = []) → wpList P ops Q rest (a.put o.dst (.tuple #[.bool false])) w)
    (hMore : ∀ (p : α × β) (s u : List (α × β)) (w' : World), Hid (left = s ++ p :: u) → RangeIs w' r t ke ve L (s ++ u) → But t w w' → (Instr.entry (.pointer (some ⟨t, 0, none⟩))).run P w' = .ok (.tuple #[ke p.1, ve p.2]) w' →
      wpList P ops Q rest (a.put o.dst (.tuple #[.bool true, ke p.1, ve p.2])) w') : wpList P ops Q (o :: rest) a w := by
  refine wpList_plain hg fun K' hK' => ?_
  unfold Oper.wp
  rcases h.next (P := P) o.type with ⟨hl, hrun⟩ | ⟨p, s, u, w', hl, hrun, hR, hB, hE⟩
  · simp [execOp, hop, hit, hrun, Result.andThen]
    exact hK' _ _ (hDone hl)
  · simp [execOp, hop, hit, hrun, Result.andThen]
    exact hK' _ _ (hMore p s u w' hl hR hB hE)
end
end Go.Proofs.Ytbpfhclcjedkcaa

namespace Go.Proofs.Ytbpfhclcjedkcaa
open Go.RowKit

/-! ### slices.Equal, EqualFunc, the references' Same: lists are the same -/
def eqFrom : List Pid → List Pid → Bool
  | [], _ => true
  | _ :: _, [] => true
  | x :: l, y :: r => if x = y then eqFrom l r else false
theorem eqFrom_drop {xs ys : List Pid} {k : Nat} (h : k < xs.length) (h' : k < ys.length) {p q : Pid} (hp : p = xs[k]) (hq : q = ys[k]) : eqFrom (xs.drop k) (ys.drop k) = if p = q then eqFrom (xs.drop (k + 1)) (ys.drop (k + 1)) else false := by
  rw [List.drop_eq_getElem_cons h, List.drop_eq_getElem_cons h', ← hp, ← hq]; rfl
theorem eqFrom_iff : ∀ {xs ys : List Pid}, xs.length = ys.length → (eqFrom xs ys = true ↔ xs = ys)
  | [], [], _ => by simp [eqFrom]
  | x :: l, y :: r, h => by
    have ih := eqFrom_iff (xs := l) (ys := r) (by simpa using h)
    simp only [eqFrom]
    by_cases hxy : x = y
    · rw [if_pos hxy, ih]; simp [hxy]
    · rw [if_neg hxy]; simp [hxy]
  | [], y :: r, h => by simp at h
  | x :: l, [], h => by simp at h
theorem eqFrom_eq {xs ys : List Pid} (h : xs.length = ys.length) : decide (xs = ys) = eqFrom xs ys := by
  rw [Bool.eq_iff_iff, eqFrom_iff h]; simp

set_option maxRecDepth 100000 in
set_option maxHeartbeats 800000 in
theorem sameR_any (a b : Option Addr) (ca cb : Nat) (xs ys : List Pid) (w : World) (hn : xs.length ≤ 70368744177664) (_hm : ys.length ≤ 70368744177664) (hx : PidRow w a xs) (hy : PidRow w b ys) :
   Calls Try.prog 66 #[.slice a xs.length ca, .slice b ys.length cb] w fun e w' => e = .returned (.bool (decide (xs = ys))) ∧ Below w.heap.size w w' := by
  by_cases hl : xs.length = ys.length
  · have hsp := eqFrom_eq hl
    have hl' : ((xs.length : Int) != (ys.length : Int)) = false := by rw [hl]; simp
    have HL := hid hl
    have HSP := hid hsp
    clear hl hsp
    go_enter Try.func66, Try.ntmps66
    go_wp2
    go_loopw [4, 5] (fun rs kv wr => rs = .bool false ∧ ∃ k : Nat, k ≤ xs.length ∧ kv = .int .i64 k ∧ Hid (decide (xs = ys) = eqFrom (xs.drop k) (ys.drop k)) ∧ Below w.heap.size w wr) (fun _ kv _ => xs.length - (intOf kv).toNat)
    case atStart => exact ⟨rfl, 0, Nat.zero_le _, rfl, HSP, Below.refl _ _⟩
    case round =>
      obtain ⟨rfl, k, hk, rfl, ha, hb⟩ := hrel
      by_cases hkt : k < xs.length
      · have hkt' : k < ys.length := by have := HL.out; omega
        obtain ⟨b1, o1, x1, y1, rfl, hx1, q0, q1⟩ := hx.at hb rfl hkt
        obtain ⟨b2, o2, x2, y2, rfl, hx2, q2, q3⟩ := hy.at hb rfl hkt'
        have hd := eqFrom_drop hkt hkt' hx1 hx2
        have HD := hid hd
        clear hd hx1 hx2
        have he := fun w => neq_pid x1 y1 x2 y2 w
        by_cases hxy : (x1, y1) = (x2, y2)
        · have hxy1 : decide ((x1, y1) = (x2, y2)) = true := by simpa using hxy
          rw [hxy1] at he
          have HXY := hid hxy
          clear hxy hxy1
          go_wp2
          go_quiet (fail)
          go_wp2
          go_roundw
          case rel => exact ⟨rfl, k + 1, by omega, by go_num, (ha.out.trans (by rw [HD.out, if_pos HXY.out]) : _), below_drewN hb _⟩
          case measure => simp [intOf]; omega
        · have hxy1 : decide ((x1, y1) = (x2, y2)) = false := by simpa using hxy
          rw [hxy1] at he
          have HXY : Hid (¬ (x1, y1) = (x2, y2)) := hxy
          clear hxy hxy1
          go_wp2
          go_quiet (fail)
          go_wp2
          go_ret
          exact ⟨ret_bool (by rw [ha.out, HD.out, if_neg HXY.out]), below_drewN hb _⟩
      · go_wp2
        go_ret
        exact ⟨ret_bool (by rw [ha.out, List.drop_eq_nil_of_le (by omega)]; rfl), hb⟩
  · have hne : decide (xs = ys) = false := by simp; intro e; exact hl (by rw [e])
    have hl' : ((xs.length : Int) != (ys.length : Int)) = true := by rw [bne_iff_ne]; omega
    have HN := hid hne
    clear hne hl
    go_enter Try.func66, Try.ntmps66
    go_wp2
    go_ret
    exact ⟨ret_bool HN.out.symm, Below.refl _ _⟩

section
variable {a b : Option Addr} {ca cb : Nat} {xs ys : List Pid} {w : World} {bm : Bool} (h : Hid (decide (xs = ys) = bm)) (hn : xs.length ≤ 70368744177664) (hm : ys.length ≤ 70368744177664) (hx : PidRow w a xs) (hy : PidRow w b ys)
include h hn hm hx hy
theorem sameR_is : Calls Try.prog 66 #[.slice a xs.length ca, .slice b ys.length cb] w fun e w' => e = .returned (.bool bm) ∧ Below w.heap.size w w' := by
  have := sameR_any a b ca cb xs ys w hn hm hx hy
  rw [h.out] at this
  exact this
theorem sameR_ext {U : ExtW w} : Calls Try.prog 66 #[.slice a xs.length ca, .slice b ys.length cb] U.W fun e w' => e = .returned (.bool bm) ∧ ∃ U' : ExtW w, w' = U'.W :=
  quiet_of (sameR_any a b ca cb xs ys U.W hn hm (hx.ext U.h) (hy.ext U.h)) (by rw [h.out])
end

/-! lists of lists -/
def eqLFrom : List (List Pid) → List (List Pid) → Bool
  | [], _ => true
  | _ :: _, [] => true
  | x :: l, y :: r => if x = y then eqLFrom l r else false
theorem eqLFrom_drop {xs ys : List (List Pid)} {k : Nat} (h : k < xs.length) (h' : k < ys.length) {p q : List Pid} (hp : p = xs[k]) (hq : q = ys[k]) : eqLFrom (xs.drop k) (ys.drop k) = if p = q then eqLFrom (xs.drop (k + 1)) (ys.drop (k + 1)) else false := by
  rw [List.drop_eq_getElem_cons h, List.drop_eq_getElem_cons h', ← hp, ← hq]; rfl
theorem eqLFrom_iff : ∀ {xs ys : List (List Pid)}, xs.length = ys.length → (eqLFrom xs ys = true ↔ xs = ys)
  | [], [], _ => by simp [eqLFrom]
  | x :: l, y :: r, h => by
    have ih := eqLFrom_iff (xs := l) (ys := r) (by simpa using h)
    simp only [eqLFrom]
    by_cases hxy : x = y
    · rw [if_pos hxy, ih]; simp [hxy]
    · rw [if_neg hxy]; simp [hxy]
  | [], y :: r, h => by simp at h
  | x :: l, [], h => by simp at h
theorem eqLFrom_eq {xs ys : List (List Pid)} (h : xs.length = ys.length) : decide (xs = ys) = eqLFrom xs ys := by
  rw [Bool.eq_iff_iff, eqLFrom_iff h]; simp

end Go.Proofs.Ytbpfhclcjedkcaa

namespace Go.Proofs.Ytbpfhclcjedkcaa
open Go.RowKit

/-! ### plain: sorting -/
theorem keys_union_nodup : ∀ (xs : List Pid) (L : List (Pid × Unit)), (∀ x ∈ xs, x ∉ keys L) → xs.Nodup → keys (unionL L xs) = keys L ++ xs
  | [], L, _, _ => by simp [unionL]
  | p :: l, L, h, hn => by
    obtain ⟨h1, h2⟩ := List.nodup_cons.1 hn
    have e : keys (add1 p L) = keys L ++ [p] := by rw [add1_of_not (h p (List.mem_cons_self ..))]; simp [keys]
    unfold unionL
    rw [keys_union_nodup l (add1 p L) (fun x hx => ?_) h2, e]
    · simp
    · rw [e]
      intro hm
      rcases List.mem_append.1 hm with hm | hm
      · exact h x (List.mem_cons_of_mem _ hx) hm
      · rw [List.mem_singleton.1 hm] at hx; exact h1 hx
theorem dedup_nodup {xs : List Pid} (h : xs.Nodup) : dedup xs = xs := by
  unfold dedup; rw [keys_union_nodup xs [] (by simp [keys]) h]; simp [keys]
theorem sortL_pairwise (xs : List Pid) : (sortL xs).Pairwise fun x y => (!(ahead y x)) = true :=
  List.pairwise_mergeSort (fun a b c h1 h2 => by simp [ahead] at *; omega) (fun a b => by simp [ahead]; omega) xs
theorem sortL_perm_self (xs : List Pid) : (sortL xs).Perm xs := List.mergeSort_perm _ _
theorem mem_sortL {p : Pid} {xs : List Pid} : p ∈ sortL xs ↔ p ∈ xs := (sortL_perm_self xs).mem_iff
theorem sortL_perm {xs ys : List Pid} (h : xs.Perm ys) (hok : ∀ p ∈ xs, ok p) : sortL xs = sortL ys := by
  refine List.Perm.eq_of_pairwise (le := fun x y => (!(ahead y x)) = true) ?_ (sortL_pairwise _) (sortL_pairwise _) ((sortL_perm_self xs).trans (h.trans (sortL_perm_self ys).symm))
  intro a b ha hb h1 h2
  simp [ahead] at h1 h2
  exact numOf_inj (hok a (mem_sortL.1 ha)) (hok b (h.mem_iff.2 (mem_sortL.1 hb))) (by omega)
theorem sortP_nodup {xs : List Pid} (h : xs.Nodup) : sortP xs = sortL xs := by unfold sortP; rw [dedup_nodup h]

theorem OwnP.mono {w : World} {b b' : Nat} {v : Value} {xs : List Pid} (h : OwnP w b v xs) (hb : b' ≤ b) : OwnP w b' v xs := by
  refine ⟨h.1, ?_⟩
  rcases h.2 with hn | ⟨g, cap, cur, rfl, hbb, rest⟩
  · exact .inl hn
  · exact .inr ⟨g, cap, cur, rfl, Nat.le_trans hb hbb, rest⟩
theorem RangeIs.left_eq {w : World} {r t : Nat} {α β : Type} {ke : α → Value} {ve : β → Value} {L left : List (α × β)} (h : RangeIs w r t ke ve L left) : w.rangeLeft r t = left.length := by
  obtain ⟨es, clock, since, seen, h1, _, _, h4, _, _, h7⟩ := h
  have := congrArg List.length h7
  simp only [List.length_map] at this
  unfold World.rangeLeft
  rw [h1, h4]
  unfold leftOf
  rw [← this]
  show (Array.filter (fun e => !seen.contains e.born) es).size = _
  rw [← Array.length_toList, Array.toList_filter]
theorem But.below' {r B : Nat} {w w' w0 : World} (h : Below B w0 w) (hb : But r w w') (hr : B ≤ r) : Below B w0 w' := h.trans (hb.below hr)
theorem OwnP.butT {w w' : World} {base t : Nat} {v : Value} {xs : List Pid} (h : OwnP w base v xs) (hb : But t w w') (ht : some t ≠ v.ownBlock) : OwnP w' base v xs := by
  refine ⟨h.1, ?_⟩
  rcases h.2 with hn | ⟨g, cap, cur, rfl, hbb, hgg, rest⟩
  · exact .inl hn
  · exact .inr ⟨g, cap, cur, rfl, hbb, (hb.block g (fun e => ht (by simp [Value.ownBlock, e]))).trans hgg, rest⟩
theorem OwnP.ne_iter {w : World} {base : Nat} {v : Value} {xs : List Pid} (h : OwnP w base v xs) {r t : Nat} {α β : Type} {ke : α → Value} {ve : β → Value} {L left : List (α × β)} (hr : RangeIs w r t ke ve L left) : some t ≠ v.ownBlock := by
  obtain ⟨es, clock, since, seen, _, _, _, h4, _⟩ := hr
  rcases h.2 with ⟨rfl, _⟩ | ⟨g, cap, cur, rfl, hbb, hgg, rest⟩
  · simp [Value.ownBlock]
  · simp only [Value.ownBlock, ne_eq, Option.some.injEq]
    intro e; subst e; rw [h4] at hgg; cases hgg
theorem RangeIs.grown {w w' : World} {r t : Nat} {α β : Type} [DecidableEq α] {ke : α → Value} {ve : β → Value} {L left : List (α × β)} (hR : RangeIs w r t ke ve L left) {base : Nat} {v : Value} {xs : List Pid} (h : OwnP w base v xs) (hg : w.grownBy w' v.ownBlock) : RangeIs w' r t ke ve L left := by
  refine hR.same (hg.block r hR.map.lt ?_) (hg.block t hR.lt (h.ne_iter hR))
  obtain ⟨es, clock, since, seen, h1, _⟩ := hR
  exact h.ne_map h1
theorem RangeIs.alloc {w : World} {r t : Nat} {α β : Type} [DecidableEq α] {ke : α → Value} {ve : β → Value} {L left : List (α × β)} (hR : RangeIs w r t ke ve L left) (o : Obj) : RangeIs (w.alloc o) r t ke ve L left := hR.ext ((Below.refl _ _).alloc (Nat.le_refl _) _)

/-! ### the set's methods -/
set_option maxRecDepth 100000 in
set_option maxHeartbeats 1600000 in
theorem list_any (s r : Nat) (L : List (Pid × Unit)) (w : World) (hS : SetIs w s r L) (hnd : (keys L).Nodup) (hok : ∀ p ∈ keys L, ok p) (hn : L.length ≤ 549755813888) :
   Calls Try.prog 244 #[.pointer (some ⟨s, 0, none⟩)] w fun e w' => ∃ v, e = .returned v ∧ OwnP w' w.heap.size v (sortL (keys L)) ∧ Below w.heap.size w w' := by
  have h0 := hS.box
  have hM := hS.map
  have HND := hid hnd
  have HOK := hid hok
  clear hnd hok
  go_enter Try.func244, Try.ntmps244
  go_wp2_with (at_range; refine wpList_range_is hM Try.underlying225 rfl rfl rfl ?_; intro w0 hR0 hb0)
  go_frame
  have hs0 := hb0.size
  have ht0 := hR0.lt
  go_loopw [3] (fun v wr => ∃ (got : List Pid) (left : List (Pid × Unit)), RangeIs wr r w.heap.size pidV eU L left ∧ OwnP wr w.heap.size v got ∧ Hid ((got ++ keys left).Perm (keys L)) ∧ got.length + left.length = L.length ∧ Below w.heap.size w wr ∧ w.heap.size < wr.heap.size) (fun _ wr => wr.rangeLeft r w.heap.size)
  case atStart => exact ⟨[], L, hR0, OwnP.nil _ _, (show ([] ++ keys L).Perm (keys L) from List.Perm.refl _), by simp, hb0, ht0⟩
  case round =>
    obtain ⟨got, left, hR, hown, hP, hlen, hb, hlt⟩ := hrel
    have HLEN := hid hlen
    have hgl : got.length ≤ L.length := by omega
    have hlm := hR.left_eq
    have HLM := hid hlm
    clear hlen hlm
    go_wp2_with (at_next; refine wpList_next_is hR rfl rfl rfl ?_ ?_)
    · intro hl
      have hgp : got.Perm (keys L) := by have := hP.out; rw [hl.out] at this; simpa [keys] using this
      have hgn : got.Nodup := hgp.symm.nodup HND.out
      have hgo : ∀ p ∈ got, ok p := fun p hp => HOK.out p (hgp.mem_iff.1 hp)
      have hsq : sortP got = sortL (keys L) := by rw [sortP_nodup hgn]; exact sortL_perm hgp hgo
      have HSQ := hid hsq
      have HGO := hid hgo
      obtain ⟨a, c, rfl, hrow, -⟩ := hown.row
      clear hgp hgn hsq hgo
      go_wp2_with (go_at_call 160; refine (sort_any a c got _ (by omega) hrow HGO.out).mono ?_; rintro e w3 ⟨v, rfl, hown3, hb3⟩)
      go_ret
      exact ⟨_, rfl, by rw [← HSQ.out]; exact hown3.mono (by omega), hb.trans (hb3.mono (by omega))⟩
    · intro x y u0 s1 s2 w1 hl hR1 hbut hen
      have hown1 := hown.butT hbut (hown.ne_iter hR)
      have HSZ := hid hbut.size
      have hone : PidRow ((w1.alloc (.cells #[.int .u16 x, .int .u32 y] 26)).alloc (.cells #[.int .u16 x, .int .u32 y] 26)) (some ⟨w1.heap.size + 1, 0, none⟩) [(x, y)] := PidRow.one' _ (by simp) x y
      go_wp2_with (at_builtin; refine wpList_appendP ((hown1.alloc _).alloc _) hone ?cb ?cz rfl rfl rfl rfl ?_; rotate_right; intro v4 w4 hown4 hg4 hnil4)
      case cb => simp; omega
      case cz => have := HSZ.out; simp; omega
      have hsz1 := HSZ.out
      have hB4 : Below w.heap.size w w4 := (((But.below' hb hbut (Nat.le_refl _)).alloc (by omega) _).alloc (by simp; omega) _).grown hg4 (by simp; omega) (fun g hg => (World.ownsRow.lt hown g hg).1)
      have hR4 := ((hR1.alloc (.cells #[.int .u16 x, .int .u32 y] 26)).alloc (.cells #[.int .u16 x, .int .u32 y] 26)).grown ((hown1.alloc _).alloc _) hg4
      have hlt4 := hR4.lt
      have hlm4 := hR4.left_eq
      have HLM4 := hid hlm4
      have hlq : left.length = s1.length + 1 + s2.length := by rw [hl.out]; simp; omega
      clear hlm4
      go_roundw
      case rel =>
        refine ⟨got ++ [(x, y)], s1 ++ s2, hR4, hown4, hid ?_, by have := HLEN.out; simp; omega, hB4, hlt4⟩
        refine List.Perm.trans ?_ hP.out
        rw [hl.out]
        simp only [keys, List.map_append, List.map_cons, List.append_assoc, List.cons_append, List.nil_append]
        refine List.Perm.append_left _ ?_
        exact List.perm_middle.symm
      case measure => rw [HLM4.out, HLM.out]; simp; omega
end Go.Proofs.Ytbpfhclcjedkcaa

namespace Go.Proofs.Ytbpfhclcjedkcaa
open Go.RowKit
theorem isSome_union {p : Pid} {l : List Pid} : (look p (unionL [] l)).isSome = true ↔ p ∈ l := by
  rw [look_isSome, mem_unionL]; simp [keys]

end Go.Proofs.Ytbpfhclcjedkcaa

