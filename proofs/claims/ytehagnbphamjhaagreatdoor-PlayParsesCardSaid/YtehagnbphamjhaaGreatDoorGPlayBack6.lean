/- Parts of the proof: Base W2 Maps W3 W4 W5 W6 W7 W8 R1. -/
import Derived.Test.YtehagnbphamjhaaGreatDoorChecked
import Derived.WalkLawsBesides
import Derived.WalkSpells
import Derived.Deep.QuietTactic
import Derived.BigQuiet
import Derived.Maps.OwnSet
import Derived.Deep.RegionHeld3
import Derived.Lib.AppendZerosOnto
import Derived.Lib.SliceRun
import Derived.Test.YtehagnbphamjhaaGreatDoorTZ6
namespace Go.Proofs.YtehagnbphamjhaaGreatDoor
open Go.RowKit
theorem hid {p : Prop} (h : p) : Hid p := h
theorem ret_int {k : IntKind} {a b : Int} (h : a = b) : Ending.returned (.int k a) = .returned (.int k b) := by rw [h]
theorem ret_bool {a b : Bool} (h : a = b) : Ending.returned (.bool a) = .returned (.bool b) := by rw [h]

abbrev Pid := Int × Int
/-- the row of processes behind a slice's address -/
def PidRow (w : World) (a : Option Addr) (xs : List Pid) : Prop :=
  xs = [] ∨ ∃ b off, a = some ⟨b, off, none⟩ ∧ b < w.heap.size ∧ ∀ i (h : i < xs.length), w.cell? ⟨b, off + i * 2, none⟩ = some (.int .u16 xs[i].1) ∧ w.cell? ⟨b, off + i * 2 + 1, none⟩ = some (.int .u32 xs[i].2)
theorem PidRow.get {w : World} {a : Option Addr} {xs : List Pid} (h : PidRow w a xs) (h0 : 0 < xs.length) :
    ∃ b off, a = some ⟨b, off, none⟩ ∧ b < w.heap.size ∧ ∀ i (h : i < xs.length), w.cell? ⟨b, off + i * 2, none⟩ = some (.int .u16 xs[i].1) ∧ w.cell? ⟨b, off + i * 2 + 1, none⟩ = some (.int .u32 xs[i].2) := by
  rcases h with rfl | h
  · simp at h0
  · exact h
theorem PidRow.below {w w' : World} {a : Option Addr} {xs : List Pid} (h : PidRow w a xs) {B : Nat} (hb : Below B w w') (hB : ∀ b off, a = some ⟨b, off, none⟩ → b < B) : PidRow w' a xs := by
  rcases h with rfl | ⟨b, off, rfl, hlt, hc⟩
  · exact .inl rfl
  · refine .inr ⟨b, off, rfl, by have := hb.size; omega, fun i hi => ?_⟩
    have := hB b off rfl
    rw [hb.cell (by exact this), hb.cell (by exact this)]
    exact hc i hi
theorem PidRow.ext {w w' : World} {a : Option Addr} {xs : List Pid} (h : PidRow w a xs) (hb : Below w.heap.size w w') : PidRow w' a xs := by
  rcases h with rfl | ⟨b, off, rfl, hlt, hc⟩
  · exact .inl rfl
  · exact PidRow.below (.inr ⟨b, off, rfl, hlt, hc⟩) hb (fun b' off' e => by cases e; exact hlt)
/-- the k-th cell pair, in any later world -/
theorem PidRow.at {w wr : World} {a : Option Addr} {xs : List Pid} (h : PidRow w a xs) {B : Nat} (hb : Below B w wr) (hB : B = w.heap.size) {k : Nat} (hk : k < xs.length) :
    ∃ b off x y, a = some ⟨b, off, none⟩ ∧ (x, y) = xs[k] ∧ wr.cell? ⟨b, off + k * 2, none⟩ = some (.int .u16 x) ∧ wr.cell? ⟨b, off + k * 2 + 1, none⟩ = some (.int .u32 y) := by
  subst hB
  obtain ⟨b, off, rfl, hlt, hc⟩ := h.get (by omega)
  refine ⟨b, off, xs[k].1, xs[k].2, rfl, rfl, ?_, ?_⟩
  · rw [hb.cell (by exact hlt)]; exact (hc k hk).1
  · rw [hb.cell (by exact hlt)]; exact (hc k hk).2
theorem below_drewN {B : Nat} {a w : World} (h : Below B a w) (n : Nat) : Below B a (w.drewN n) := ⟨h.os, h.tape, h.output, h.size, h.block⟩
def atFrom (p : Pid) : List Pid → Nat → Int
  | [], _ => -1
  | x :: xs, k => if x = p then k else atFrom p xs (k + 1)
/-- the first place of p in a list; -1: none -/
def atIx (xs : List Pid) (p : Pid) : Int := atFrom p xs 0
theorem atFrom_drop {xs : List Pid} {k : Nat} (h : k < xs.length) (p : Pid) : atFrom p (xs.drop k) k = if xs[k] = p then (k : Int) else atFrom p (xs.drop (k + 1)) (k + 1) := by
  rw [List.drop_eq_getElem_cons h]; rfl
theorem atFrom_end {xs : List Pid} {k : Nat} (h : xs.length ≤ k) (p : Pid) : atFrom p (xs.drop k) k = -1 := by
  rw [List.drop_eq_nil_of_le h]; rfl
theorem bcell {W w1 : World} (hb : Below W.heap.size W w1) : (∀ b o, b < W.heap.size → w1.cell? ⟨b, o, none⟩ = W.cell? ⟨b, o, none⟩) ∧ (∀ b o, b < W.heap.size → w1.frozen? ⟨b, o, none⟩ = W.frozen? ⟨b, o, none⟩) :=
  ⟨fun b o h => hb.cell (p := ⟨b, o, none⟩) h, fun b o h => hb.frozen (p := ⟨b, o, none⟩) h⟩
/-- the rows behind a slice of slices -/
def LeafRow (w : World) (a : Option Addr) (ls : List (List Pid)) : Prop :=
  ls = [] ∨ ∃ b off, a = some ⟨b, off, none⟩ ∧ b < w.heap.size ∧ ∀ i (h : i < ls.length), ∃ ai ci, w.cell? ⟨b, off + i, none⟩ = some (.slice ai ls[i].length ci) ∧ PidRow w ai ls[i]
theorem LeafRow.ext {w w' : World} {a : Option Addr} {ls : List (List Pid)} (h : LeafRow w a ls) (hb : Below w.heap.size w w') : LeafRow w' a ls := by
  rcases h with rfl | ⟨b, off, rfl, hlt, hc⟩
  · exact .inl rfl
  · refine .inr ⟨b, off, rfl, by have := hb.size; omega, fun i hi => ?_⟩
    obtain ⟨ai, ci, h1, h2⟩ := hc i hi
    exact ⟨ai, ci, by rw [hb.cell (by exact hlt)]; exact h1, h2.ext hb⟩
theorem LeafRow.at {w wr : World} {a : Option Addr} {ls : List (List Pid)} (h : LeafRow w a ls) {B : Nat} (hb : Below B w wr) (hB : B = w.heap.size) {k : Nat} (hk : k < ls.length) :
    ∃ b off ai ci l, a = some ⟨b, off, none⟩ ∧ l = ls[k] ∧ wr.cell? ⟨b, off + k, none⟩ = some (.slice ai l.length ci) ∧ PidRow wr ai l := by
  subst hB
  rcases h with rfl | ⟨b, off, rfl, hlt, hc⟩
  · simp at hk
  · obtain ⟨ai, ci, h1, h2⟩ := hc k hk
    exact ⟨b, off, ai, ci, ls[k], rfl, rfl, by rw [hb.cell (by exact hlt)]; exact h1, h2.ext hb⟩
/-- a view, as data -/
structure View where
  id : Int
  ms : List Pid
  ls : List (List Pid)
  ds : List Pid
structure ViewR (w : World) (am al ad : Option Addr) (V : View) : Prop where
  ms : PidRow w am V.ms
  ls : LeafRow w al V.ls
  ds : PidRow w ad V.ds
  lm : V.ms.length ≤ 70368744177664
  ll : V.ls.length ≤ 70368744177664
  ld : V.ds.length ≤ 70368744177664
  le : ∀ l ∈ V.ls, l.length ≤ 70368744177664
theorem ViewR.ext {w w' : World} {am al ad : Option Addr} {V : View} (h : ViewR w am al ad V) (hb : Below w.heap.size w w') : ViewR w' am al ad V :=
  ⟨h.ms.ext hb, h.ls.ext hb, h.ds.ext hb, h.lm, h.ll, h.ld, h.le⟩
theorem eql_pid (a b c d : Int) (w : World) : (binOp .eql 46 (.agg #[.int .u16 a, .int .u32 b]) (.agg #[.int .u16 c, .int .u32 d])).run Tryz.prog w = .ok (.bool (decide ((a, b) = (c, d)))) w := by
  have hS : Tryz.prog.underlying 46 = some (.struct (Tryz.prog.fieldsOf 46)) := by kernel_rfl
  have hp : Tryz.prog.stoodInHeld 46 = false := by kernel_rfl
  rw [run_eql_struct, show (10000 : Nat) = 9999 + 1 from rfl, run_equalIn_agg w 9999 46 _ _ hS hp]
  simp only [Program.fieldsOf, Tryz.underlying46]
  go_simp
  by_cases h1 : a = c <;> by_cases h2 : b = d <;> simp [h1, h2]
end Go.Proofs.YtehagnbphamjhaaGreatDoor

namespace Go.Proofs.YtehagnbphamjhaaGreatDoor
open Go.RowKit

set_option maxHeartbeats 400000 in
theorem index_any (a : Option Addr) (c : Nat) (xs : List Pid) (id inc : Int) (w : World) (hn : xs.length ≤ 70368744177664) (hrow : PidRow w a xs) :
   Calls Tryz.prog 194 #[.slice a xs.length c, .agg #[.int .u16 id, .int .u32 inc]] w fun e w' => e = .returned (.int .i64 (atIx xs (id, inc))) ∧ Below w.heap.size w w' := by
  go_enter Tryz.func194, Tryz.ntmps194
  go_wp2
  go_loopw [4, 8] (fun r i wr => r = .int .i64 0 ∧ ∃ k : Nat, k ≤ xs.length ∧ i = .int .i64 k ∧ Hid (atIx xs (id, inc) = atFrom (id, inc) (xs.drop k) k) ∧ Below w.heap.size w wr ∧ wr.cell? ⟨w.heap.size, 0, none⟩ = some (.int .u16 id) ∧ wr.cell? ⟨w.heap.size, 1, none⟩ = some (.int .u32 inc)) (fun _ i _ => xs.length - (intOf i).toNat)
  case atStart => exact ⟨rfl, 0, Nat.zero_le _, rfl, rfl, (Below.refl _ _).alloc (Nat.le_refl _) _, by simp, by simp⟩
  case round =>
    obtain ⟨rfl, k, hk, rfl, ha, hb, c0, c1⟩ := hrel
    by_cases hlt : k < xs.length
    · obtain ⟨b, off, x, y, rfl, hx, d1, d2⟩ := hrow.at hb rfl hlt
      have HX := hid hx
      clear hx hrow
      have he := fun w => eql_pid id inc x y w
      go_wp2
      go_quiet (fail)
      all_goals go_wp2
      · have h := ‹id = x ∧ inc = y›
        go_ret
        exact ⟨ret_int (by rw [ha.out, atFrom_drop hlt, if_pos (by rw [← HX.out, h.1, h.2])]), below_drewN hb _⟩
      · have h := ‹¬id = x ∨ ¬inc = y›
        go_roundw
        case rel => exact ⟨rfl, k + 1, by omega, by go_num, (ha.out.trans (by rw [atFrom_drop hlt, if_neg (by rw [← HX.out]; simp; omega)]) : _), below_drewN hb _, by simpa using c0, by simpa using c1⟩
        case measure => simp [intOf]; omega
    · go_wp2
      go_ret
      exact ⟨ret_int (by rw [ha.out, atFrom_end (by omega)]), hb⟩

theorem atFrom_neg {p : Pid} : ∀ {xs : List Pid} {k : Nat}, atFrom p xs k < 0 ↔ p ∉ xs
  | [], _ => by simp [atFrom]
  | x :: xs, k => by
    unfold atFrom
    split
    · next h => simp [h]
    · next h =>
      rw [atFrom_neg]
      have h' : ¬ p = x := fun e => h e.symm
      simp [h']
theorem atIx_nonneg {p : Pid} {xs : List Pid} : decide (0 ≤ atIx xs p) = decide (p ∈ xs) := by
  have := atFrom_neg (p := p) (xs := xs) (k := 0)
  unfold atIx
  by_cases h : p ∈ xs <;> simp [h] <;> simp [h] at this <;> omega

theorem contains_any (a : Option Addr) (c : Nat) (xs : List Pid) (id inc : Int) (w : World) (hn : xs.length ≤ 70368744177664) (hrow : PidRow w a xs) :
   Calls Tryz.prog 139 #[.slice a xs.length c, .agg #[.int .u16 id, .int .u32 inc]] w fun e w' => e = .returned (.bool (decide ((id, inc) ∈ xs))) ∧ Below w.heap.size w w' := by
  go_enter Tryz.func139, Tryz.ntmps139
  go_wp2_with (go_at_call 194; refine (index_any _ _ _ _ _ _ hn (hrow.ext ((Below.refl _ _).alloc (Nat.le_refl _) _))).mono ?_; rintro e w1 ⟨rfl, hb1⟩)
  go_ret
  exact ⟨ret_bool atIx_nonneg, ((Below.refl _ _).alloc (Nat.le_refl _) _).trans (hb1.mono (by simp))⟩

theorem leaf1_any (a : Option Addr) (c : Nat) (xs : List Pid) (bp : Nat) (id inc : Int) (w : World) (hn : xs.length ≤ 70368744177664) (hrow : PidRow w a xs)
   (h0 : w.cell? ⟨bp, 0, none⟩ = some (.int .u16 id)) (h1 : w.cell? ⟨bp, 1, none⟩ = some (.int .u32 inc)) :
   Calls Tryz.prog 395 #[.slice a xs.length c, .pointer (some ⟨bp, 0, none⟩)] w fun e w' => e = .returned (.bool (decide ((id, inc) ∈ xs))) ∧ Below w.heap.size w w' := by
  go_enter Tryz.func395, Tryz.ntmps395
  go_wp2_with (go_at_call 139; refine (contains_any _ _ _ _ _ _ hn hrow).mono ?_; rintro e w1 ⟨rfl, hb1⟩)
  go_ret
  exact ⟨rfl, hb1⟩

/-- the first list of ls that holds p -/
def leafFrom (p : Pid) : List (List Pid) → Nat → Int
  | [], _ => -1
  | x :: xs, k => if p ∈ x then k else leafFrom p xs (k + 1)
def leafIx (ls : List (List Pid)) (p : Pid) : Int := leafFrom p ls 0
theorem leafFrom_drop {xs : List (List Pid)} {k : Nat} (h : k < xs.length) (p : Pid) : leafFrom p (xs.drop k) k = if p ∈ xs[k] then (k : Int) else leafFrom p (xs.drop (k + 1)) (k + 1) := by
  rw [List.drop_eq_getElem_cons h]; rfl
theorem leafFrom_end {xs : List (List Pid)} {k : Nat} (h : xs.length ≤ k) (p : Pid) : leafFrom p (xs.drop k) k = -1 := by
  rw [List.drop_eq_nil_of_le h]; rfl

set_option maxHeartbeats 400000 in
theorem indexFunc_any (a : Option Addr) (c : Nat) (ls : List (List Pid)) (bp : Nat) (id inc : Int) (w : World) (hn : ls.length ≤ 70368744177664) (hl : ∀ l ∈ ls, l.length ≤ 70368744177664) (hrow : LeafRow w a ls)
   (h0 : w.cell? ⟨bp, 0, none⟩ = some (.int .u16 id)) (h1 : w.cell? ⟨bp, 1, none⟩ = some (.int .u32 inc)) :
   Calls Tryz.prog 347 #[.slice a ls.length c, .func (.func 395) #[] #[.pointer (some ⟨bp, 0, none⟩)]] w fun e w' => e = .returned (.int .i64 (leafIx ls (id, inc))) ∧ Below w.heap.size w w' := by
  have hbp := World.block_lt_of_cell? w _ h0
  simp only at hbp
  go_enter Tryz.func347, Tryz.ntmps347
  go_wp2
  go_loopw [4, 8] (fun r i wr => r = .int .i64 0 ∧ ∃ k : Nat, k ≤ ls.length ∧ i = .int .i64 k ∧ Hid (leafIx ls (id, inc) = leafFrom (id, inc) (ls.drop k) k) ∧ Below w.heap.size w wr) (fun _ i _ => ls.length - (intOf i).toNat)
  case atStart => exact ⟨rfl, 0, Nat.zero_le _, rfl, rfl, Below.refl _ _⟩
  case round =>
    obtain ⟨rfl, k, hk, rfl, ha, hb⟩ := hrel
    by_cases hlt : k < ls.length
    · obtain ⟨b, off, ai, ci, l, rfl, hx, d1, d2⟩ := hrow.at hb rfl hlt
      have hll : l.length ≤ 70368744177664 := hl l (by rw [hx]; exact List.getElem_mem _)
      have HX := hid hx
      clear hx hrow
      have e0 := (hb.cell (p := ⟨bp, 0, none⟩) hbp).trans h0
      have e1 := (hb.cell (p := ⟨bp, 1, none⟩) hbp).trans h1
      go_wp2_with (go_at_call 395; refine (leaf1_any _ _ _ _ _ _ _ hll d2 e0 e1).mono ?_; rintro e w1 ⟨rfl, hb1⟩)
      · have h := ‹(id, inc) ∈ l›
        go_ret
        exact ⟨ret_int (by rw [ha.out, leafFrom_drop hlt, if_pos (by rw [← HX.out]; exact h)]), hb.trans (hb1.mono hb.size)⟩
      · have h := ‹¬(id, inc) ∈ l›
        go_roundw
        case rel => exact ⟨rfl, k + 1, by omega, by go_num, (ha.out.trans (by rw [leafFrom_drop hlt, if_neg (by rw [← HX.out]; exact h)]) : _), hb.trans (hb1.mono hb.size)⟩
        case measure => simp [intOf]; omega
    · go_wp2
      go_ret
      exact ⟨ret_int (by rw [ha.out, leafFrom_end (by omega)]), hb⟩
end Go.Proofs.YtehagnbphamjhaaGreatDoor

namespace Go.Proofs.YtehagnbphamjhaaGreatDoor
open Go.RowKit
open Go.Instr Go.MapKept

/-- first place and value at a key -/
def lookI {α β : Type} [DecidableEq α] (x : α) : List (α × β) → Nat → Option (Nat × β)
  | [], _ => none
  | p :: l, i => if x = p.1 then some (i, p.2) else lookI x l (i + 1)
def look {α β : Type} [DecidableEq α] (x : α) : List (α × β) → Option β
  | [] => none
  | p :: l => if x = p.1 then some p.2 else look x l
def ins {α β : Type} [DecidableEq α] (x : α) (v : β) : List (α × β) → List (α × β)
  | [] => [(x, v)]
  | p :: l => if x = p.1 then (x, v) :: l else p :: ins x v l
def del {α β : Type} [DecidableEq α] (x : α) : List (α × β) → List (α × β)
  | [] => []
  | p :: l => if x = p.1 then l else p :: del x l

/-- what the laws ask of a key type -/
structure KeyOk (P : Program) (K : TypeId) {α : Type} [DecidableEq α] (ke : α → Value) : Prop where
  find : ∀ (x : α) (L : List (α × Value)) (es : List MapEntry) (w : World), es.map (fun e => (e.key, e.val)) = L.map (fun p => (ke p.1, p.2)) →
    (findKey K (ke x) es).run P w = .ok (lookI x L 0) w
  check : ∀ (b : Bool) (x : α) (w : World), (checkKey b 10000 K (ke x)).run P w = .ok () w
  same : ∀ x, sameBits 10000 (ke x) (ke x) = true

def bornOk (es : Array MapEntry) (clock : Nat) : Prop := (es.toList.map (·.born)).Nodup ∧ ∀ e ∈ es.toList, e.born < clock

def MapIs {α β : Type} (w : World) (r : Nat) (ke : α → Value) (ve : β → Value) (L : List (α × β)) : Prop :=
  ∃ es clock, w.heap[r]? = some (.map es clock) ∧ es.toList.map (fun e => (e.key, e.val)) = L.map (fun p => (ke p.1, ve p.2)) ∧ bornOk es clock

section
set_option linter.unusedSectionVars false
variable {α β : Type} [DecidableEq α] {ke : α → Value} {ve : β → Value} {P : Program} {K : TypeId}

theorem MapIs.lt {w : World} {r : Nat} {L : List (α × β)} (h : MapIs w r ke ve L) : r < w.heap.size := by
  obtain ⟨es, clock, hb, _⟩ := h
  exact (Array.getElem?_eq_some_iff.1 hb).1
theorem MapIs.same {w w' : World} {r : Nat} {L : List (α × β)} (h : MapIs w r ke ve L) (hb : w'.heap[r]? = w.heap[r]?) : MapIs w' r ke ve L := by
  obtain ⟨es, clock, h1, h2⟩ := h
  exact ⟨es, clock, hb.trans h1, h2⟩
theorem MapIs.ext {w w' : World} {r : Nat} {L : List (α × β)} (h : MapIs w r ke ve L) (hb : Below w.heap.size w w') : MapIs w' r ke ve L :=
  h.same (hb.block _ h.lt)
theorem MapIs.alloc {w : World} {r : Nat} {L : List (α × β)} (h : MapIs w r ke ve L) (o : Obj) : MapIs (w.alloc o) r ke ve L :=
  h.ext ((Below.refl _ _).alloc (Nat.le_refl _) _)
theorem MapIs.setCell {w : World} {r : Nat} {L : List (α × β)} (h : MapIs w r ke ve L) {p : Addr} (hp : r ≠ p.block) (u : Value) : MapIs (w.setCell p u) r ke ve L :=
  h.same (Below.heap_setCell _ _ _ _ hp)
theorem MapIs.made (w : World) : MapIs (w.alloc (.map #[] 0)) w.heap.size ke ve ([] : List (α × β)) :=
  ⟨#[], 0, (MapKept.heap_alloc w _).1, rfl, by simp [bornOk]⟩

theorem MapIs.made' (w : World) {r : Nat} (h : r = w.heap.size) : MapIs (w.alloc (.map #[] 0)) r ke ve ([] : List (α × β)) := by
  subst h; exact MapIs.made w

theorem lookI_map (f : β → Value) (x : α) : ∀ (L : List (α × β)) (i : Nat), lookI x (L.map fun p => (p.1, f p.2)) i = (lookI x L i).map fun q => (q.1, f q.2)
  | [], _ => rfl
  | p :: l, i => by
    simp only [List.map_cons, lookI]
    split
    · rfl
    · exact lookI_map f x l (i + 1)
theorem lookI_look (x : α) : ∀ (L : List (α × β)) (i : Nat), (lookI x L i).map (·.2) = look x L
  | [], _ => rfl
  | p :: l, i => by
    simp only [lookI, look]
    split
    · rfl
    · exact lookI_look x l (i + 1)
theorem lookI_some {x : α} : ∀ {L : List (α × β)} {i j : Nat} {v : β}, lookI x L i = some (j, v) → i ≤ j ∧ j - i < L.length ∧ (∃ u, L[j - i]? = some (x, u)) ∧ ∀ u, ins x u L = L.set (j - i) (x, u)
  | [], _, _, _, h => by simp [lookI] at h
  | p :: l, i, j, v, h => by
    simp only [lookI] at h
    split at h
    · next hx =>
      simp only [Option.some.injEq, Prod.mk.injEq] at h
      obtain ⟨rfl, rfl⟩ := h
      refine ⟨Nat.le_refl _, by simp, ⟨p.2, by simp [hx]⟩, fun u => by simp [ins, hx]⟩
    · next hx =>
      obtain ⟨h1, h2, h3, h4⟩ := lookI_some h
      have e : j - i = (j - (i + 1)) + 1 := by omega
      refine ⟨by omega, by simp; omega, ?_, fun u => ?_⟩
      · rw [e]; simpa using h3
      · rw [e]; simp only [ins, if_neg hx, List.set_cons_succ, h4 u]
theorem lookI_none {x : α} : ∀ {L : List (α × β)} {i : Nat}, lookI x L i = none → ∀ u, ins x u L = L ++ [(x, u)]
  | [], _, _, u => rfl
  | p :: l, i, h, u => by
    simp only [lookI] at h
    split at h
    · simp at h
    · next hx => simp [ins, if_neg hx, lookI_none h u]

theorem find_run {w : World} {L : List (α × β)} (kk : KeyOk P K ke) {es : Array MapEntry} (he : es.toList.map (fun e => (e.key, e.val)) = L.map (fun p => (ke p.1, ve p.2))) (x : α) :
    (findKey K (ke x) es.toList).run P w = .ok ((lookI x L 0).map fun q => (q.1, ve q.2)) w := by
  rw [kk.find x (L.map fun p => (p.1, ve p.2)) es.toList w (by rw [he]; simp), lookI_map]

theorem MapIs.lookup_ok {w : World} {r : Nat} {L : List (α × β)} (h : MapIs w r ke ve L) (kk : KeyOk P K ke) {t e : TypeId} (ht : P.underlying t = some (.map K e))
    {z : Value} (hz : (zeroValue e).run P w = .ok z w) (x : α) :
    (Instr.lookup t (.map (some r)) (ke x) true).run P w = .ok (.tuple #[((look x L).map ve).getD z, .bool (look x L).isSome]) w := by
  obtain ⟨es, clock, hb, he, _⟩ := h
  have hf := find_run (w := w) kk he x
  have hl := lookI_look x L 0
  cases hq : lookI x L 0 with
  | none =>
    rw [hq] at hl hf
    simp [Instr.lookup, run_underlying ht, MapKept.run_getObj_map hb, kk.check, hf, Result.andThen, ← hl, hz]
  | some q =>
    rw [hq] at hl hf
    simp [Instr.lookup, run_underlying ht, MapKept.run_getObj_map hb, kk.check, hf, Result.andThen, ← hl]
theorem MapIs.lookup_no {w : World} {r : Nat} {L : List (α × β)} (h : MapIs w r ke ve L) (kk : KeyOk P K ke) {t e : TypeId} (ht : P.underlying t = some (.map K e))
    {z : Value} (hz : (zeroValue e).run P w = .ok z w) (x : α) :
    (Instr.lookup t (.map (some r)) (ke x) false).run P w = .ok (((look x L).map ve).getD z) w := by
  obtain ⟨es, clock, hb, he, _⟩ := h
  have hf := find_run (w := w) kk he x
  have hl := lookI_look x L 0
  cases hq : lookI x L 0 with
  | none =>
    rw [hq] at hl hf
    simp [Instr.lookup, run_underlying ht, MapKept.run_getObj_map hb, kk.check, hf, Result.andThen, ← hl, hz]
  | some q =>
    rw [hq] at hl hf
    simp [Instr.lookup, run_underlying ht, MapKept.run_getObj_map hb, kk.check, hf, Result.andThen, ← hl]

/-- w' is w but for block r -/
structure But (r : Nat) (w w' : World) : Prop where
  os : w'.os = w.os
  tape : w'.tape = w.tape
  output : w'.output = w.output
  size : w'.heap.size = w.heap.size
  block : ∀ k, k ≠ r → w'.heap[k]? = w.heap[k]?
theorem But.below {r B : Nat} {w w' : World} (h : But r w w') (hB : B ≤ r) : Below B w w' :=
  ⟨h.os, h.tape, h.output, by rw [h.size]; exact Nat.le_refl _, fun k hk => h.block k (by omega)⟩
theorem But.cell {r : Nat} {w w' : World} (h : But r w w') {p : Addr} (hp : p.block ≠ r) : w'.cell? p = w.cell? p := World.cell?_of_block (w := w) (h.block p.block hp)
theorem But.frozen {r : Nat} {w w' : World} (h : But r w w') {p : Addr} (hp : p.block ≠ r) : w'.frozen? p = w.frozen? p := World.frozen?_of_block (w := w) (h.block p.block hp)
theorem But.of_set (w : World) (r : Nat) (o : Obj) : But r w { w with heap := w.heap.setIfInBounds r o } :=
  ⟨rfl, rfl, rfl, by simp, fun k hk => by simp [Ne.symm hk]⟩

theorem lookI_lt {x : α} {L : List (α × β)} {q : Nat × β} (h : lookI x L 0 = some q) : q.1 < L.length := by
  obtain ⟨j, v⟩ := q
  have := (lookI_some h).2.1
  simpa using this

theorem MapIs.update {w : World} {r : Nat} {L : List (α × β)} (h : MapIs w r ke ve L) (kk : KeyOk P K ke) {t e : TypeId} (ht : P.underlying t = some (.map K e)) (x : α) (v : β) :
    ∃ w', (Instr.mapUpdate t (.map (some r)) (ke x) (ve v)).run P w = .ok () w' ∧ MapIs w' r ke ve (ins x v L) ∧ But r w w' := by
  obtain ⟨es, clock, hb, he, hbn⟩ := h
  have hf := find_run (w := w) kk he x
  have hlen : es.toList.length = L.length := by simpa using congrArg List.length he
  cases hq : lookI x L 0 with
  | none =>
    rw [hq] at hf
    refine ⟨{ w with heap := w.heap.setIfInBounds r (.map (es.push { key := ke x, val := ve v, born := clock }) (clock + 1)) },
      by simp [Instr.mapUpdate, run_underlying ht, MapKept.run_getObj_map hb, kk.check, hf, run_setObj_map _ hb, Result.andThen], ⟨_, _, (heap_set hb).1, ?_, ?_⟩, But.of_set _ _ _⟩
    · rw [lookI_none hq]; simp [he]
    · obtain ⟨h1, h2⟩ := hbn
      refine ⟨?_, ?_⟩
      · simp only [Array.toList_push, List.map_append, List.map_cons, List.map_nil]
        rw [List.nodup_append]
        refine ⟨h1, by simp, ?_⟩
        intro a ha b hb' 
        simp at hb'; subst hb'
        obtain ⟨e0, he0, rfl⟩ := List.mem_map.1 ha
        exact Nat.ne_of_lt (h2 e0 he0)
      · intro e0 he0
        simp only [Array.toList_push, List.mem_append, List.mem_singleton] at he0
        rcases he0 with he0 | rfl
        · have := h2 e0 he0; omega
        · simp
  | some q =>
    obtain ⟨j, u⟩ := q
    have hlt := lookI_lt hq
    obtain ⟨_, _, ⟨u', hu'⟩, hins⟩ := lookI_some hq
    simp only [Nat.sub_zero] at hu' hins hlt
    rw [hq] at hf
    have hj : ∃ e0, es[j]? = some e0 ∧ e0.key = ke x := by
      have : (es.toList.map (fun e => (e.key, e.val)))[j]? = some (ke x, ve u') := by rw [he, List.getElem?_map, hu']; rfl
      rw [List.getElem?_map] at this
      cases hej : es.toList[j]? with
      | none => rw [hej] at this; simp at this
      | some e0 =>
        rw [hej] at this
        simp at this
        exact ⟨e0, by simpa using hej, this.1⟩
    obtain ⟨e0, hej, hek⟩ := hj
    refine ⟨{ w with heap := w.heap.setIfInBounds r (.map (es.modify j fun e => { e with key := ke x, val := ve v }) clock) },
      by simp [Instr.mapUpdate, run_underlying ht, MapKept.run_getObj_map hb, kk.check, hf, hej, hek, Instr.keyThatStays, kk.same, run_setObj_map _ hb, Result.andThen], ⟨_, _, (heap_set hb).1, ?_, ?_⟩, But.of_set _ _ _⟩
    · rw [hins]
      apply List.ext_getElem?
      intro i
      have hi : (es.toList.map (fun e => (e.key, e.val)))[i]? = (L.map (fun p => (ke p.1, ve p.2)))[i]? := by rw [he]
      simp only [List.getElem?_map, Array.toList_modify, List.getElem?_modify, List.getElem?_set] at hi ⊢
      by_cases hij : j = i
      · subst hij
        simp [hlt, hej]
      · simp [hij] at hi ⊢
        exact hi
    · obtain ⟨h1, h2⟩ := hbn
      have hborn : (es.modify j fun e => { e with key := ke x, val := ve v }).toList.map (·.born) = es.toList.map (·.born) := by
        apply List.ext_getElem?
        intro i
        simp only [List.getElem?_map, Array.toList_modify, List.getElem?_modify]
        split
        · cases es.toList[i]? <;> simp
        · simp
      refine ⟨by rw [hborn]; exact h1, fun e1 he1 => ?_⟩
      have : e1.born ∈ es.toList.map (·.born) := by rw [← hborn]; exact List.mem_map_of_mem he1
      obtain ⟨e2, he2, heq⟩ := List.mem_map.1 this
      rw [← heq]; exact h2 e2 he2

theorem MapIs.len {w : World} {r : Nat} {L : List (α × β)} (h : MapIs w r ke ve L) {t e : TypeId} (ht : P.underlying t = some (.map K e)) (ty : TypeId) :
    (Builtin.len_ #[t] ty #[.map (some r)]).run P w = .ok (.int .i64 L.length) w := by
  obtain ⟨es, clock, hb, he, _⟩ := h
  have hlen : es.size = L.length := by simpa using congrArg List.length he
  simp [Builtin.len_, run_underlying ht, MapKept.run_getObj_map hb, Result.andThen, goInt, hlen]
end

/-- a lookup with ok, at the operation -/
theorem wpList_lookup_is {α β : Type} [DecidableEq α] {ke : α → Value} {ve : β → Value} {P : Program} {K : TypeId} (kk : KeyOk P K ke) {w : World} {ops : Array Oper} {rest : List Oper} {o : Oper} {a : Act} {Q : Exit → Act → World → Prop}
    {m x : Operand} {t e : TypeId} (ht : P.underlying t = some (.map K e)) (z : Value) (hz : ∀ w, (zeroValue e).run P w = .ok z w) {r : Nat} {L : List (α × β)} (hM : MapIs w r ke ve L) (y : α) (V : Value) (hV : ((look y L).map ve).getD z = V) {bs : Bool} (hs : Hid ((look y L).isSome = bs))
    (hg : o.guard = none) (hop : o.op = Op.lookup t m x true) (hm : a.eval m = .map (some r)) (hx : a.eval x = ke y)
    (hK : wpList P ops Q rest (a.put o.dst (.tuple #[V, .bool bs])) w) :
    wpList P ops Q (o :: rest) a w := by
  refine wpList_plain hg fun K' hK' => ?_
  have hrun := hM.lookup_ok kk ht (hz w) y
  rw [hV, hs.out] at hrun
  unfold Oper.wp
  simp [execOp, hop, hm, hx, hrun, Result.andThen]
  exact hK' _ _ hK
abbrev e16 : Int → Value := fun x => .int .u16 x
abbrev eU : Unit → Value := fun _ => .agg #[]
abbrev eI : Int → Value := fun x => .int .i64 x
theorem look_unit {α : Type} [DecidableEq α] (y : α) (L : List (α × Unit)) : ((look y L).map eU).getD (.agg #[]) = .agg #[] := by cases look y L <;> rfl
theorem look_int {α : Type} [DecidableEq α] (y : α) (L : List (α × Int)) : ((look y L).map eI).getD (.int .i64 0) = .int .i64 ((look y L).getD 0) := by cases look y L <;> rfl
theorem wpList_mapUpdate_is {α β : Type} [DecidableEq α] {ke : α → Value} {ve : β → Value} {P : Program} {K : TypeId} (kk : KeyOk P K ke) {w : World} {ops : Array Oper} {rest : List Oper} {o : Oper} {a : Act} {Q : Exit → Act → World → Prop}
    {m x v : Operand} {t e : TypeId} (ht : P.underlying t = some (.map K e)) {r : Nat} {L : List (α × β)} (hM : MapIs w r ke ve L) (y : α) (u : β)
    (hg : o.guard = none) (hop : o.op = Op.mapUpdate t m x v) (hm : a.eval m = .map (some r)) (hx : a.eval x = ke y) (hv : a.eval v = ve u)
    (hK : ∀ w', MapIs w' r ke ve (ins y u L) → But r w w' → wpList P ops Q rest (a.put o.dst undef) w') :
    wpList P ops Q (o :: rest) a w := by
  refine wpList_plain hg fun K' hK' => ?_
  obtain ⟨w', hrun, r1, r2⟩ := hM.update kk ht y u
  unfold Oper.wp
  simp [execOp, hop, hm, hx, hv, hrun, Result.andThen]
  exact hK' _ _ (hK w' r1 r2)

/-! ### the two key types -/
theorem key16 (K : TypeId) (hK : Tryz.prog.underlying K = some (.int .u16)) : KeyOk Tryz.prog K (fun (x : Int) => Value.int .u16 x) where
  find := by
    intro x L es w h
    simp only [findKey, Sem.run_bind, run_underlying hK, Result.andThen]
    have : ∀ (es : List MapEntry) (L : List (Int × Value)) (i : Nat), es.map (fun e => (e.key, e.val)) = L.map (fun p => (Value.int .u16 p.1, p.2)) → findNow (.int .u16) (.int .u16 x) es i = some (lookI x L i) := by
      intro es
      induction es with
      | nil => intro L i h; cases L with | nil => rfl | cons _ _ => simp at h
      | cons e es ih =>
        intro L i h
        cases L with
        | nil => simp at h
        | cons p L =>
          simp only [List.map_cons, List.cons.injEq, Prod.mk.injEq] at h
          obtain ⟨⟨h1, h2⟩, h3⟩ := h
          simp only [findNow, h1, sameNow, lookI, if_true]
          by_cases hx : x = p.1
          · simp [hx, h2]
          · have hb : (x == p.1) = false := by simpa using hx
            simp [hx, hb, ih L (i + 1) h3]
    rw [this es L 0 h]
    simp
  check := by intro b x w; exact run_checkKey (n := 9999) hK (by simp [IsKey]) b
  same := by intro x; simp [sameBits]
theorem key16_116 : KeyOk Tryz.prog 43 (fun (x : Int) => Value.int .u16 x) := key16 43 Tryz.underlying43
abbrev pidV (p : Pid) : Value := .agg #[.int .u16 p.1, .int .u32 p.2]
theorem equal_pid (a b c d : Int) (w : World) : (Op.equal 46 (.agg #[.int .u16 a, .int .u32 b]) (.agg #[.int .u16 c, .int .u32 d])).run Tryz.prog w = .ok (decide ((a, b) = (c, d))) w := by
  have hS : Tryz.prog.underlying 46 = some (.struct (Tryz.prog.fieldsOf 46)) := by kernel_rfl
  have hp : Tryz.prog.stoodInHeld 46 = false := by kernel_rfl
  unfold Op.equal Op.maxDepth
  rw [show (10000 : Nat) = 9999 + 1 from rfl, run_equalIn_agg w 9999 46 _ _ hS hp]
  simp only [Program.fieldsOf, Tryz.underlying46]
  go_simp
  by_cases h1 : a = c <;> by_cases h2 : b = d <;> simp [h1, h2]
theorem keyPid : KeyOk Tryz.prog 46 pidV where
  find := by
    intro x L es w h
    cases es with
    | nil =>
      cases L with
      | nil => simp [findKey, run_underlying Tryz.underlying46, Result.andThen, findNow, lookI]
      | cons _ _ => simp at h
    | cons e es =>
      have hn : ∀ d, findNow (.struct d) (pidV x) (e :: es) 0 = none := by intro d; simp [findNow, sameNow]
      simp only [findKey, Sem.run_bind, run_underlying Tryz.underlying46, Result.andThen, hn]
      generalize e :: es = es' at h
      have : ∀ (es : List MapEntry) (L : List (Pid × Value)) (i : Nat), es.map (fun e => (e.key, e.val)) = L.map (fun p => (pidV p.1, p.2)) → (findAsking 46 (pidV x) es i).run Tryz.prog w = .ok (lookI x L i) w := by
        intro es
        induction es with
        | nil => intro L i h; cases L with | nil => simp [findAsking, lookI] | cons _ _ => simp at h
        | cons e es ih =>
          intro L i h
          cases L with
          | nil => simp at h
          | cons p L =>
            simp only [List.map_cons, List.cons.injEq, Prod.mk.injEq] at h
            obtain ⟨⟨h1, h2⟩, h3⟩ := h
            have he := equal_pid x.1 x.2 p.1.1 p.1.2 w
            simp only [findAsking, h1, Sem.run_bind, he, Result.andThen, lookI]
            by_cases hx : x = p.1
            · simp [hx, h2]
            · simp [hx, ih L (i + 1) h3]
      exact this es' L 0 h
  check := by
    intro b x w
    kernel_rfl
  same := by intro x; simp [sameBits]
theorem zero106 (w : World) : (zeroValue 263).run Tryz.prog w = .ok (.agg #[]) w := by kernel_rfl
theorem zero3 (w : World) : (zeroValue 3).run Tryz.prog w = .ok (.int .i64 0) w := by kernel_rfl
end Go.Proofs.YtehagnbphamjhaaGreatDoor

namespace Go.Proofs.YtehagnbphamjhaaGreatDoor
open Go.RowKit

def mayB (p : Pid) : Bool := decide (p.1 < 16) && (p.2 != 0)
theorem may_any (x y : Int) (w : World) : Calls Tryz.prog 187 #[.agg #[.int .u16 x, .int .u32 y]] w fun e w' => e = .returned (.bool (mayB (x, y))) ∧ Below w.heap.size w w' := by
  have hB : Below w.heap.size w (w.alloc (.cells #[.int .u16 x, .int .u32 y] 46)) := (Below.refl _ _).alloc (Nat.le_refl _) _
  by_cases h1 : x < 16
  · have h1' : decide (x < 16) = true := by simpa using h1
    go_enter Tryz.func187, Tryz.ntmps187
    go_wp2
    go_ret
    exact ⟨ret_bool (by simp [mayB, h1]), hB⟩
  · have h1' : decide (x < 16) = false := by simpa using h1
    go_enter Tryz.func187, Tryz.ntmps187
    go_wp2
    go_ret
    exact ⟨ret_bool (by unfold mayB; rw [show decide ((x, y).1 < 16) = false from h1']; rfl), hB⟩

theorem may_is {x y : Int} {w : World} {bm : Bool} (h : Hid (mayB (x, y) = bm)) : Calls Tryz.prog 187 #[.agg #[.int .u16 x, .int .u32 y]] w fun e w' => e = .returned (.bool bm) ∧ Below w.heap.size w w' := by
  have := may_any x y w
  rw [h.out] at this
  exact this

def memFrom (n : Nat) : List (Int × Unit) → List Pid → Bool
  | _, [] => decide (0 < n) && decide (n ≤ 24)
  | S, p :: l => if (look p.1 S).isSome = true then false else if mayB p then memFrom n (ins p.1 () S) l else false
def membersB (xs : List Pid) : Bool := memFrom xs.length [] xs
end Go.Proofs.YtehagnbphamjhaaGreatDoor

namespace Go.Proofs.YtehagnbphamjhaaGreatDoor
open Go.RowKit

/-- the members' ranks, as a map: in insertion order -/
def ranksFrom : List (Pid × Int) → List Pid → Nat → List (Pid × Int)
  | S, [], _ => S
  | S, p :: l, k => ranksFrom (if (look p S).isSome = true then S else ins p (k : Int) S) l (k + 1)
def ranksL (xs : List Pid) : List (Pid × Int) := ranksFrom [] xs 0
/-- risingFrom: the rest of 'rising' -/
def risFrom (S : List (Pid × Int)) : Int → List Pid → Bool
  | _, [] => true
  | last, p :: l => match look p S with
    | none => false
    | some k => if k ≤ last then false else risFrom S k l
end Go.Proofs.YtehagnbphamjhaaGreatDoor

namespace Go.Proofs.YtehagnbphamjhaaGreatDoor
open Go.RowKit

/-- the set behind a pointer: its box at block s holds the map in block r -/
structure SetIs (w : World) (s r : Nat) (L : List (Pid × Unit)) : Prop where
  box : w.cell? ⟨s, 0, none⟩ = some (.map (some r))
  map : MapIs w r pidV eU L
theorem SetIs.lt {w : World} {s r : Nat} {L : List (Pid × Unit)} (h : SetIs w s r L) : s < w.heap.size := World.block_lt_of_cell? w _ h.box
theorem SetIs.ext {w w' : World} {s r : Nat} {L : List (Pid × Unit)} (h : SetIs w s r L) (hb : Below w.heap.size w w') : SetIs w' s r L :=
  ⟨by rw [hb.cell (by exact h.lt)]; exact h.box, h.map.ext hb⟩
theorem SetIs.alloc {w : World} {s r : Nat} {L : List (Pid × Unit)} (h : SetIs w s r L) (o : Obj) : SetIs (w.alloc o) s r L := h.ext ((Below.refl _ _).alloc (Nat.le_refl _) _)
theorem SetIs.drew {w : World} {s r : Nat} {L : List (Pid × Unit)} (h : SetIs w s r L) : SetIs w.drew s r L := h.ext (Below.refl _ _).drew

set_option maxHeartbeats 800000 in
set_option maxRecDepth 100000 in
theorem has_any (s r : Nat) (L : List (Pid × Unit)) (x y : Int) (bs : Bool) (w : World) (hS : SetIs w s r L) (hl : Hid ((look (x, y) L).isSome = bs)) :
   Calls Tryz.prog 266 #[.pointer (some ⟨s, 0, none⟩), .agg #[.int .u16 x, .int .u32 y]] w fun e w' => e = .returned (.bool bs) ∧ Below w.heap.size w w' := by
  have hlk : ∀ W, SetIs W s r L → (Instr.lookup 262 (.map (some r)) (.agg #[.int .u16 x, .int .u32 y]) true).run Tryz.prog W = .ok (.tuple #[.agg #[], .bool bs]) W := fun W h => by
    have := h.map.lookup_ok keyPid Tryz.underlying262 (zero106 W) (x, y)
    rw [look_unit, hl.out] at this
    exact this
  have hbx : ∀ W, SetIs W s r L → W.cell? ⟨s, 0, none⟩ = some (.map (some r)) := fun W h => h.box
  have hS1 := hS.alloc (.cells #[.int .u16 x, .int .u32 y] 46)
  have hb1 : Below w.heap.size w (w.alloc (.cells #[.int .u16 x, .int .u32 y] 46)) := (Below.refl _ _).alloc (Nat.le_refl _) _
  go_enter Tryz.func266, Tryz.ntmps266
  go_wp2
  go_region_held3 (fun W => SetIs W s r L ∧ W.cell? ⟨w.heap.size, 0, none⟩ = some (.int .u16 x) ∧ W.cell? ⟨w.heap.size, 1, none⟩ = some (.int .u32 y)) (first | exact ⟨hS1.drew, by simp, by simp⟩ | exact ⟨(hS1.alloc _).drew, by simp, by simp⟩) (fail)
  all_goals go_wp2
  all_goals go_ret
  all_goals exact ⟨rfl, (hb1.alloc hb1.size _).drew⟩

/-- w' is w, grown, but for the blocks of F -/
structure Mut (F : Nat → Prop) (w w' : World) : Prop where
  os : w'.os = w.os
  tape : w'.tape = w.tape
  output : w'.output = w.output
  size : w.heap.size ≤ w'.heap.size
  block : ∀ k, k < w.heap.size → ¬ F k → w'.heap[k]? = w.heap[k]?
theorem Mut.refl (F : Nat → Prop) (w : World) : Mut F w w := ⟨rfl, rfl, rfl, Nat.le_refl _, fun _ _ _ => rfl⟩
theorem Mut.trans {F : Nat → Prop} {a b c : World} (h : Mut F a b) (k : Mut F b c) : Mut F a c :=
  ⟨k.os.trans h.os, k.tape.trans h.tape, k.output.trans h.output, Nat.le_trans h.size k.size, fun i hi hf => (k.block i (Nat.lt_of_lt_of_le hi h.size) hf).trans (h.block i hi hf)⟩
theorem Mut.of_below {F : Nat → Prop} {w w' : World} (h : Below w.heap.size w w') : Mut F w w' := ⟨h.os, h.tape, h.output, h.size, fun k hk _ => h.block k hk⟩
theorem Mut.of_but {F : Nat → Prop} {r : Nat} {w w' : World} (h : But r w w') (hr : F r) : Mut F w w' :=
  ⟨h.os, h.tape, h.output, by rw [h.size]; exact Nat.le_refl _, fun k _ hf => h.block k (fun e => hf (e ▸ hr))⟩
theorem Mut.mono {F G : Nat → Prop} {w w' : World} (h : Mut F w w') (hFG : ∀ k, k < w.heap.size → F k → G k) : Mut G w w' :=
  ⟨h.os, h.tape, h.output, h.size, fun k hk hg => h.block k hk (fun hf => hg (hFG k hk hf))⟩
theorem Mut.below {F : Nat → Prop} {w w' : World} (h : Mut F w w') {B : Nat} (hB : B ≤ w.heap.size) (hF : ∀ k, F k → B ≤ k) : Below B w w' :=
  ⟨h.os, h.tape, h.output, h.size, fun k hk => h.block k (by omega) (fun hf => by have := hF k hf; omega)⟩
theorem Mut.cell {F : Nat → Prop} {w w' : World} (h : Mut F w w') {p : Addr} (hp : p.block < w.heap.size) (hf : ¬ F p.block) : w'.cell? p = w.cell? p := World.cell?_of_block (w := w) (h.block p.block hp hf)

/-- a process into a set -/
def add1 (p : Pid) (L : List (Pid × Unit)) : List (Pid × Unit) := if (look p L).isSome = true then L else ins p () L

set_option maxHeartbeats 800000 in
set_option maxRecDepth 100000 in
theorem add_any (s r : Nat) (L : List (Pid × Unit)) (x y : Int) (w : World) (hS : SetIs w s r L) :
   Calls Tryz.prog 258 #[.pointer (some ⟨s, 0, none⟩), .agg #[.int .u16 x, .int .u32 y]] w fun e w' => e = .returned (.bool (!(look (x, y) L).isSome)) ∧ SetIs w' s r (add1 (x, y) L) ∧ Mut (fun k => k = r) w w' := by
  have hS1 := hS.alloc (.cells #[.int .u16 x, .int .u32 y] 46)
  have hb1 : Below w.heap.size w (w.alloc (.cells #[.int .u16 x, .int .u32 y] 46)) := (Below.refl _ _).alloc (Nat.le_refl _) _
  have hsr : s ≠ r := fun e => by
    have h1 := hS.box
    obtain ⟨es, cl, h2, _⟩ := hS.map
    subst e
    simp [World.cell?, h2] at h1
  cases hs : (look (x, y) L).isSome
  · have HS := hid hs
    clear hs
    go_enter Tryz.func258, Tryz.ntmps258
    go_wp2_with (go_at_call 266; refine (has_any _ _ _ _ _ _ _ hS1 HS).mono ?_; rintro e w1 ⟨rfl, hb2⟩; obtain ⟨hc1, hf1⟩ := bcell hb2)
    have hb12 := hb1.trans (hb2.mono hb1.size)
    have hz := hb2.size
    simp at hz
    have hS2 := hS1.ext hb2
    obtain ⟨w2, hrun, hM2, hbut⟩ := hS2.drew.map.update keyPid Tryz.underlying262 (x, y) ()
    have hrlt := hS.map.lt
    have c0 : w2.cell? ⟨s, 0, none⟩ = some (.map (some r)) := (hbut.cell (by exact hsr)).trans hS2.drew.box
    have e0 : w1.drew.cell? ⟨w.heap.size, 0, none⟩ = some (.int .u16 x) := by simp [hc1]
    have e1 : w1.drew.cell? ⟨w.heap.size, 1, none⟩ = some (.int .u32 y) := by simp [hc1]
    have c1 : w2.cell? ⟨w.heap.size, 0, none⟩ = some (.int .u16 x) := (hbut.cell (by simp; omega)).trans e0
    have c2 : w2.cell? ⟨w.heap.size, 1, none⟩ = some (.int .u32 y) := (hbut.cell (by simp; omega)).trans e1
    go_region_held3 (fun W => W.cell? ⟨s, 0, none⟩ = some (.map (some r)) ∧ W.cell? ⟨w.heap.size, 0, none⟩ = some (.int .u16 x) ∧ W.cell? ⟨w.heap.size, 1, none⟩ = some (.int .u32 y)) (first | exact ⟨hS2.drew.box, e0, e1⟩ | exact ⟨c0, c1, c2⟩) (fail)
    go_wp2
    go_ret
    exact ⟨rfl, ⟨c0, by unfold add1; rw [HS.out]; exact hM2⟩, (Mut.of_below hb12.drew).trans (Mut.of_but hbut rfl)⟩
  · have HS := hid hs
    clear hs
    go_enter Tryz.func258, Tryz.ntmps258
    go_wp2_with (go_at_call 266; refine (has_any _ _ _ _ _ _ _ hS1 HS).mono ?_; rintro e w1 ⟨rfl, hb2⟩; obtain ⟨hc1, hf1⟩ := bcell hb2)
    go_ret
    exact ⟨rfl, by unfold add1; rw [HS.out]; exact hS1.ext hb2, Mut.of_below (hb1.trans (hb2.mono hb1.size))⟩

theorem add_is (s r : Nat) (L : List (Pid × Unit)) (x y : Int) {bs : Bool} (h : (look (x, y) L).isSome = bs) (w : World) (hS : SetIs w s r L) :
   Calls Tryz.prog 258 #[.pointer (some ⟨s, 0, none⟩), .agg #[.int .u16 x, .int .u32 y]] w fun e w' => e = .returned (.bool (!bs)) ∧ SetIs w' s r (add1 (x, y) L) ∧ Mut (fun k => k = r) w w' := by
  have := add_any s r L x y w hS
  rw [h] at this
  exact this
theorem len_any (s r : Nat) (L : List (Pid × Unit)) (w : World) (hS : SetIs w s r L) :
   Calls Tryz.prog 259 #[.pointer (some ⟨s, 0, none⟩)] w fun e w' => e = .returned (.int .i64 L.length) ∧ w = w' := by
  have h0 := hS.box
  have hl := hS.map.len Tryz.underlying262 3
  go_enter Tryz.func259, Tryz.ntmps259
  go_wp2
  go_ret
  exact ⟨rfl, rfl⟩

/-- what a set holds after Union -/
def unionL : List (Pid × Unit) → List Pid → List (Pid × Unit)
  | L, [] => L
  | L, p :: l => unionL (add1 p L) l
/-- how many Union takes in -/
def unionN : List (Pid × Unit) → List Pid → Nat
  | _, [] => 0
  | L, p :: l => (if (look p L).isSome = true then 0 else 1) + unionN (add1 p L) l
theorem unionL_drop {L : List (Pid × Unit)} {xs : List Pid} {k : Nat} (h : k < xs.length) {x y : Int} (hx : (x, y) = xs[k]) : unionL L (xs.drop k) = unionL (add1 (x, y) L) (xs.drop (k + 1)) := by
  rw [List.drop_eq_getElem_cons h, ← hx]; rfl
theorem unionN_drop {L : List (Pid × Unit)} {xs : List Pid} {k : Nat} (h : k < xs.length) {x y : Int} (hx : (x, y) = xs[k]) : unionN L (xs.drop k) = (if (look (x, y) L).isSome = true then 0 else 1) + unionN (add1 (x, y) L) (xs.drop (k + 1)) := by
  rw [List.drop_eq_getElem_cons h, ← hx]; rfl
theorem PidRow.mut {F : Nat → Prop} {w w' : World} {a : Option Addr} {xs : List Pid} (h : PidRow w a xs) (hm : Mut F w w') (hF : ∀ b off, a = some ⟨b, off, none⟩ → 0 < xs.length → ¬ F b) : PidRow w' a xs := by
  rcases h with rfl | ⟨b, off, rfl, hlt, hc⟩
  · exact .inl rfl
  · by_cases h0 : 0 < xs.length
    · refine .inr ⟨b, off, rfl, by have := hm.size; omega, fun i hi => ?_⟩
      have := hF b off rfl h0
      rw [hm.cell (by exact hlt) (by exact this), hm.cell (by exact hlt) (by exact this)]
      exact hc i hi
    · exact .inl (List.length_eq_zero_iff.1 (by omega))
/-- a row of cells is no map -/
theorem PidRow.ne_map {w : World} {a : Option Addr} {xs : List Pid} (h : PidRow w a xs) {r : Nat} {es : Array MapEntry} {cl : Nat} (hr : w.heap[r]? = some (.map es cl)) {b off : Nat} (ha : a = some ⟨b, off, none⟩) (h0 : 0 < xs.length) : b ≠ r := by
  obtain ⟨b', off', rfl, _, hc⟩ := h.get h0
  cases ha
  intro e
  subst e
  have := (hc 0 h0).1
  simp [World.cell?, hr] at this
theorem PidRow.mutMap {w w' : World} {a : Option Addr} {xs : List Pid} (h : PidRow w a xs) {r : Nat} (hm : Mut (fun k => k = r) w w') {α β : Type} {ke : α → Value} {ve : β → Value} {L : List (α × β)} (hr : MapIs w r ke ve L) : PidRow w' a xs := by
  obtain ⟨es, cl, h2, _⟩ := hr
  exact h.mut hm fun b off ha h0 => h.ne_map h2 ha h0

set_option maxHeartbeats 800000 in
set_option maxRecDepth 100000 in
theorem union_any (s r : Nat) (L : List (Pid × Unit)) (a : Option Addr) (c : Nat) (xs : List Pid) (w : World) (hn : xs.length ≤ 70368744177664) (hrow : PidRow w a xs) (hS : SetIs w s r L) :
   Calls Tryz.prog 195 #[.pointer (some ⟨s, 0, none⟩), .slice a xs.length c] w fun e w' => e = .returned (.int .i64 (unionN L xs)) ∧ SetIs w' s r (unionL L xs) ∧ Mut (fun k => k = r) w w' := by
  go_enter Tryz.func195, Tryz.ntmps195
  go_wp2
  go_loopw [5, 10] (fun n i wr => ∃ (k : Nat) (Lk : List (Pid × Unit)) (m : Nat), k ≤ xs.length ∧ i = .int .i64 k ∧ n = .int .i64 m ∧ m ≤ k ∧ Hid (unionL L xs = unionL Lk (xs.drop k)) ∧ Hid (unionN L xs = m + unionN Lk (xs.drop k)) ∧ SetIs wr s r Lk ∧ Mut (fun k => k = r) w wr) (fun _ i _ => xs.length - (intOf i).toNat)
  case atStart => exact ⟨0, L, 0, Nat.zero_le _, rfl, rfl, Nat.le_refl _, rfl, (show unionN L xs = 0 + unionN L xs by omega), hS, Mut.refl _ _⟩
  case round =>
    obtain ⟨k, Lk, m, hk, rfl, rfl, hmk, hL, hN, hSk, hmut⟩ := hrel
    by_cases hlt : k < xs.length
    · obtain ⟨b, off, x, y, rfl, hx, d1, d2⟩ := (hrow.mutMap hmut hS.map).at (Below.refl _ _) rfl hlt
      have hL1 := unionL_drop (L := Lk) hlt hx
      have hN1 := unionN_drop (L := Lk) hlt hx
      have HL1 := hid hL1
      have HN1 := hid hN1
      clear hx hrow hL1 hN1
      have hB1 : Mut (fun k => k = r) w (wr.alloc (.cells #[.int .u16 x, .int .u32 y] 46)) := hmut.trans (Mut.of_below ((Below.refl _ _).alloc (Nat.le_refl _) _))
      cases hs : (look (x, y) Lk).isSome
      · have HS := hid hs
        clear hs
        go_wp2_with (go_at_call 258; refine (add_is _ _ _ _ _ HS.out _ (hSk.alloc _)).mono ?_; rintro e w1 ⟨rfl, hS1, hm1⟩)
        go_roundw
        case rel => exact ⟨k + 1, _, m + 1, by omega, by go_num, by go_num, by omega, hL.out.trans HL1.out, hN.out.trans (by rw [HN1.out, HS.out]; simp; omega), hS1, hB1.trans hm1⟩
        case measure => simp [intOf]; omega
      · have HS := hid hs
        clear hs
        go_wp2_with (go_at_call 258; refine (add_is _ _ _ _ _ HS.out _ (hSk.alloc _)).mono ?_; rintro e w1 ⟨rfl, hS1, hm1⟩)
        go_roundw
        case rel => exact ⟨k + 1, _, m, by omega, by go_num, rfl, by omega, hL.out.trans HL1.out, hN.out.trans (by rw [HN1.out, HS.out]; simp), hS1, hB1.trans hm1⟩
        case measure => simp [intOf]; omega
    · go_wp2
      go_ret
      exact ⟨ret_int (by rw [hN.out, List.drop_eq_nil_of_le (by omega)]; simp [unionN]), by rw [hL.out, List.drop_eq_nil_of_le (by omega)]; exact hSk, hmut⟩

set_option maxHeartbeats 800000 in
theorem new_any (a : Option Addr) (c : Nat) (xs : List Pid) (w : World) (hn : xs.length ≤ 70368744177664) (hrow : PidRow w a xs) :
   Calls Tryz.prog 142 #[.slice a xs.length c] w fun e w' => ∃ s r, e = .returned (.pointer (some ⟨s, 0, none⟩)) ∧ w.heap.size ≤ s ∧ w.heap.size ≤ r ∧ SetIs w' s r (unionL [] xs) ∧ Below w.heap.size w w' := by
  have hmm := @run_makeMap Tryz.prog
  have hB : Below w.heap.size w ((w.alloc (.map #[] 0)).alloc (.cells #[.map (some w.heap.size)] 294)) := ((Below.refl _ _).alloc (Nat.le_refl _) _).alloc (by simp) _
  have hS : SetIs ((w.alloc (.map #[] 0)).alloc (.cells #[.map (some w.heap.size)] 294)) (w.heap.size + 1) w.heap.size [] := ⟨by simp, (MapIs.made _).alloc _⟩
  go_enter Tryz.func142, Tryz.ntmps142
  go_wp2_with (go_at_call 195; refine (union_any _ _ _ _ _ _ _ hn (hrow.ext hB) hS).mono ?_; rintro e w1 ⟨rfl, hS1, hm1⟩)
  go_ret
  exact ⟨_, _, rfl, by omega, Nat.le_refl _, hS1, hB.trans (hm1.below (by simp; omega) (fun k hk => by omega))⟩
end Go.Proofs.YtehagnbphamjhaaGreatDoor

namespace Go.Proofs.YtehagnbphamjhaaGreatDoor
open Go.RowKit

theorem info36 : (Tryz.prog.info? 46).map (fun i => (i.zero, i.size, i.bytes)) = some (some (.agg #[.int .u16 0, .int .u32 0]), 2, 8) := by kernel_rfl

def pidCells (xs : List Pid) : List Value := xs.flatMap fun p => [.int .u16 p.1, .int .u32 p.2]
theorem pidCells_length : ∀ (xs : List Pid), (pidCells xs).length = xs.length * 2
  | [] => rfl
  | p :: l => by
    have := pidCells_length l
    unfold pidCells at this ⊢
    simp only [List.flatMap_cons, List.length_append, List.length_cons, List.length_nil, this]
    omega
theorem pidCells_append (xs ys : List Pid) : pidCells (xs ++ ys) = pidCells xs ++ pidCells ys := by simp [pidCells]
theorem pidCells_get : ∀ (xs : List Pid) (i : Nat) (h : i < xs.length), (pidCells xs)[i * 2]? = some (.int .u16 xs[i].1) ∧ (pidCells xs)[i * 2 + 1]? = some (.int .u32 xs[i].2)
  | p :: l, 0, _ => by simp [pidCells]
  | p :: l, i + 1, h => by
    have := pidCells_get l i (by simpa using h)
    have e : pidCells (p :: l) = [.int .u16 p.1, .int .u32 p.2] ++ pidCells l := by simp [pidCells]
    rw [e, show (i + 1) * 2 = i * 2 + 2 by omega]
    constructor
    · rw [List.getElem?_append_right (by simp)]
      simpa using this.1
    · rw [List.getElem?_append_right (by simp)]
      simpa using this.2
theorem pidCells_one (xs : List Pid) : ∀ u ∈ pidCells xs, u.oneCell' = true := by
  intro u hu
  obtain ⟨p, _, hp⟩ := List.mem_flatMap.1 hu
  simp at hp
  rcases hp with rfl | rfl <;> rfl
theorem addr_add (b off n : Nat) : (⟨b, off, none⟩ : Addr).add n = ⟨b, off + n, none⟩ := by
  unfold Addr.add; split <;> simp_all
/-- the cells of a row, one by one -/
theorem PidRow.cells {w : World} {b off : Nat} {xs : List Pid} (hc : ∀ i (h : i < xs.length), w.cell? ⟨b, off + i * 2, none⟩ = some (.int .u16 xs[i].1) ∧ w.cell? ⟨b, off + i * 2 + 1, none⟩ = some (.int .u32 xs[i].2)) :
    ∀ j u, (pidCells xs)[j]? = some u → w.cell? ((⟨b, off, none⟩ : Addr).add j) = some u := by
  intro j u hu
  have hj : j < (pidCells xs).length := (List.getElem?_eq_some_iff.1 hu).1
  rw [pidCells_length] at hj
  rw [addr_add]
  have hi : j / 2 < xs.length := by omega
  obtain ⟨h1, h2⟩ := hc (j / 2) hi
  obtain ⟨g1, g2⟩ := pidCells_get xs (j / 2) hi
  rcases Nat.mod_two_eq_zero_or_one j with hm | hm
  · have e : j / 2 * 2 = j := by omega
    rw [e] at h1 g1
    rw [h1, ← g1, hu]
  · have e : j / 2 * 2 + 1 = j := by omega
    rw [e] at g2
    rw [show off + j = off + j / 2 * 2 + 1 by omega, h2, ← g2, hu]

/-- a slice value that owns a row of processes, from block base on -/
def OwnP (w : World) (base : Nat) (v : Value) (xs : List Pid) : Prop := w.ownsRow base 46 2 v xs.length (pidCells xs)
theorem OwnP.nil (w : World) (base : Nat) : OwnP w base (.slice none 0 0) [] := World.ownsRow_nil _ _ _ _
theorem OwnP.row {w : World} {base : Nat} {v : Value} {xs : List Pid} (h : OwnP w base v xs) : ∃ a c, v = .slice a xs.length c ∧ PidRow w a xs ∧ ∀ b off, a = some ⟨b, off, none⟩ → base ≤ b := by
  have hcells := fun g => World.ownsRow.cells (g := g) h
  rcases h.2 with ⟨rfl, hn⟩ | ⟨g, cap, cur, rfl, hb, hg, hnc, hcm, hcs, htake⟩
  · exact ⟨none, 0, by rw [hn], .inl (List.length_eq_zero_iff.1 hn), by simp⟩
  · refine ⟨_, cap, rfl, .inr ⟨g, 0, rfl, (Array.getElem?_eq_some_iff.1 hg).1, fun i hi => ?_⟩, fun b off e => by cases e; exact hb⟩
    obtain ⟨g1, g2⟩ := pidCells_get xs i hi
    have h1 := hcells g rfl _ _ g1
    have h2 := hcells g rfl _ _ g2
    rw [addr_add] at h1 h2
    exact ⟨h1, h2⟩
theorem OwnP.ext {w w' : World} {base : Nat} {v : Value} {xs : List Pid} (h : OwnP w base v xs) (hb : Below w.heap.size w w') : OwnP w' base v xs := by
  refine ⟨h.1, ?_⟩
  rcases h.2 with hn | ⟨g, cap, cur, rfl, hbb, hgg, rest⟩
  · exact .inl hn
  · exact .inr ⟨g, cap, cur, rfl, hbb, (hb.block g (Array.getElem?_eq_some_iff.1 hgg).1).trans hgg, rest⟩

theorem run_appendP {w : World} {base : Nat} {v : Value} {xs ys : List Pid} (hown : OwnP w base v xs) {a : Option Addr} {c : Nat} (hy : PidRow w a ys) (hlen : xs.length + ys.length ≤ 1099511627776) (hbase : base ≤ w.heap.size) (ty : TypeId) :
    ∃ v' w', (Builtin.append_ #[51, 51] ty #[v, .slice a ys.length c]).run Tryz.prog w = .ok v' w' ∧ OwnP w' base v' (xs ++ ys) ∧ w.grownBy w' v.ownBlock ∧ (v' = .slice none 0 0 ↔ v = .slice none 0 0 ∧ ys = []) := by
  obtain ⟨i0, hi, hz0, hz1, hz2⟩ := info_parts info36
  rcases hy with rfl | ⟨b, off, rfl, hlt, hc⟩
  · refine ⟨v, w, ?_, by simpa using hown, ⟨rfl, rfl, rfl, Nat.le_refl _, fun _ _ _ => rfl⟩, by simp⟩
    rcases hown.2 with ⟨rfl, hn⟩ | ⟨g, cap, cur, rfl, hb, hg, hnc, hcm, hcs, htake⟩
    · cases a <;> simp [Builtin.append_, run_underlying Tryz.underlying51, sizeOf, typeInfo, hi, Builtin.lenOf, Builtin.firstCells, loadCells, loadCellsFrom]
    · cases a <;> simp [Builtin.append_, run_underlying Tryz.underlying51, sizeOf, typeInfo, hi, Builtin.lenOf, Builtin.firstCells, loadCells, loadCellsFrom, hnc, storeCells]
  · obtain ⟨v', w', hr, h2, h3, h4⟩ := run_append_own (P := Tryz.prog) w base 51 ty 46 i0 _ 2 8 Tryz.underlying51 hi hz0 hz1 hz2 rfl (by decide) v xs.length (pidCells xs) hown ⟨b, off, none⟩ ys.length c (pidCells ys) (pidCells_length ys) (PidRow.cells hc) (pidCells_one ys) (by unfold maxLen; omega) (by omega) hbase
    refine ⟨v', w', hr, ?_, h3, ?_⟩
    · unfold OwnP; rw [List.length_append, pidCells_append]; exact h2
    · rw [h4, List.length_eq_zero_iff]

/-- 'append(out, ys...)' at the operation -/
theorem wpList_appendP {w : World} {ops : Array Oper} {rest : List Oper} {o : Oper} {a : Act} {Q : Exit → Act → World → Prop} {s x : Operand} {base : Nat} {v : Value} {xs ys : List Pid} (hown : OwnP w base v xs) {ad : Option Addr} {c : Nat} (hy : PidRow w ad ys)
    (hlen : xs.length + ys.length ≤ 1099511627776) (hbase : base ≤ w.heap.size)
    (hg : o.guard = none) (ho : o.op = .call { callee := .builtin .append, args := #[s, x], argTypes := #[51, 51] }) (hs : a.eval s = v) (hx : a.eval x = .slice ad ys.length c)
    (h : ∀ v' w', OwnP w' base v' (xs ++ ys) → w.grownBy w' v.ownBlock → (v' = .slice none 0 0 ↔ v = .slice none 0 0 ∧ ys = []) → wpList Tryz.prog ops Q rest (a.put o.dst v') w') : wpList Tryz.prog ops Q (o :: rest) a w := by
  obtain ⟨v', w', hr, h2, h3, h4⟩ := run_appendP hown (c := c) hy hlen hbase o.type
  exact Lib.wpList_append_run w hg s x 51 51 ho _ _ hs hx v' w' hr (h v' w' h2 h3 h4)

end Go.Proofs.YtehagnbphamjhaaGreatDoor

namespace Go.Proofs.YtehagnbphamjhaaGreatDoor
open Go.RowKit

/-- the lists' lengths, together -/
def lens (ls : List (List Pid)) : Nat := (ls.map List.length).sum
theorem lens_take_succ {ls : List (List Pid)} {k : Nat} (h : k < ls.length) : lens (ls.take (k + 1)) = lens (ls.take k) + ls[k].length := by
  unfold lens
  rw [List.take_succ_eq_append_getElem h, List.map_append, List.sum_append]
  simp only [List.map_cons, List.map_nil, List.sum_cons, List.sum_nil, Nat.add_zero]
theorem lens_take_le (ls : List (List Pid)) (k : Nat) : lens (ls.take k) ≤ lens ls := by
  unfold lens
  have h : ls = ls.take k ++ ls.drop k := (List.take_append_drop k ls).symm
  conv => rhs; rw [h]
  rw [List.map_append, List.sum_append]
  omega
theorem lens_take_all {ls : List (List Pid)} {k : Nat} (h : ls.length ≤ k) : lens (ls.take k) = lens ls := by rw [List.take_of_length_le h]
theorem flatten_take_succ {ls : List (List Pid)} {k : Nat} (h : k < ls.length) : (ls.take (k + 1)).flatten = (ls.take k).flatten ++ ls[k] := by
  rw [List.take_succ_eq_append_getElem h, List.flatten_append]; simp only [List.flatten_cons, List.flatten_nil, List.append_nil]
theorem lens_flatten (ls : List (List Pid)) : ls.flatten.length = lens ls := by unfold lens; rw [List.length_flatten]

end Go.Proofs.YtehagnbphamjhaaGreatDoor

namespace Go.Proofs.YtehagnbphamjhaaGreatDoor
open Go.RowKit

theorem PidRow.one (w : World) (x y : Int) : PidRow (w.alloc (.cells #[.int .u16 x, .int .u32 y] 46)) (some ⟨w.heap.size, 0, none⟩) [(x, y)] :=
  .inr ⟨_, 0, rfl, by simp, fun i hi => by
    have : i = 0 := by simpa using hi
    subst this
    exact ⟨by simp, by simp⟩⟩
theorem PidRow.drew {w : World} {a : Option Addr} {xs : List Pid} (h : PidRow w a xs) : PidRow w.drew a xs := h.ext (Below.refl _ _).drew

def chkFrom (S : List (Pid × Int)) (K : List Pid → Nat → Bool) : List Pid → Nat → List (List Pid) → Bool
  | F, n, [] => K F n
  | F, n, l :: r => match l with
    | [] => false
    | p :: _ => if risFrom S (-1) l then chkFrom S K (F ++ [p]) (n + l.length) r else false
def chkEnd (V : View) (F : List Pid) (n : Nat) : Bool :=
  decide (n = V.ms.length) && (decide ((unionL [] V.ls.flatten).length = n) && (risFrom (ranksL V.ms) (-1) F && (decide (V.ds ≠ []) && risFrom (ranksL V.ms) (-1) V.ds)))
/-- view.Check, as data -/
def checkB (V : View) : Bool :=
  decide (1 ≤ V.id) && (decide (V.id ≤ 4611686018427387904) && (membersB V.ms && chkFrom (ranksL V.ms) (chkEnd V) [] 0 V.ls))
theorem checkB_4 {V : View} (h1 : 1 ≤ V.id) (h2 : V.id ≤ 4611686018427387904) (h : membersB V.ms = true) : checkB V = chkFrom (ranksL V.ms) (chkEnd V) [] 0 V.ls := by
  unfold checkB; rw [decide_eq_true h1, decide_eq_true h2, h, Bool.true_and, Bool.true_and, Bool.true_and]
abbrev viewV (V : View) (am al ad : Option Addr) (cm cl cd : Nat) : Value := .agg #[.int .u64 V.id, .slice am V.ms.length cm, .slice al V.ls.length cl, .slice ad V.ds.length cd]
/-- a view in a box of its own -/
structure ViewBox (w : World) (b : Nat) (V : View) (am al ad : Option Addr) (cm cl cd : Nat) : Prop where
  c0 : w.cell? ⟨b, 0, none⟩ = some (.int .u64 V.id)
  c1 : w.cell? ⟨b, 1, none⟩ = some (.slice am V.ms.length cm)
  c2 : w.cell? ⟨b, 2, none⟩ = some (.slice al V.ls.length cl)
  c3 : w.cell? ⟨b, 3, none⟩ = some (.slice ad V.ds.length cd)
section
variable {w w' : World} {b : Nat} {V : View} {am al ad : Option Addr} {cm cl cd : Nat}
theorem ViewBox.lt (h : ViewBox w b V am al ad cm cl cd) : b < w.heap.size := World.block_lt_of_cell? w _ h.c0
theorem ViewBox.ext (h : ViewBox w b V am al ad cm cl cd) {B : Nat} (hb : Below B w w') (hB : b < B) : ViewBox w' b V am al ad cm cl cd :=
  ⟨by rw [hb.cell (by exact hB)]; exact h.c0, by rw [hb.cell (by exact hB)]; exact h.c1, by rw [hb.cell (by exact hB)]; exact h.c2, by rw [hb.cell (by exact hB)]; exact h.c3⟩
theorem ViewBox.made (w : World) : ViewBox (w.alloc (.cells #[.int .u64 V.id, .slice am V.ms.length cm, .slice al V.ls.length cl, .slice ad V.ds.length cd] 54)) w.heap.size V am al ad cm cl cd :=
  ⟨by simp, by simp, by simp, by simp⟩
end
theorem ViewR.of (w : World) {am al ad : Option Addr} {V : View} (h : ViewR w am al ad V) (o : Obj) : ViewR (w.alloc o) am al ad V := h.ext ((Below.refl _ _).alloc (Nat.le_refl _) _)

end Go.Proofs.YtehagnbphamjhaaGreatDoor

namespace Go.Proofs.YtehagnbphamjhaaGreatDoor
open Go.RowKit

/-- w, grown -/
structure ExtW (w : World) where
  W : World
  h : Below w.heap.size w W
instance extW_some (w : World) : Nonempty (ExtW w) := ⟨⟨w, Below.refl _ _⟩⟩
theorem wp_region_ext {P : Program} {w wr : World} {id : Nat} {Q : Exit → Act → World → Prop} {a : Act} {l : List Oper} (hb : Below w.heap.size w wr) (hm : P.follows .mixedOrders = true) (hB : Region.lexB .any l.toArray = true)
    (h : wpQuiet P l.toArray (fun w' => ∃ U : ExtW w, w' = U.W) (fun a' => ∀ w', (∃ U : ExtW w, w' = U.W) → Q .normal a' w') l a) : (Code.region id l.toArray true).wp P Q a wr :=
  wp_region_quiet (C := fun w' => ∃ U : ExtW w, w' = U.W) hm hB ⟨⟨wr.drew, hb.drew⟩, rfl⟩ (by simpa using h)
/-- cells of a row, in every later world -/
theorem PidRow.all {w : World} {b off : Nat} {xs : List Pid} (hrow : PidRow w (some ⟨b, off, none⟩) xs) {k : Nat} (hlt : k < xs.length) {x y : Int} (hx : (x, y) = xs[k]) :
    (∀ W, Below w.heap.size w W → W.cell? ⟨b, off + k * 2, none⟩ = some (.int .u16 x)) ∧ (∀ W, Below w.heap.size w W → W.cell? ⟨b, off + k * 2 + 1, none⟩ = some (.int .u32 y)) := by
  constructor <;> intro W h <;> obtain ⟨b', off', x', y', e, hx', h1, h2⟩ := hrow.at h rfl hlt <;> cases e <;> rw [← hx] at hx' <;> cases hx' <;> assumption

end Go.Proofs.YtehagnbphamjhaaGreatDoor

