import Derived.Test.YteodaakdjnjhmaaDoorChecked
import Derived.WalkKit
import Derived.WalkLawsBesides
import Derived.WalkSpells
import Derived.Deep.QuietTactic
import Derived.BigQuiet
namespace Go.Proofs.YteodaakdjnjhmaaDoor
open Go.RowKit
theorem hid {p : Prop} (h : p) : Hid p := h
theorem ret_int {k : IntKind} {a b : Int} (h : a = b) : Ending.returned (.int k a) = .returned (.int k b) := by rw [h]
theorem ret_bool {a b : Bool} (h : a = b) : Ending.returned (.bool a) = .returned (.bool b) := by rw [h]

abbrev Pid := Int × Int
/-- the row of processes behind a slice's address -/
def PidRow (w : World) (a : Option Addr) (xs : List Pid) : Prop :=
  xs = [] ∨ ∃ b off, a = some ⟨b, off, none⟩ ∧ b < w.heap.size ∧ ∀ i (h : i < xs.length), w.cell? ⟨b, off + i * 2, none⟩ = some (.int .u16 xs[i].1) ∧ w.cell? ⟨b, off + i * 2 + 1, none⟩ = some (.int .u32 xs[i].2)
theorem PidRow.get {w : World} {a : Option Addr} {xs : List Pid} (h : PidRow w a xs) (h0 : 0 < xs.length) :
    ∃ b off, a = some ⟨b, off, none⟩ ∧ b < w.heap.size ∧ ∀ i (h : i < xs.length), w.cell? ⟨b, off + i * 2, none⟩ = some (.int .u16 xs[i].1) ∧ w.cell? ⟨b, off + i * 2 + 1, none⟩ = some (.int .u32 xs[i].2) := by
  rcases h with rfl | h
  · simp at h0
  · exact h
theorem PidRow.below {w w' : World} {a : Option Addr} {xs : List Pid} (h : PidRow w a xs) {B : Nat} (hb : Below B w w') (hB : ∀ b off, a = some ⟨b, off, none⟩ → b < B) : PidRow w' a xs := by
  rcases h with rfl | ⟨b, off, rfl, hlt, hc⟩
  · exact .inl rfl
  · refine .inr ⟨b, off, rfl, by have := hb.size; omega, fun i hi => ?_⟩
    have := hB b off rfl
    rw [hb.cell (by exact this), hb.cell (by exact this)]
    exact hc i hi
theorem PidRow.ext {w w' : World} {a : Option Addr} {xs : List Pid} (h : PidRow w a xs) (hb : Below w.heap.size w w') : PidRow w' a xs := by
  rcases h with rfl | ⟨b, off, rfl, hlt, hc⟩
  · exact .inl rfl
  · exact PidRow.below (.inr ⟨b, off, rfl, hlt, hc⟩) hb (fun b' off' e => by cases e; exact hlt)
/-- the k-th cell pair, in any later world -/
theorem PidRow.at {w wr : World} {a : Option Addr} {xs : List Pid} (h : PidRow w a xs) {B : Nat} (hb : Below B w wr) (hB : B = w.heap.size) {k : Nat} (hk : k < xs.length) :
    ∃ b off x y, a = some ⟨b, off, none⟩ ∧ (x, y) = xs[k] ∧ wr.cell? ⟨b, off + k * 2, none⟩ = some (.int .u16 x) ∧ wr.cell? ⟨b, off + k * 2 + 1, none⟩ = some (.int .u32 y) := by
  subst hB
  obtain ⟨b, off, rfl, hlt, hc⟩ := h.get (by omega)
  refine ⟨b, off, xs[k].1, xs[k].2, rfl, rfl, ?_, ?_⟩
  · rw [hb.cell (by exact hlt)]; exact (hc k hk).1
  · rw [hb.cell (by exact hlt)]; exact (hc k hk).2
theorem below_drewN {B : Nat} {a w : World} (h : Below B a w) (n : Nat) : Below B a (w.drewN n) := ⟨h.os, h.tape, h.output, h.size, h.block⟩
def atFrom (p : Pid) : List Pid → Nat → Int
  | [], _ => -1
  | x :: xs, k => if x = p then k else atFrom p xs (k + 1)
/-- the first place of p in a list; -1: none -/
def atIx (xs : List Pid) (p : Pid) : Int := atFrom p xs 0
theorem atFrom_drop {xs : List Pid} {k : Nat} (h : k < xs.length) (p : Pid) : atFrom p (xs.drop k) k = if xs[k] = p then (k : Int) else atFrom p (xs.drop (k + 1)) (k + 1) := by
  rw [List.drop_eq_getElem_cons h]; rfl
theorem atFrom_end {xs : List Pid} {k : Nat} (h : xs.length ≤ k) (p : Pid) : atFrom p (xs.drop k) k = -1 := by
  rw [List.drop_eq_nil_of_le h]; rfl
theorem bcell {W w1 : World} (hb : Below W.heap.size W w1) : (∀ b o, b < W.heap.size → w1.cell? ⟨b, o, none⟩ = W.cell? ⟨b, o, none⟩) ∧ (∀ b o, b < W.heap.size → w1.frozen? ⟨b, o, none⟩ = W.frozen? ⟨b, o, none⟩) :=
  ⟨fun b o h => hb.cell (p := ⟨b, o, none⟩) h, fun b o h => hb.frozen (p := ⟨b, o, none⟩) h⟩
/-- the rows behind a slice of slices -/
def LeafRow (w : World) (a : Option Addr) (ls : List (List Pid)) : Prop :=
  ls = [] ∨ ∃ b off, a = some ⟨b, off, none⟩ ∧ b < w.heap.size ∧ ∀ i (h : i < ls.length), ∃ ai ci, w.cell? ⟨b, off + i, none⟩ = some (.slice ai ls[i].length ci) ∧ PidRow w ai ls[i]
theorem LeafRow.ext {w w' : World} {a : Option Addr} {ls : List (List Pid)} (h : LeafRow w a ls) (hb : Below w.heap.size w w') : LeafRow w' a ls := by
  rcases h with rfl | ⟨b, off, rfl, hlt, hc⟩
  · exact .inl rfl
  · refine .inr ⟨b, off, rfl, by have := hb.size; omega, fun i hi => ?_⟩
    obtain ⟨ai, ci, h1, h2⟩ := hc i hi
    exact ⟨ai, ci, by rw [hb.cell (by exact hlt)]; exact h1, h2.ext hb⟩
theorem LeafRow.at {w wr : World} {a : Option Addr} {ls : List (List Pid)} (h : LeafRow w a ls) {B : Nat} (hb : Below B w wr) (hB : B = w.heap.size) {k : Nat} (hk : k < ls.length) :
    ∃ b off ai ci l, a = some ⟨b, off, none⟩ ∧ l = ls[k] ∧ wr.cell? ⟨b, off + k, none⟩ = some (.slice ai l.length ci) ∧ PidRow wr ai l := by
  subst hB
  rcases h with rfl | ⟨b, off, rfl, hlt, hc⟩
  · simp at hk
  · obtain ⟨ai, ci, h1, h2⟩ := hc k hk
    exact ⟨b, off, ai, ci, ls[k], rfl, rfl, by rw [hb.cell (by exact hlt)]; exact h1, h2.ext hb⟩
/-- a view, as data -/
structure View where
  id : Int
  ms : List Pid
  ls : List (List Pid)
  ds : List Pid
structure ViewR (w : World) (am al ad : Option Addr) (V : View) : Prop where
  ms : PidRow w am V.ms
  ls : LeafRow w al V.ls
  ds : PidRow w ad V.ds
  lm : V.ms.length ≤ 70368744177664
  ll : V.ls.length ≤ 70368744177664
  ld : V.ds.length ≤ 70368744177664
  le : ∀ l ∈ V.ls, l.length ≤ 70368744177664
theorem ViewR.ext {w w' : World} {am al ad : Option Addr} {V : View} (h : ViewR w am al ad V) (hb : Below w.heap.size w w') : ViewR w' am al ad V :=
  ⟨h.ms.ext hb, h.ls.ext hb, h.ds.ext hb, h.lm, h.ll, h.ld, h.le⟩
theorem eql_pid (a b c d : Int) (w : World) : (binOp .eql 26 (.agg #[.int .u16 a, .int .u32 b]) (.agg #[.int .u16 c, .int .u32 d])).run Tryd.prog w = .ok (.bool (decide ((a, b) = (c, d)))) w := by
  have hS : Tryd.prog.underlying 26 = some (.struct (Tryd.prog.fieldsOf 26)) := by kernel_rfl
  have hp : Tryd.prog.stoodInHeld 26 = false := by kernel_rfl
  rw [run_eql_struct, show (10000 : Nat) = 9999 + 1 from rfl, run_equalIn_agg w 9999 26 _ _ hS hp]
  simp only [Program.fieldsOf, Tryd.underlying26]
  go_simp
  by_cases h1 : a = c <;> by_cases h2 : b = d <;> simp [h1, h2]
theorem neq_pid (a b c d : Int) (w : World) : (binOp .neq 26 (.agg #[.int .u16 a, .int .u32 b]) (.agg #[.int .u16 c, .int .u32 d])).run Tryd.prog w = .ok (.bool (!decide ((a, b) = (c, d)))) w := by
  have hS : Tryd.prog.underlying 26 = some (.struct (Tryd.prog.fieldsOf 26)) := by kernel_rfl
  have hp : Tryd.prog.stoodInHeld 26 = false := by kernel_rfl
  rw [run_neq_struct, show (10000 : Nat) = 9999 + 1 from rfl, run_equalIn_agg w 9999 26 _ _ hS hp]
  simp only [Program.fieldsOf, Tryd.underlying26]
  go_simp
  by_cases h1 : a = c <;> by_cases h2 : b = d <;> simp [h1, h2]
end Go.Proofs.YteodaakdjnjhmaaDoor
