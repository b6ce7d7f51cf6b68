import Derived.Test.YtjjahefedpfnaaaDoorW4
import Derived.Deep.RegionHeld3
namespace Go.Proofs.YtjjahefedpfnaaaDoor
open Go.RowKit

/-- the set behind a pointer: its box at block s holds the map in block r -/
structure SetIs (w : World) (s r : Nat) (L : List (Pid × Unit)) : Prop where
  box : w.cell? ⟨s, 0, none⟩ = some (.map (some r))
  map : MapIs w r pidV eU L
theorem SetIs.lt {w : World} {s r : Nat} {L : List (Pid × Unit)} (h : SetIs w s r L) : s < w.heap.size := World.block_lt_of_cell? w _ h.box
theorem SetIs.ext {w w' : World} {s r : Nat} {L : List (Pid × Unit)} (h : SetIs w s r L) (hb : Below w.heap.size w w') : SetIs w' s r L :=
  ⟨by rw [hb.cell (by exact h.lt)]; exact h.box, h.map.ext hb⟩
theorem SetIs.alloc {w : World} {s r : Nat} {L : List (Pid × Unit)} (h : SetIs w s r L) (o : Obj) : SetIs (w.alloc o) s r L := h.ext ((Below.refl _ _).alloc (Nat.le_refl _) _)
theorem SetIs.drew {w : World} {s r : Nat} {L : List (Pid × Unit)} (h : SetIs w s r L) : SetIs w.drew s r L := h.ext (Below.refl _ _).drew

/-- w' is w, grown, but for the blocks of F -/
structure Mut (F : Nat → Prop) (w w' : World) : Prop where
  os : w'.os = w.os
  tape : w'.tape = w.tape
  output : w'.output = w.output
  size : w.heap.size ≤ w'.heap.size
  block : ∀ k, k < w.heap.size → ¬ F k → w'.heap[k]? = w.heap[k]?
theorem Mut.refl (F : Nat → Prop) (w : World) : Mut F w w := ⟨rfl, rfl, rfl, Nat.le_refl _, fun _ _ _ => rfl⟩
theorem Mut.trans {F : Nat → Prop} {a b c : World} (h : Mut F a b) (k : Mut F b c) : Mut F a c :=
  ⟨k.os.trans h.os, k.tape.trans h.tape, k.output.trans h.output, Nat.le_trans h.size k.size, fun i hi hf => (k.block i (Nat.lt_of_lt_of_le hi h.size) hf).trans (h.block i hi hf)⟩
theorem Mut.of_below {F : Nat → Prop} {w w' : World} (h : Below w.heap.size w w') : Mut F w w' := ⟨h.os, h.tape, h.output, h.size, fun k hk _ => h.block k hk⟩
theorem Mut.of_but {F : Nat → Prop} {r : Nat} {w w' : World} (h : But r w w') (hr : F r) : Mut F w w' :=
  ⟨h.os, h.tape, h.output, by rw [h.size]; exact Nat.le_refl _, fun k _ hf => h.block k (fun e => hf (e ▸ hr))⟩
theorem Mut.mono {F G : Nat → Prop} {w w' : World} (h : Mut F w w') (hFG : ∀ k, k < w.heap.size → F k → G k) : Mut G w w' :=
  ⟨h.os, h.tape, h.output, h.size, fun k hk hg => h.block k hk (fun hf => hg (hFG k hk hf))⟩
theorem Mut.below {F : Nat → Prop} {w w' : World} (h : Mut F w w') {B : Nat} (hB : B ≤ w.heap.size) (hF : ∀ k, F k → B ≤ k) : Below B w w' :=
  ⟨h.os, h.tape, h.output, h.size, fun k hk => h.block k (by omega) (fun hf => by have := hF k hf; omega)⟩
theorem Mut.cell {F : Nat → Prop} {w w' : World} (h : Mut F w w') {p : Addr} (hp : p.block < w.heap.size) (hf : ¬ F p.block) : w'.cell? p = w.cell? p := World.cell?_of_block (w := w) (h.block p.block hp hf)

/-- a process into a set -/
def add1 (p : Pid) (L : List (Pid × Unit)) : List (Pid × Unit) := if (look p L).isSome = true then L else ins p () L

/-- what a set holds after Union -/
def unionL : List (Pid × Unit) → List Pid → List (Pid × Unit)
  | L, [] => L
  | L, p :: l => unionL (add1 p L) l
/-- how many Union takes in -/
def unionN : List (Pid × Unit) → List Pid → Nat
  | _, [] => 0
  | L, p :: l => (if (look p L).isSome = true then 0 else 1) + unionN (add1 p L) l
theorem unionL_drop {L : List (Pid × Unit)} {xs : List Pid} {k : Nat} (h : k < xs.length) {x y : Int} (hx : (x, y) = xs[k]) : unionL L (xs.drop k) = unionL (add1 (x, y) L) (xs.drop (k + 1)) := by
  rw [List.drop_eq_getElem_cons h, ← hx]; rfl
theorem unionN_drop {L : List (Pid × Unit)} {xs : List Pid} {k : Nat} (h : k < xs.length) {x y : Int} (hx : (x, y) = xs[k]) : unionN L (xs.drop k) = (if (look (x, y) L).isSome = true then 0 else 1) + unionN (add1 (x, y) L) (xs.drop (k + 1)) := by
  rw [List.drop_eq_getElem_cons h, ← hx]; rfl
theorem unionN_le : ∀ (xs : List Pid) (L : List (Pid × Unit)), unionN L xs ≤ xs.length
  | [], _ => by simp [unionN]
  | p :: l, L => by have := unionN_le l (add1 p L); unfold unionN; simp only [List.length_cons]; split <;> omega

theorem PidRow.mut {F : Nat → Prop} {w w' : World} {a : Option Addr} {xs : List Pid} (h : PidRow w a xs) (hm : Mut F w w') (hF : ∀ b off, a = some ⟨b, off, none⟩ → 0 < xs.length → ¬ F b) : PidRow w' a xs := by
  rcases h with rfl | ⟨b, off, rfl, hlt, hc⟩
  · exact .inl rfl
  · by_cases h0 : 0 < xs.length
    · refine .inr ⟨b, off, rfl, by have := hm.size; omega, fun i hi => ?_⟩
      have := hF b off rfl h0
      rw [hm.cell (by exact hlt) (by exact this), hm.cell (by exact hlt) (by exact this)]
      exact hc i hi
    · exact .inl (List.length_eq_zero_iff.1 (by omega))
/-- a row of cells is no map -/
theorem PidRow.ne_map {w : World} {a : Option Addr} {xs : List Pid} (h : PidRow w a xs) {r : Nat} {es : Array MapEntry} {cl : Nat} (hr : w.heap[r]? = some (.map es cl)) {b off : Nat} (ha : a = some ⟨b, off, none⟩) (h0 : 0 < xs.length) : b ≠ r := by
  obtain ⟨b', off', rfl, _, hc⟩ := h.get h0
  cases ha
  intro e
  subst e
  have := (hc 0 h0).1
  simp [World.cell?, hr] at this
theorem PidRow.mutMap {w w' : World} {a : Option Addr} {xs : List Pid} (h : PidRow w a xs) {r : Nat} (hm : Mut (fun k => k = r) w w') {α β : Type} {ke : α → Value} {ve : β → Value} {L : List (α × β)} (hr : MapIs w r ke ve L) : PidRow w' a xs := by
  obtain ⟨es, cl, h2, _⟩ := hr
  exact h.mut hm fun b off ha h0 => h.ne_map h2 ha h0

end Go.Proofs.YtjjahefedpfnaaaDoor
