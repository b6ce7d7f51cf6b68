import Derived.Test.YtjjahefedpfnaaaDoorR1
namespace Go.Proofs.YtjjahefedpfnaaaDoor
open Go.RowKit

def sameId (p q : Pid) : Bool := decide (q.1 = p.1)
def refA (K : Bool) (ms : List Pid) (i : Nat) : List Pid → Bool
  | [] => K
  | p :: r => if mayR p then (if (ms.take i).any (sameId p) then false else refA K ms (i + 1) r) else false
def refB (K : Bool) (fl : List Pid) : List Pid → Bool
  | [] => K
  | p :: r => if fl.count p = 1 then refB K fl r else false
def refC (ms : List Pid) (K : List Pid → Bool) : List Pid → List (List Pid) → Bool
  | F, [] => K F
  | F, l :: r => match l with
    | [] => false
    | p :: _ => if risR ms l then refC ms K (F ++ [p]) r else false
def refG (V : View) : Bool :=
  decide (1 ≤ V.id) && (decide (V.id ≤ 4611686018427387904) && (decide (1 ≤ V.ms.length) && (decide (V.ms.length ≤ 24) && (decide (V.ls.length ≤ V.ms.length) && (decide (1 ≤ V.ds.length) && decide (V.ds.length ≤ V.ms.length))))))
def refCB (V : View) : Bool := refC V.ms (fun F => risR V.ms F && risR V.ms V.ds) [] V.ls
/-- choragusref08.Check, as data -/
def refCheckB (V : View) : Bool := refG V && refA (refB (refCB V) V.ls.flatten V.ms) V.ms 0 V.ms
theorem refA_drop {K : Bool} {ms : List Pid} {i : Nat} (h : i < ms.length) {x y : Int} (hx : (x, y) = ms[i]) :
    refA K ms i (ms.drop i) = if mayR (x, y) then (if (ms.take i).any (sameId (x, y)) then false else refA K ms (i + 1) (ms.drop (i + 1))) else false := by
  rw [List.drop_eq_getElem_cons h, ← hx]; rfl
theorem refB_drop {K : Bool} {fl ms : List Pid} {i : Nat} (h : i < ms.length) {x y : Int} (hx : (x, y) = ms[i]) :
    refB K fl (ms.drop i) = if fl.count (x, y) = 1 then refB K fl (ms.drop (i + 1)) else false := by
  rw [List.drop_eq_getElem_cons h, ← hx]; rfl
theorem refC_nil {ms : List Pid} {K : List Pid → Bool} {F : List Pid} {ls : List (List Pid)} {k : Nat} (h : k < ls.length) (h0 : ls[k] = []) : refC ms K F (ls.drop k) = false := by
  rw [List.drop_eq_getElem_cons h, h0]; rfl
theorem refC_cons {ms : List Pid} {K : List Pid → Bool} {F : List Pid} {ls : List (List Pid)} {k : Nat} (h : k < ls.length) {l : List Pid} (hl : l = ls[k]) {p : Pid} (hp : l.head? = some p) :
    refC ms K F (ls.drop k) = if risR ms l then refC ms K (F ++ [p]) (ls.drop (k + 1)) else false := by
  rw [List.drop_eq_getElem_cons h, ← hl]
  cases l with
  | nil => simp at hp
  | cons q r => simp at hp; subst hp; rfl
theorem anyFrom {ms : List Pid} {i k : Nat} (hk : k < i) (hi : i ≤ ms.length) {p q : Pid} (hq : q = ms[k]'(by omega)) : ((ms.take i).drop k).any (sameId p) = (sameId p q || ((ms.take i).drop (k + 1)).any (sameId p)) := by
  have h : k < (ms.take i).length := by simp; omega
  rw [List.drop_eq_getElem_cons h, List.any_cons, List.getElem_take, ← hq]

section
variable {w : World} {b : Nat} {V : View} {am al ad : Option Addr} {cm cl cd : Nat}
theorem ViewBox.extw (h : ViewBox w b V am al ad cm cl cd) : (∀ U : ExtW w, U.W.cell? ⟨b, 0, none⟩ = some (.int .u64 V.id)) ∧ (∀ U : ExtW w, U.W.cell? ⟨b, 1, none⟩ = some (.slice am V.ms.length cm)) ∧ (∀ U : ExtW w, U.W.cell? ⟨b, 2, none⟩ = some (.slice al V.ls.length cl)) ∧ (∀ U : ExtW w, U.W.cell? ⟨b, 3, none⟩ = some (.slice ad V.ds.length cd)) :=
  ⟨fun U => (h.ext U.h h.lt).c0, fun U => (h.ext U.h h.lt).c1, fun U => (h.ext U.h h.lt).c2, fun U => (h.ext U.h h.lt).c3⟩
end

theorem cell_extw {w : World} {a : Addr} {v : Value} (h : w.cell? a = some v) : ∀ U : ExtW w, U.W.cell? a = some v := fun U => (U.h.cell (World.block_lt_of_cell? w _ h)).trans h
theorem cell_to {w wr : World} {a : Addr} {v : Value} (h : w.cell? a = some v) (hb : Below w.heap.size w wr) : wr.cell? a = some v := (hb.cell (World.block_lt_of_cell? w _ h)).trans h
theorem count_take_succ {l : List Pid} {j : Nat} (h : j < l.length) (p : Pid) {q : Pid} (hq : q = l[j]) : (l.take (j + 1)).count p = (l.take j).count p + (if q = p then 1 else 0) := by
  rw [List.take_succ_eq_append_getElem h, List.count_append, ← hq, List.count_singleton]
  simp only [beq_iff_eq]
theorem count_flatten_succ {ls : List (List Pid)} {q : Nat} (h : q < ls.length) (p : Pid) {l : List Pid} (hl : l = ls[q]) : (ls.take (q + 1)).flatten.count p = (ls.take q).flatten.count p + l.count p := by
  rw [flatten_take_succ h, List.count_append, ← hl]

end Go.Proofs.YtjjahefedpfnaaaDoor
