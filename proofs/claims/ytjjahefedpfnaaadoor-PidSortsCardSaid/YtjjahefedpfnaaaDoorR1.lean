import Derived.Test.YtjjahefedpfnaaaDoorW8
namespace Go.Proofs.YtjjahefedpfnaaaDoor
open Go.RowKit

/-- w, grown -/
structure ExtW (w : World) where
  W : World
  h : Below w.heap.size w W
instance extW_some (w : World) : Nonempty (ExtW w) := ⟨⟨w, Below.refl _ _⟩⟩
theorem wp_region_ext {P : Program} {w wr : World} {id : Nat} {Q : Exit → Act → World → Prop} {a : Act} {l : List Oper} (hb : Below w.heap.size w wr) (hm : P.follows .mixedOrders = true) (hB : Region.lexB .any l.toArray = true)
    (h : wpQuiet P l.toArray (fun w' => ∃ U : ExtW w, w' = U.W) (fun a' => ∀ w', (∃ U : ExtW w, w' = U.W) → Q .normal a' w') l a) : (Code.region id l.toArray true).wp P Q a wr :=
  wp_region_quiet (C := fun w' => ∃ U : ExtW w, w' = U.W) hm hB ⟨⟨wr.drew, hb.drew⟩, rfl⟩ (by simpa using h)
theorem PidRow.extw {w : World} {b off : Nat} {xs : List Pid} (hrow : PidRow w (some ⟨b, off, none⟩) xs) {k : Nat} (hlt : k < xs.length) {x y : Int} (hx : (x, y) = xs[k]) :
    (∀ U : ExtW w, U.W.cell? ⟨b, off + k * 2, none⟩ = some (.int .u16 x)) ∧ (∀ U : ExtW w, U.W.cell? ⟨b, off + k * 2 + 1, none⟩ = some (.int .u32 y)) := by
  constructor <;> intro U <;> obtain ⟨b', off', x', y', e, hx', h1, h2⟩ := hrow.at U.h rfl hlt <;> cases e <;> rw [← hx] at hx' <;> cases hx' <;> assumption
def mayR (p : Pid) : Bool := decide (p.1 < 16) && decide (0 < p.2)
/-- is the one ahead (if any) not ahead in rank? -/
def prevGe (ms : List Pid) (pr : Option Pid) (A : Int) : Bool := match pr with | none => false | some q => decide (A ≤ atIx ms q)
def risRFrom (ms : List Pid) : Option Pid → List Pid → Bool
  | _, [] => true
  | pr, p :: r => if atIx ms p < 0 then false else if prevGe ms pr (atIx ms p) then false else risRFrom ms (some p) r
def risR (ms xs : List Pid) : Bool := risRFrom ms none xs
theorem risRFrom_drop {ms : List Pid} {pr : Option Pid} {xs : List Pid} {k : Nat} (h : k < xs.length) {x y : Int} (hx : (x, y) = xs[k]) :
    risRFrom ms pr (xs.drop k) = if atIx ms (x, y) < 0 then false else if prevGe ms pr (atIx ms (x, y)) then false else risRFrom ms (some (x, y)) (xs.drop (k + 1)) := by
  rw [List.drop_eq_getElem_cons h, ← hx]; rfl
def prevOf (xs : List Pid) (k : Nat) : Option Pid := if k = 0 then none else xs[k - 1]?
theorem prevOf_succ {xs : List Pid} {k : Nat} (h : k < xs.length) {x y : Int} (hx : (x, y) = xs[k]) : prevOf xs (k + 1) = some (x, y) := by
  simp [prevOf, h, hx]
/-- cells of a row, in every later world -/
theorem PidRow.all {w : World} {b off : Nat} {xs : List Pid} (hrow : PidRow w (some ⟨b, off, none⟩) xs) {k : Nat} (hlt : k < xs.length) {x y : Int} (hx : (x, y) = xs[k]) :
    (∀ W, Below w.heap.size w W → W.cell? ⟨b, off + k * 2, none⟩ = some (.int .u16 x)) ∧ (∀ W, Below w.heap.size w W → W.cell? ⟨b, off + k * 2 + 1, none⟩ = some (.int .u32 y)) := by
  constructor <;> intro W h <;> obtain ⟨b', off', x', y', e, hx', h1, h2⟩ := hrow.at h rfl hlt <;> cases e <;> rw [← hx] at hx' <;> cases hx' <;> assumption

end Go.Proofs.YtjjahefedpfnaaaDoor
