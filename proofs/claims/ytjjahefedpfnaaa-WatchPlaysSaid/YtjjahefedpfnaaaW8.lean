import Derived.Test.YtjjahefedpfnaaaW7
namespace Go.Proofs.Ytjjahefedpfnaaa
open Go.RowKit

theorem PidRow.one (w : World) (x y : Int) : PidRow (w.alloc (.cells #[.int .u16 x, .int .u32 y] 32)) (some ⟨w.heap.size, 0, none⟩) [(x, y)] :=
  .inr ⟨_, 0, rfl, by simp, fun i hi => by
    have : i = 0 := by simpa using hi
    subst this
    exact ⟨by simp, by simp⟩⟩
theorem PidRow.drew {w : World} {a : Option Addr} {xs : List Pid} (h : PidRow w a xs) : PidRow w.drew a xs := h.ext (Below.refl _ _).drew

def chkFrom (S : List (Pid × Int)) (K : List Pid → Nat → Bool) : List Pid → Nat → List (List Pid) → Bool
  | F, n, [] => K F n
  | F, n, l :: r => match l with
    | [] => false
    | p :: _ => if risFrom S (-1) l then chkFrom S K (F ++ [p]) (n + l.length) r else false
def chkEnd (V : View) (F : List Pid) (n : Nat) : Bool :=
  decide (n = V.ms.length) && (decide ((unionL [] V.ls.flatten).length = n) && (risFrom (ranksL V.ms) (-1) F && (decide (V.ds ≠ []) && risFrom (ranksL V.ms) (-1) V.ds)))
/-- view.Check, as data -/
def checkB (V : View) : Bool :=
  decide (1 ≤ V.id) && (decide (V.id ≤ 4611686018427387904) && (membersB V.ms && chkFrom (ranksL V.ms) (chkEnd V) [] 0 V.ls))
def errB (b : Bool) : Int := if b then 0 else 1
theorem chkFrom_nil {S : List (Pid × Int)} {K : List Pid → Nat → Bool} {F : List Pid} {n : Nat} {ls : List (List Pid)} {k : Nat} (h : k < ls.length) (h0 : ls[k] = []) : chkFrom S K F n (ls.drop k) = false := by
  rw [List.drop_eq_getElem_cons h, h0]; rfl
theorem chkFrom_cons {S : List (Pid × Int)} {K : List Pid → Nat → Bool} {F : List Pid} {n : Nat} {ls : List (List Pid)} {k : Nat} (h : k < ls.length) {l : List Pid} (hl : l = ls[k]) {p : Pid} (hp : l.head? = some p) :
    chkFrom S K F n (ls.drop k) = if risFrom S (-1) l then chkFrom S K (F ++ [p]) (n + l.length) (ls.drop (k + 1)) else false := by
  rw [List.drop_eq_getElem_cons h, ← hl]
  cases l with
  | nil => simp at hp
  | cons q r => simp at hp; subst hp; rfl
theorem checkB_1 {V : View} (h : ¬ 1 ≤ V.id) : checkB V = false := by
  unfold checkB; rw [decide_eq_false h, Bool.false_and]
theorem checkB_2 {V : View} (h : ¬ V.id ≤ 4611686018427387904) : checkB V = false := by
  unfold checkB; rw [decide_eq_false h, Bool.false_and, Bool.and_false]
theorem checkB_3 {V : View} (h : membersB V.ms = false) : checkB V = false := by
  unfold checkB; rw [h, Bool.false_and, Bool.and_false, Bool.and_false]
theorem checkB_4 {V : View} (h1 : 1 ≤ V.id) (h2 : V.id ≤ 4611686018427387904) (h : membersB V.ms = true) : checkB V = chkFrom (ranksL V.ms) (chkEnd V) [] 0 V.ls := by
  unfold checkB; rw [decide_eq_true h1, decide_eq_true h2, h, Bool.true_and, Bool.true_and, Bool.true_and]
abbrev viewV (V : View) (am al ad : Option Addr) (cm cl cd : Nat) : Value := .agg #[.int .u64 V.id, .slice am V.ms.length cm, .slice al V.ls.length cl, .slice ad V.ds.length cd]
/-- a view in a box of its own -/
structure ViewBox (w : World) (b : Nat) (V : View) (am al ad : Option Addr) (cm cl cd : Nat) : Prop where
  c0 : w.cell? ⟨b, 0, none⟩ = some (.int .u64 V.id)
  c1 : w.cell? ⟨b, 1, none⟩ = some (.slice am V.ms.length cm)
  c2 : w.cell? ⟨b, 2, none⟩ = some (.slice al V.ls.length cl)
  c3 : w.cell? ⟨b, 3, none⟩ = some (.slice ad V.ds.length cd)
section
variable {w w' : World} {b : Nat} {V : View} {am al ad : Option Addr} {cm cl cd : Nat}
theorem ViewBox.lt (h : ViewBox w b V am al ad cm cl cd) : b < w.heap.size := World.block_lt_of_cell? w _ h.c0
theorem ViewBox.ext (h : ViewBox w b V am al ad cm cl cd) {B : Nat} (hb : Below B w w') (hB : b < B) : ViewBox w' b V am al ad cm cl cd :=
  ⟨by rw [hb.cell (by exact hB)]; exact h.c0, by rw [hb.cell (by exact hB)]; exact h.c1, by rw [hb.cell (by exact hB)]; exact h.c2, by rw [hb.cell (by exact hB)]; exact h.c3⟩
theorem ViewBox.made (w : World) : ViewBox (w.alloc (.cells #[.int .u64 V.id, .slice am V.ms.length cm, .slice al V.ls.length cl, .slice ad V.ds.length cd] 68)) w.heap.size V am al ad cm cl cd :=
  ⟨by simp, by simp, by simp, by simp⟩
end
theorem ViewR.of (w : World) {am al ad : Option Addr} {V : View} (h : ViewR w am al ad V) (o : Obj) : ViewR (w.alloc o) am al ad V := h.ext ((Below.refl _ _).alloc (Nat.le_refl _) _)

end Go.Proofs.Ytjjahefedpfnaaa
