/- Parts of the proof: R1. -/
import Derived.Test.YtbpfhclcjedkcaaSm1
namespace Go.Proofs.Ytbpfhclcjedkcaa
open Go.RowKit

/-- w, grown -/
structure ExtW (w : World) where
  W : World
  h : Below w.heap.size w W
instance extW_some (w : World) : Nonempty (ExtW w) := ⟨⟨w, Below.refl _ _⟩⟩
theorem wp_region_ext {P : Program} {w wr : World} {id : Nat} {Q : Exit → Act → World → Prop} {a : Act} {l : List Oper} (hb : Below w.heap.size w wr) (hm : P.follows .mixedOrders = true) (hB : Region.lexB .any l.toArray = true)
    (h : wpQuiet P l.toArray (fun w' => ∃ U : ExtW w, w' = U.W) (fun a' => ∀ w', (∃ U : ExtW w, w' = U.W) → Q .normal a' w') l a) : (Code.region id l.toArray true).wp P Q a wr :=
  wp_region_quiet (C := fun w' => ∃ U : ExtW w, w' = U.W) hm hB ⟨⟨wr.drew, hb.drew⟩, rfl⟩ (by simpa using h)
theorem PidRow.extw {w : World} {b off : Nat} {xs : List Pid} (hrow : PidRow w (some ⟨b, off, none⟩) xs) {k : Nat} (hlt : k < xs.length) {x y : Int} (hx : (x, y) = xs[k]) :
    (∀ U : ExtW w, U.W.cell? ⟨b, off + k * 2, none⟩ = some (.int .u16 x)) ∧ (∀ U : ExtW w, U.W.cell? ⟨b, off + k * 2 + 1, none⟩ = some (.int .u32 y)) := by
  constructor <;> intro U <;> obtain ⟨b', off', x', y', e, hx', h1, h2⟩ := hrow.at U.h rfl hlt <;> cases e <;> rw [← hx] at hx' <;> cases hx' <;> assumption
theorem at_ext {w0 : World} {U : ExtW w0} {a : Option Addr} {c : Nat} {xs : List Pid} {id inc : Int} (hrow : PidRow w0 a xs) (hn : xs.length ≤ 70368744177664) {A : Int} (hA : Hid (atIx xs (id, inc) = A)) :
   Calls Try.prog 178 #[.slice a xs.length c, .agg #[.int .u16 id, .int .u32 inc]] U.W fun e w' => e = .returned (.int .i64 A) ∧ ∃ U' : ExtW w0, w' = U'.W := by
  refine (at_any a c xs id inc U.W (by omega) (hrow.ext U.h)).mono ?_
  rintro e w' ⟨rfl, h⟩
  exact ⟨ret_int hA.out, ⟨_, U.h.trans (h.mono U.h.size)⟩, rfl⟩
def mayR (p : Pid) : Bool := decide (p.1 < 16) && decide (0 < p.2)
theorem mayR_any (x y : Int) (w : World) : Calls Try.prog 68 #[.agg #[.int .u16 x, .int .u32 y]] w fun e w' => e = .returned (.bool (mayR (x, y))) ∧ Below w.heap.size w w' := by
  have hB : Below w.heap.size w (w.alloc (.cells #[.int .u16 x, .int .u32 y] 26)) := (Below.refl _ _).alloc (Nat.le_refl _) _
  by_cases h1 : x < 16
  · have h1' : decide (x < 16) = true := by simpa using h1
    go_enter Try.func68, Try.ntmps68
    go_wp2
    go_ret
    exact ⟨ret_bool (by simp [mayR, h1]), hB⟩
  · have h1' : decide (x < 16) = false := by simpa using h1
    go_enter Try.func68, Try.ntmps68
    go_wp2
    go_ret
    exact ⟨ret_bool (by unfold mayR; rw [show decide ((x, y).1 < 16) = false from h1']; rfl), hB⟩
theorem mayR_is {x y : Int} {w : World} {bm : Bool} (h : Hid (mayR (x, y) = bm)) : Calls Try.prog 68 #[.agg #[.int .u16 x, .int .u32 y]] w fun e w' => e = .returned (.bool bm) ∧ Below w.heap.size w w' := by
  have := mayR_any x y w
  rw [h.out] at this
  exact this

/-- is the one ahead (if any) not ahead in rank? -/
def prevGe (ms : List Pid) (pr : Option Pid) (A : Int) : Bool := match pr with | none => false | some q => decide (A ≤ atIx ms q)
def risRFrom (ms : List Pid) : Option Pid → List Pid → Bool
  | _, [] => true
  | pr, p :: r => if atIx ms p < 0 then false else if prevGe ms pr (atIx ms p) then false else risRFrom ms (some p) r
def risR (ms xs : List Pid) : Bool := risRFrom ms none xs
theorem risRFrom_drop {ms : List Pid} {pr : Option Pid} {xs : List Pid} {k : Nat} (h : k < xs.length) {x y : Int} (hx : (x, y) = xs[k]) :
    risRFrom ms pr (xs.drop k) = if atIx ms (x, y) < 0 then false else if prevGe ms pr (atIx ms (x, y)) then false else risRFrom ms (some (x, y)) (xs.drop (k + 1)) := by
  rw [List.drop_eq_getElem_cons h, ← hx]; rfl
def prevOf (xs : List Pid) (k : Nat) : Option Pid := if k = 0 then none else xs[k - 1]?
theorem prevOf_succ {xs : List Pid} {k : Nat} (h : k < xs.length) {x y : Int} (hx : (x, y) = xs[k]) : prevOf xs (k + 1) = some (x, y) := by
  simp [prevOf, h, hx]
/-- cells of a row, in every later world -/
theorem PidRow.all {w : World} {b off : Nat} {xs : List Pid} (hrow : PidRow w (some ⟨b, off, none⟩) xs) {k : Nat} (hlt : k < xs.length) {x y : Int} (hx : (x, y) = xs[k]) :
    (∀ W, Below w.heap.size w W → W.cell? ⟨b, off + k * 2, none⟩ = some (.int .u16 x)) ∧ (∀ W, Below w.heap.size w W → W.cell? ⟨b, off + k * 2 + 1, none⟩ = some (.int .u32 y)) := by
  constructor <;> intro W h <;> obtain ⟨b', off', x', y', e, hx', h1, h2⟩ := hrow.at h rfl hlt <;> cases e <;> rw [← hx] at hx' <;> cases hx' <;> assumption

set_option maxRecDepth 100000 in
set_option maxHeartbeats 3200000 in
theorem risR_any (am : Option Addr) (cm : Nat) (ms : List Pid) (a : Option Addr) (c : Nat) (xs : List Pid) (w : World) (hnm : ms.length ≤ 70368744177664) (hn : xs.length ≤ 70368744177664) (hrm : PidRow w am ms) (hrow : PidRow w a xs) :
   Calls Try.prog 170 #[.slice am ms.length cm, .slice a xs.length c] w fun e w' => e = .returned (.bool (risR ms xs)) ∧ Below w.heap.size w w' := by
  go_enter Try.func170, Try.ntmps170
  go_wp2
  go_loopw [4, 5] (fun rs i wr => rs = .bool false ∧ ∃ k : Nat, k ≤ xs.length ∧ i = .int .i64 k ∧ Hid (risR ms xs = risRFrom ms (prevOf xs k) (xs.drop k)) ∧ Below w.heap.size w wr) (fun _ i _ => xs.length - (intOf i).toNat)
  case atStart => exact ⟨rfl, 0, Nat.zero_le _, rfl, rfl, Below.refl _ _⟩
  case round =>
    obtain ⟨rfl, k, hk, rfl, ha, hb⟩ := hrel
    by_cases hlt : k < xs.length
    · obtain ⟨b, off, x, y, rfl, hx, -, -⟩ := hrow.at hb rfl hlt
      obtain ⟨hd0, hd1⟩ := hrow.extw hlt hx
      have hdr := risRFrom_drop (ms := ms) (pr := prevOf xs k) hlt hx
      obtain ⟨A, hA⟩ : ∃ A, atIx ms (x, y) = A := ⟨_, rfl⟩
      rw [hA] at hdr
      have HA := hid hA
      have HD := hid hdr
      have HX := hid hx
      clear hA hdr hx
      by_cases hneg : A < 0
      · have hneg' : decide (A < 0) = true := by simpa using hneg
        go_wp2
        refine wp_region_ext hb (by kernel_rfl) (by kernel_rfl) ?_
        repeat (go_big_quiet_step (exact at_ext hrm hnm HA))
        refine wpQuiet_nil ?_
        rintro _ ⟨⟨w9, hb9⟩, rfl⟩
        go_wp2
        go_ret
        exact ⟨ret_bool (by rw [ha.out, HD.out, if_pos hneg]), hb9⟩
      · have hneg' : decide (A < 0) = false := by simpa using hneg
        by_cases hk0 : k = 0
        · have hk0' : decide (0 < (k : Int)) = false := by simp; omega
          have hk0n : decide (0 < k) = false := by simp; omega
          have HP : Hid (prevGe ms (prevOf xs k) A = false) := by rw [hk0]; rfl
          have HK0 := hid hk0
          clear hk0
          go_wp2
          refine wp_region_ext hb (by kernel_rfl) (by kernel_rfl) ?_
          repeat (go_big_quiet_step (exact at_ext hrm hnm HA))
          refine wpQuiet_nil ?_
          rintro _ ⟨⟨w9, hb9⟩, rfl⟩
          go_wp2
          go_roundw
          case rel => exact ⟨rfl, k + 1, by omega, by go_num, (ha.out.trans (by rw [HD.out, if_neg (show ¬ A < 0 by omega), HP.out, prevOf_succ hlt HX.out]; rfl) : _), hb9⟩
          case measure => simp [intOf]; omega
        · have hk1 : k - 1 < xs.length := by omega
          have hkc : ((k - 1 : Nat) : Int) = (k : Int) - 1 := by omega
          obtain ⟨b2, off2, x2, y2, e2, hx2, -, -⟩ := hrow.at hb rfl hk1
          cases e2
          obtain ⟨hg0, hg1⟩ := hrow.extw hk1 hx2
          have hpr : prevOf xs k = some (x2, y2) := by simp [prevOf, hk0, hk1, hx2]
          obtain ⟨C, hC⟩ : ∃ C, atIx ms (x2, y2) = C := ⟨_, rfl⟩
          have HC := hid hC
          have HP : Hid (prevGe ms (prevOf xs k) A = decide (A ≤ C)) := by rw [hpr]; simp only [prevGe, hC, Hid]
          have HKC := hid hkc
          clear hC hx2 hkc hpr
          have hk0'' : decide (0 < (k : Int)) = true := by simp; omega
          have hk0n : decide (0 < k) = true := by simp; omega
          by_cases hge : A ≤ C
          · have hge' : decide (A ≤ C) = true := by simpa using hge
            go_wp2
            refine wp_region_ext hb (by kernel_rfl) (by kernel_rfl) ?_
            repeat (go_big_quiet_step (first | (go_at_call_of 178 x2; exact at_ext hrm hnm HC) | exact at_ext hrm hnm HA))
            refine wpQuiet_nil ?_
            rintro _ ⟨⟨w9, hb9⟩, rfl⟩
            go_wp2
            go_ret
            exact ⟨ret_bool (by rw [ha.out, HD.out, if_neg (show ¬ A < 0 by omega), HP.out, decide_eq_true hge]; rfl), hb9⟩
          · have hge' : decide (A ≤ C) = false := by simpa using hge
            go_wp2
            refine wp_region_ext hb (by kernel_rfl) (by kernel_rfl) ?_
            repeat (go_big_quiet_step (first | (go_at_call_of 178 x2; exact at_ext hrm hnm HC) | exact at_ext hrm hnm HA))
            refine wpQuiet_nil ?_
            rintro _ ⟨⟨w9, hb9⟩, rfl⟩
            go_wp2
            go_roundw
            case rel => exact ⟨rfl, k + 1, by omega, by go_num, (ha.out.trans (by rw [HD.out, if_neg (show ¬ A < 0 by omega), HP.out, decide_eq_false (by omega), prevOf_succ hlt HX.out]; rfl) : _), hb9⟩
            case measure => simp [intOf]; omega
    · go_wp2
      go_ret
      exact ⟨ret_bool (by rw [ha.out, List.drop_eq_nil_of_le (by omega)]; rfl), hb⟩
end Go.Proofs.Ytbpfhclcjedkcaa

