import Derived.Test.YteodaakdjnjhmaaDoorBase
import Derived.Lib.EndianBits
import Derived.Deep.RegionWith
namespace Go.Proofs.YteodaakdjnjhmaaDoor
open Go.RowKit
/-- w, grown -/
structure ExtW (w : World) where
  W : World
  h : Below w.heap.size w W
instance extW_some (w : World) : Nonempty (ExtW w) := ⟨⟨w, Below.refl _ _⟩⟩
theorem wp_region_ext {P : Program} {w wr : World} {id : Nat} {Q : Exit → Act → World → Prop} {a : Act} {l : List Oper} (hb : Below w.heap.size w wr) (hm : P.follows .mixedOrders = true) (hB : Region.lexB .any l.toArray = true)
    (h : wpQuiet P l.toArray (fun w' => ∃ U : ExtW w, w' = U.W) (fun a' => ∀ w', (∃ U : ExtW w, w' = U.W) → Q .normal a' w') l a) : (Code.region id l.toArray true).wp P Q a wr :=
  wp_region_quiet (C := fun w' => ∃ U : ExtW w, w' = U.W) hm hB ⟨⟨wr.drew, hb.drew⟩, rfl⟩ (by simpa using h)
theorem cell_to {w wr : World} {a : Addr} {v : Value} (h : w.cell? a = some v) (hb : Below w.heap.size w wr) : wr.cell? a = some v := (hb.cell (World.block_lt_of_cell? w _ h)).trans h
theorem cell_extw {w : World} {a : Addr} {v : Value} (h : w.cell? a = some v) : ∀ U : ExtW w, U.W.cell? a = some v := fun U => cell_to h U.h
theorem relD {P : Program} {f : FuncId} {args : Array Value} {w0 W : World} {v v' : Value} (hb : Below w0.heap.size w0 W) (h : Calls P f args W fun e w' => e = .returned v ∧ Below W.heap.size W w') (hv : v = v') :
    Calls P f args W fun e w' => e = .returned v' ∧ Below w0.heap.size w0 w' := by
  subst hv
  exact h.mono fun _ _ ⟨h1, h2⟩ => ⟨h1, hb.trans (h2.mono hb.size)⟩
theorem ext_ofD {P : Program} {f : FuncId} {args : Array Value} {w0 : World} {U : ExtW w0} {v v' : Value} (h : Calls P f args U.W fun e w' => e = .returned v ∧ Below U.W.heap.size U.W w') (hv : v = v') :
    Calls P f args U.W fun e w' => e = .returned v' ∧ ∃ U' : ExtW w0, w' = U'.W := by
  subst hv
  refine h.mono ?_
  rintro e w' ⟨rfl, hb⟩
  exact ⟨rfl, ⟨_, U.h.trans (hb.mono U.h.size)⟩, rfl⟩
def ok (p : Pid) : Prop := 0 ≤ p.1 ∧ p.1 < 65536 ∧ 0 ≤ p.2 ∧ p.2 < 4294967296
def numOf (p : Pid) : Int := p.1 * 4294967296 + p.2
def ahead (p q : Pid) : Bool := decide (numOf p < numOf q)
theorem ret_u64 {a b : Int} (h : a = b) : Ending.returned (.int .u64 a) = .returned (.int .u64 b) := by rw [h]
theorem u64_or32 (x y : Int) (hy₀ : 0 ≤ y) (hy : y < 4294967296) (hx₀ : 0 ≤ x) (hx : x % 4294967296 = 0) (hx₁ : x < 18446744073709551616) : bits .or .u64 x y = x + y :=
  bits_join .u64 64 (by decide) wraps_u64 32 x y hx₀ hx hx₁ hy₀ hy (by omega)
set_option maxHeartbeats 400000 in
theorem number_any (x y : Int) (w : World) (h : ok (x, y)) : Calls Tryd.prog 12 #[.agg #[.int .u16 x, .int .u32 y]] w fun e w' => e = .returned (.int .u64 (numOf (x, y))) ∧ Below w.heap.size w w' := by
  obtain ⟨hx, hx2, hy, hy2⟩ := h
  simp only at hx hx2 hy hy2
  go_enter Tryd.func12, Tryd.ntmps12
  go_wp2
  go_ret
  exact ⟨ret_u64 (u64_or32 _ _ hy hy2 (by omega) (by omega) (by omega)), (Below.refl _ _).alloc (Nat.le_refl _) _⟩
set_option maxHeartbeats 400000 in
theorem ahead_any (a b c d : Int) (w : World) (h1 : ok (a, b)) (h2 : ok (c, d)) : Calls Tryd.prog 14 #[.agg #[.int .u16 a, .int .u32 b], .agg #[.int .u16 c, .int .u32 d]] w fun e w' => e = .returned (.bool (ahead (a, b) (c, d))) ∧ Below w.heap.size w w' := by
  have hB : Below w.heap.size w ((w.alloc (.cells #[.int .u16 a, .int .u32 b] 26)).alloc (.cells #[.int .u16 c, .int .u32 d] 26)) := ((Below.refl _ _).alloc (Nat.le_refl _) _).alloc (by simp) _
  have k0 : ((w.alloc (.cells #[.int .u16 a, .int .u32 b] 26)).alloc (.cells #[.int .u16 c, .int .u32 d] 26)).cell? ⟨w.heap.size, 0, none⟩ = some (.int .u16 a) := by simp
  have k1 : ((w.alloc (.cells #[.int .u16 a, .int .u32 b] 26)).alloc (.cells #[.int .u16 c, .int .u32 d] 26)).cell? ⟨w.heap.size, 1, none⟩ = some (.int .u32 b) := by simp
  have k2 : ((w.alloc (.cells #[.int .u16 a, .int .u32 b] 26)).alloc (.cells #[.int .u16 c, .int .u32 d] 26)).cell? ⟨w.heap.size + 1, 0, none⟩ = some (.int .u16 c) := by simp
  have k3 : ((w.alloc (.cells #[.int .u16 a, .int .u32 b] 26)).alloc (.cells #[.int .u16 c, .int .u32 d] 26)).cell? ⟨w.heap.size + 1, 1, none⟩ = some (.int .u32 d) := by simp
  go_enter Tryd.func14, Tryd.ntmps14
  go_wp2
  revert hB k0 k1 k2 k3
  generalize (w.alloc (.cells #[.int .u16 a, .int .u32 b] 26)).alloc (.cells #[.int .u16 c, .int .u32 d] 26) = wr
  intro hB k0 k1 k2 k3
  have f0 := cell_extw k0
  have f1 := cell_extw k1
  have f2 := cell_extw k2
  have f3 := cell_extw k3
  clear k0 k1 k2 k3
  have n1 : ∀ U : ExtW wr, Calls Tryd.prog 12 #[.agg #[.int .u16 a, .int .u32 b]] U.W fun e w' => e = .returned (.int .u64 (numOf (a, b))) ∧ ∃ U' : ExtW wr, w' = U'.W := fun U => ext_ofD (number_any a b U.W h1) rfl
  have n2 : ∀ U : ExtW wr, Calls Tryd.prog 12 #[.agg #[.int .u16 c, .int .u32 d]] U.W fun e w' => e = .returned (.int .u64 (numOf (c, d))) ∧ ∃ U' : ExtW wr, w' = U'.W := fun U => ext_ofD (number_any c d U.W h2) rfl
  have hs : ahead (a, b) (c, d) = decide (numOf (a, b) < numOf (c, d)) := rfl
  have HS := hid hs
  clear hs
  revert n1 n2 HS
  generalize numOf (a, b) = A
  generalize numOf (c, d) = B
  intro n1 n2 HS
  refine wp_region_ext (w := wr) (Below.refl _ _) (by kernel_rfl) (by kernel_rfl) ?_
  repeat (go_big_quiet_step (first | (go_at_call_of 12 c; exact n2 _) | exact n1 _))
  refine wpQuiet_nil ?_
  rintro w9 ⟨⟨_, hb9⟩, rfl⟩
  go_wp2
  go_ret
  exact ⟨ret_bool HS.out.symm, hB.trans (hb9.mono hB.size)⟩
set_option maxRecDepth 100000 in
theorem fmt3 (w : World) : Calls Tryd.prog 19 #[.int .u64 3, .int .i64 10] w fun e w' => e = .returned (.string ⟨#[51]⟩) ∧ Below w.heap.size w w' := by
  go_enter Tryd.func19, Tryd.ntmps19
  go_wp2
  refine bodyPost_ret (v := .string ⟨#[51]⟩) (by kernel_rfl) rfl ⟨rfl, Below.refl _ _⟩
set_option maxRecDepth 100000 in
theorem fmt1 (w : World) : Calls Tryd.prog 19 #[.int .u64 1, .int .i64 10] w fun e w' => e = .returned (.string ⟨#[49]⟩) ∧ Below w.heap.size w w' := by
  go_enter Tryd.func19, Tryd.ntmps19
  go_wp2
  refine bodyPost_ret (v := .string ⟨#[49]⟩) (by kernel_rfl) rfl ⟨rfl, Below.refl _ _⟩

set_option maxRecDepth 100000 in
set_option maxHeartbeats 400000 in
theorem print_any (w : World) : Calls Tryd.prog 13 #[.agg #[.int .u16 3, .int .u32 1]] w fun e w' => e = .returned (.string ⟨#[51, 46, 49]⟩) ∧ Below w.heap.size w w' := by
  have hB : Below w.heap.size w (w.alloc (.cells #[.int .u16 3, .int .u32 1] 26)) := (Below.refl _ _).alloc (Nat.le_refl _) _
  have hz : w.heap.size ≤ (w.alloc (.cells #[.int .u16 3, .int .u32 1] 26)).heap.size := by simp
  have k0 : (w.alloc (.cells #[.int .u16 3, .int .u32 1] 26)).cell? ⟨w.heap.size, 0, none⟩ = some (.int .u16 3) := by simp
  have k1 : (w.alloc (.cells #[.int .u16 3, .int .u32 1] 26)).cell? ⟨w.heap.size, 1, none⟩ = some (.int .u32 1) := by simp
  go_enter Tryd.func13, Tryd.ntmps13
  go_wp2
  revert hB hz k0 k1
  generalize w.alloc (.cells #[.int .u16 3, .int .u32 1] 26) = wr
  intro hB hz k0 k1
  have f0 := cell_extw k0
  have f1 := cell_extw k1
  clear k0 k1
  have n1 : ∀ U : ExtW wr, Calls Tryd.prog 19 #[.int .u64 3, .int .i64 10] U.W fun e w' => e = .returned (.string ⟨#[51]⟩) ∧ ∃ U' : ExtW wr, w' = U'.W := fun U => ext_ofD (fmt3 U.W) rfl
  have n2 : ∀ U : ExtW wr, Calls Tryd.prog 19 #[.int .u64 1, .int .i64 10] U.W fun e w' => e = .returned (.string ⟨#[49]⟩) ∧ ∃ U' : ExtW wr, w' = U'.W := fun U => ext_ofD (fmt1 U.W) rfl
  refine wp_region_ext (w := wr) (Below.refl _ _) (by kernel_rfl) (by kernel_rfl) ?_
  repeat (go_big_quiet_step (first | exact n1 _ | exact n2 _))
  refine wpQuiet_nil ?_
  rintro w9 ⟨⟨_, hb9⟩, rfl⟩
  go_wp2
  refine bodyPost_ret (v := .string ⟨#[51, 46, 49]⟩) (by kernel_rfl) rfl ⟨rfl, hB.trans (hb9.mono hz)⟩

set_option maxRecDepth 100000 in
set_option maxHeartbeats 800000 in
theorem awake_any (w : World) : Calls Tryd.prog 4 #[] w fun e w' => e = .returned (.bool true) ∧ Below w.heap.size w w' := by
  have hB : Below w.heap.size w (w.alloc (.cells #[.int .u16 3, .int .u32 1] 26)) := (Below.refl _ _).alloc (Nat.le_refl _) _
  have hz : w.heap.size ≤ (w.alloc (.cells #[.int .u16 3, .int .u32 1] 26)).heap.size := by simp
  have k0 : (w.alloc (.cells #[.int .u16 3, .int .u32 1] 26)).cell? ⟨w.heap.size, 0, none⟩ = some (.int .u16 3) := by simp
  have k1 : (w.alloc (.cells #[.int .u16 3, .int .u32 1] 26)).cell? ⟨w.heap.size, 1, none⟩ = some (.int .u32 1) := by simp
  obtain ⟨wr, hwr⟩ : ∃ wr, w.alloc (.cells #[.int .u16 3, .int .u32 1] 26) = wr := ⟨_, rfl⟩
  rw [hwr] at hB hz k0 k1
  have o1 : ok (3, 1) := by unfold ok; decide
  have o2 : ok (3, 2) := by unfold ok; decide
  have o3 : ok (4, 1) := by unfold ok; decide
  have F : ∀ W, Below wr.heap.size wr W → W.cell? ⟨w.heap.size, 0, none⟩ = some (.int .u16 3) ∧ W.cell? ⟨w.heap.size, 1, none⟩ = some (.int .u32 1) := fun W h => ⟨cell_to k0 h, cell_to k1 h⟩
  have H0 : Below wr.heap.size wr wr := Below.refl _ _
  have n1 : ∀ W, Below wr.heap.size wr W → Calls Tryd.prog 12 #[.agg #[.int .u16 3, .int .u32 1]] W fun e w' => e = .returned (.int .u64 12884901889) ∧ Below wr.heap.size wr w' := fun W h => relD h ((number_any 3 1 W o1)) (by kernel_rfl)
  have n2 : ∀ W, Below wr.heap.size wr W → Calls Tryd.prog 13 #[.agg #[.int .u16 3, .int .u32 1]] W fun e w' => e = .returned (.string ⟨#[51, 46, 49]⟩) ∧ Below wr.heap.size wr w' := fun W h => relD h (print_any W) rfl
  have n3 : ∀ W, Below wr.heap.size wr W → Calls Tryd.prog 14 #[.agg #[.int .u16 3, .int .u32 1], .agg #[.int .u16 3, .int .u32 2]] W fun e w' => e = .returned (.bool true) ∧ Below wr.heap.size wr w' := fun W h => relD h ((ahead_any 3 1 3 2 W o1 o2)) (by kernel_rfl)
  have n4 : ∀ W, Below wr.heap.size wr W → Calls Tryd.prog 14 #[.agg #[.int .u16 4, .int .u32 1], .agg #[.int .u16 3, .int .u32 1]] W fun e w' => e = .returned (.bool false) ∧ Below wr.heap.size wr w' := fun W h => relD h ((ahead_any 4 1 3 1 W o3 o1)) (by kernel_rfl)
  have N1 := hid n1
  have N2 := hid n2
  have N3 := hid n3
  have N4 := hid n4
  have HF := hid F
  have HW := hid hwr
  clear n1 n2 n3 n4 F hwr
  go_enter Tryd.func4, Tryd.ntmps4
  go_wp2_with (first
    | (go_at_call 12; rw [HW.out]; refine (N1.out _ (by assumption)).mono ?_; rintro e w3 ⟨rfl, hb3⟩; obtain ⟨q0, q1⟩ := HF.out _ hb3)
    | (go_at_call 13; refine (N2.out _ (by assumption)).mono ?_; rintro e w3 ⟨rfl, hb3⟩; obtain ⟨q0, q1⟩ := HF.out _ hb3)
    | (go_at_call 14; (first | (with_reducible refine (N3.out _ ?_).mono ?_) | (with_reducible refine (N4.out _ ?_).mono ?_)); assumption; rintro e w3 ⟨rfl, hb3⟩; obtain ⟨q0, q1⟩ := HF.out _ hb3))
  go_ret
  exact ⟨rfl, hB.trans (Below.mono (by assumption) hz)⟩
end Go.Proofs.YteodaakdjnjhmaaDoor
