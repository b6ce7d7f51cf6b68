import Derived.Test.YtjjahefedpfnaaaDoorB8
import Derived.WalkKit
import Derived.WalkLawsBesides
import Derived.WalkSpells
import Derived.Deep.QuietTactic
import Derived.BigQuiet
import Derived.Deep.RegionWith
import Derived.Lib.EndianBits
namespace Go.Proofs.YtjjahefedpfnaaaDoor
open Go.RowKit
theorem relD {P : Program} {f : FuncId} {args : Array Value} {w0 W : World} {v v' : Value} (hb : Below w0.heap.size w0 W) (h : Calls P f args W fun e w' => e = .returned v ∧ Below W.heap.size W w') (hv : v = v') :
    Calls P f args W fun e w' => e = .returned v' ∧ Below w0.heap.size w0 w' := by
  subst hv
  exact h.mono fun _ _ ⟨h1, h2⟩ => ⟨h1, hb.trans (h2.mono hb.size)⟩
theorem ext_ofD {P : Program} {f : FuncId} {args : Array Value} {w0 : World} {U : ExtW w0} {v v' : Value} (h : Calls P f args U.W fun e w' => e = .returned v ∧ Below U.W.heap.size U.W w') (hv : v = v') :
    Calls P f args U.W fun e w' => e = .returned v' ∧ ∃ U' : ExtW w0, w' = U'.W := by
  subst hv
  refine h.mono ?_
  rintro e w' ⟨rfl, hb⟩
  exact ⟨rfl, ⟨_, U.h.trans (hb.mono U.h.size)⟩, rfl⟩
set_option maxRecDepth 100000 in
theorem fmt3 (w : World) : Calls Tryd.prog 15 #[.int .u64 3, .int .i64 10] w fun e w' => e = .returned (.string ⟨#[51]⟩) ∧ Below w.heap.size w w' := by
  go_enter Tryd.func15, Tryd.ntmps15
  go_wp2
  refine bodyPost_ret (v := .string ⟨#[51]⟩) (by kernel_rfl) rfl ⟨rfl, Below.refl _ _⟩
set_option maxRecDepth 100000 in
theorem fmt1 (w : World) : Calls Tryd.prog 15 #[.int .u64 1, .int .i64 10] w fun e w' => e = .returned (.string ⟨#[49]⟩) ∧ Below w.heap.size w w' := by
  go_enter Tryd.func15, Tryd.ntmps15
  go_wp2
  refine bodyPost_ret (v := .string ⟨#[49]⟩) (by kernel_rfl) rfl ⟨rfl, Below.refl _ _⟩

set_option maxRecDepth 100000 in
set_option maxHeartbeats 400000 in
theorem print_any (w : World) : Calls Tryd.prog 9 #[.agg #[.int .u16 3, .int .u32 1]] w fun e w' => e = .returned (.string ⟨#[51, 46, 49]⟩) ∧ Below w.heap.size w w' := by
  have hB : Below w.heap.size w (w.alloc (.cells #[.int .u16 3, .int .u32 1] 30)) := (Below.refl _ _).alloc (Nat.le_refl _) _
  have hz : w.heap.size ≤ (w.alloc (.cells #[.int .u16 3, .int .u32 1] 30)).heap.size := by simp
  have k0 : (w.alloc (.cells #[.int .u16 3, .int .u32 1] 30)).cell? ⟨w.heap.size, 0, none⟩ = some (.int .u16 3) := by simp
  have k1 : (w.alloc (.cells #[.int .u16 3, .int .u32 1] 30)).cell? ⟨w.heap.size, 1, none⟩ = some (.int .u32 1) := by simp
  go_enter Tryd.func9, Tryd.ntmps9
  go_wp2
  revert hB hz k0 k1
  generalize w.alloc (.cells #[.int .u16 3, .int .u32 1] 30) = wr
  intro hB hz k0 k1
  have f0 := cell_extw k0
  have f1 := cell_extw k1
  clear k0 k1
  have n1 : ∀ U : ExtW wr, Calls Tryd.prog 15 #[.int .u64 3, .int .i64 10] U.W fun e w' => e = .returned (.string ⟨#[51]⟩) ∧ ∃ U' : ExtW wr, w' = U'.W := fun U => ext_ofD (fmt3 U.W) rfl
  have n2 : ∀ U : ExtW wr, Calls Tryd.prog 15 #[.int .u64 1, .int .i64 10] U.W fun e w' => e = .returned (.string ⟨#[49]⟩) ∧ ∃ U' : ExtW wr, w' = U'.W := fun U => ext_ofD (fmt1 U.W) rfl
  refine wp_region_ext (w := wr) (Below.refl _ _) (by kernel_rfl) (by kernel_rfl) ?_
  repeat (go_big_quiet_step (first | exact n1 _ | exact n2 _))
  refine wpQuiet_nil ?_
  rintro w9 ⟨⟨_, hb9⟩, rfl⟩
  go_wp2
  refine bodyPost_ret (v := .string ⟨#[51, 46, 49]⟩) (by kernel_rfl) rfl ⟨rfl, hB.trans (hb9.mono hz)⟩

set_option maxRecDepth 100000 in
set_option maxHeartbeats 800000 in
theorem awake_any (w : World) : Calls Tryd.prog 4 #[] w fun e w' => e = .returned (.bool true) ∧ Below w.heap.size w w' := by
  have hB : Below w.heap.size w (w.alloc (.cells #[.int .u16 3, .int .u32 1] 30)) := (Below.refl _ _).alloc (Nat.le_refl _) _
  have hz : w.heap.size ≤ (w.alloc (.cells #[.int .u16 3, .int .u32 1] 30)).heap.size := by simp
  have k0 : (w.alloc (.cells #[.int .u16 3, .int .u32 1] 30)).cell? ⟨w.heap.size, 0, none⟩ = some (.int .u16 3) := by simp
  have k1 : (w.alloc (.cells #[.int .u16 3, .int .u32 1] 30)).cell? ⟨w.heap.size, 1, none⟩ = some (.int .u32 1) := by simp
  obtain ⟨wr, hwr⟩ : ∃ wr, w.alloc (.cells #[.int .u16 3, .int .u32 1] 30) = wr := ⟨_, rfl⟩
  rw [hwr] at hB hz k0 k1
  have o1 : ok (3, 1) := by unfold ok; decide
  have o2 : ok (3, 2) := by unfold ok; decide
  have o3 : ok (4, 1) := by unfold ok; decide
  have F : ∀ W, Below wr.heap.size wr W → W.cell? ⟨w.heap.size, 0, none⟩ = some (.int .u16 3) ∧ W.cell? ⟨w.heap.size, 1, none⟩ = some (.int .u32 1) := fun W h => ⟨cell_to k0 h, cell_to k1 h⟩
  have H0 : Below wr.heap.size wr wr := Below.refl _ _
  have n1 : ∀ W, Below wr.heap.size wr W → Calls Tryd.prog 8 #[.agg #[.int .u16 3, .int .u32 1]] W fun e w' => e = .returned (.int .u64 12884901889) ∧ Below wr.heap.size wr w' := fun W h => relD h ((number_any 3 1 W o1).mono fun _ _ hh => ⟨hh.1, hh.2.below⟩) (by kernel_rfl)
  have n2 : ∀ W, Below wr.heap.size wr W → Calls Tryd.prog 9 #[.agg #[.int .u16 3, .int .u32 1]] W fun e w' => e = .returned (.string ⟨#[51, 46, 49]⟩) ∧ Below wr.heap.size wr w' := fun W h => relD h (print_any W) rfl
  have n3 : ∀ W, Below wr.heap.size wr W → Calls Tryd.prog 10 #[.agg #[.int .u16 3, .int .u32 1], .agg #[.int .u16 3, .int .u32 2]] W fun e w' => e = .returned (.bool true) ∧ Below wr.heap.size wr w' := fun W h => relD h ((ahead_any 3 1 3 2 W o1 o2).mono fun _ _ hh => ⟨hh.1, hh.2.below⟩) (by kernel_rfl)
  have n4 : ∀ W, Below wr.heap.size wr W → Calls Tryd.prog 10 #[.agg #[.int .u16 4, .int .u32 1], .agg #[.int .u16 3, .int .u32 1]] W fun e w' => e = .returned (.bool false) ∧ Below wr.heap.size wr w' := fun W h => relD h ((ahead_any 4 1 3 1 W o3 o1).mono fun _ _ hh => ⟨hh.1, hh.2.below⟩) (by kernel_rfl)
  have N1 := hid n1
  have N2 := hid n2
  have N3 := hid n3
  have N4 := hid n4
  have HF := hid F
  have HW := hid hwr
  clear n1 n2 n3 n4 F hwr
  go_enter Tryd.func4, Tryd.ntmps4
  go_wp2_with (first
    | (go_at_call 8; rw [HW.out]; refine (N1.out _ (by assumption)).mono ?_; rintro e w3 ⟨rfl, hb3⟩; obtain ⟨q0, q1⟩ := HF.out _ hb3)
    | (go_at_call 9; refine (N2.out _ (by assumption)).mono ?_; rintro e w3 ⟨rfl, hb3⟩; obtain ⟨q0, q1⟩ := HF.out _ hb3)
    | (go_at_call 10; (first | (with_reducible refine (N3.out _ ?_).mono ?_) | (with_reducible refine (N4.out _ ?_).mono ?_)); assumption; rintro e w3 ⟨rfl, hb3⟩; obtain ⟨q0, q1⟩ := HF.out _ hb3))
  go_ret
  exact ⟨rfl, hB.trans (Below.mono (by assumption) hz)⟩
end Go.Proofs.YtjjahefedpfnaaaDoor
