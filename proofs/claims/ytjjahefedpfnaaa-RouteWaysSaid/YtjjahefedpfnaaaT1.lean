import Derived.Test.YtjjahefedpfnaaaRA
import Derived.Test.YtjjahefedpfnaaaShelf
import Derived.Lib.EndianBits
import Derived.Sort.OwnSortedInts
namespace Go.Proofs.Ytjjahefedpfnaaa
open Go.RowKit
open Go.Sort (grow grow_grow grow_empty alloc_eq_grow ahead putRow putCells HoldsK Holds flatK SWO)

/-- w', but for draws and new blocks -/
def Grew (w w' : World) : Prop := ∃ q os, w' = grow (w.drewN q) os
theorem Grew.refl (w : World) : Grew w w := ⟨0, #[], by rw [grow_empty]; rfl⟩
theorem Grew.alloc {w w' : World} (h : Grew w w') (o : Obj) : Grew w (w'.alloc o) := by
  obtain ⟨q, os, rfl⟩ := h
  exact ⟨q, os ++ #[o], by rw [alloc_eq_grow, grow_grow]⟩
theorem Grew.trans {a b c : World} (h : Grew a b) (k : Grew b c) : Grew a c := by
  obtain ⟨q, os, rfl⟩ := h
  obtain ⟨q', os', rfl⟩ := k
  refine ⟨q + q', os ++ os', ?_⟩
  rw [← grow_grow]
  unfold grow World.drewN
  simp [Nat.add_assoc]
theorem Grew.drew {w w' : World} (h : Grew w w') : Grew w w'.drew := h.trans ⟨1, #[], by rw [grow_empty]; rfl⟩
theorem Grew.below {w w' : World} (h : Grew w w') : Below w.heap.size w w' := by
  obtain ⟨q, os, rfl⟩ := h
  refine ⟨rfl, rfl, rfl, by simp [grow, World.drewN], fun k hk => ?_⟩
  simp [grow, World.drewN, Array.getElem?_append, hk]
structure GrewW (w : World) where
  W : World
  h : Grew w W
instance grewW_some (w : World) : Nonempty (GrewW w) := ⟨⟨w, Grew.refl _⟩⟩
theorem wp_region_grew {P : Program} {w wr : World} {id : Nat} {Q : Exit → Act → World → Prop} {a : Act} {l : List Oper} (hb : Grew w wr) (hm : P.follows .mixedOrders = true) (hB : Region.lexB .any l.toArray = true)
    (h : wpQuiet P l.toArray (fun w' => ∃ U : GrewW w, w' = U.W) (fun a' => ∀ w', (∃ U : GrewW w, w' = U.W) → Q .normal a' w') l a) : (Code.region id l.toArray true).wp P Q a wr :=
  wp_region_quiet (C := fun w' => ∃ U : GrewW w, w' = U.W) hm hB ⟨⟨wr.drew, hb.drew⟩, rfl⟩ (by simpa using h)
theorem cell_greww {w : World} {a : Addr} {v : Value} (h : w.cell? a = some v) : ∀ U : GrewW w, U.W.cell? a = some v := fun U => (U.h.below.cell (World.block_lt_of_cell? w _ h)).trans h
theorem grew_of {P : Program} {f : FuncId} {args : Array Value} {w0 : World} {U : GrewW w0} {v v' : Value} (h : Calls P f args U.W fun e w' => e = .returned v ∧ Grew U.W w') (hv : v = v') :
    Calls P f args U.W fun e w' => e = .returned v' ∧ ∃ U' : GrewW w0, w' = U'.W := by
  subst hv
  refine h.mono ?_
  rintro e w' ⟨rfl, hb⟩
  exact ⟨rfl, ⟨_, U.h.trans hb⟩, rfl⟩

/-- a process that may stand in a program -/
def ok (p : Pid) : Prop := 0 ≤ p.1 ∧ p.1 < 65536 ∧ 0 ≤ p.2 ∧ p.2 < 4294967296
def numOf (p : Pid) : Int := p.1 * 4294967296 + p.2
def ahead (p q : Pid) : Bool := decide (numOf p < numOf q)
theorem ret_u64 {a b : Int} (h : a = b) : Ending.returned (.int .u64 a) = .returned (.int .u64 b) := by rw [h]
theorem u64_or32 (x y : Int) (hy₀ : 0 ≤ y) (hy : y < 4294967296) (hx₀ : 0 ≤ x) (hx : x % 4294967296 = 0) (hx₁ : x < 18446744073709551616) : bits .or .u64 x y = x + y :=
  bits_join .u64 64 (by decide) wraps_u64 32 x y hx₀ hx hx₁ hy₀ hy (by omega)
set_option maxHeartbeats 400000 in
theorem number_any (x y : Int) (w : World) (h : ok (x, y)) : Calls Try.prog 104 #[.agg #[.int .u16 x, .int .u32 y]] w fun e w' => e = .returned (.int .u64 (numOf (x, y))) ∧ Grew w w' := by
  obtain ⟨hx, hx2, hy, hy2⟩ := h
  simp only at hx hx2 hy hy2
  go_enter Try.func104, Try.ntmps104
  go_wp2
  go_ret
  exact ⟨ret_u64 (u64_or32 _ _ hy hy2 (by omega) (by omega) (by omega)), (Grew.refl _).alloc _⟩
set_option maxHeartbeats 400000 in
theorem ahead_any (a b c d : Int) (w : World) (h1 : ok (a, b)) (h2 : ok (c, d)) : Calls Try.prog 95 #[.agg #[.int .u16 a, .int .u32 b], .agg #[.int .u16 c, .int .u32 d]] w fun e w' => e = .returned (.bool (ahead (a, b) (c, d))) ∧ Grew w w' := by
  have hB : Grew w ((w.alloc (.cells #[.int .u16 a, .int .u32 b] 32)).alloc (.cells #[.int .u16 c, .int .u32 d] 32)) := ((Grew.refl _).alloc _).alloc _
  have k0 : ((w.alloc (.cells #[.int .u16 a, .int .u32 b] 32)).alloc (.cells #[.int .u16 c, .int .u32 d] 32)).cell? ⟨w.heap.size, 0, none⟩ = some (.int .u16 a) := by simp
  have k1 : ((w.alloc (.cells #[.int .u16 a, .int .u32 b] 32)).alloc (.cells #[.int .u16 c, .int .u32 d] 32)).cell? ⟨w.heap.size, 1, none⟩ = some (.int .u32 b) := by simp
  have k2 : ((w.alloc (.cells #[.int .u16 a, .int .u32 b] 32)).alloc (.cells #[.int .u16 c, .int .u32 d] 32)).cell? ⟨w.heap.size + 1, 0, none⟩ = some (.int .u16 c) := by simp
  have k3 : ((w.alloc (.cells #[.int .u16 a, .int .u32 b] 32)).alloc (.cells #[.int .u16 c, .int .u32 d] 32)).cell? ⟨w.heap.size + 1, 1, none⟩ = some (.int .u32 d) := by simp
  go_enter Try.func95, Try.ntmps95
  go_wp2
  revert hB k0 k1 k2 k3
  generalize (w.alloc (.cells #[.int .u16 a, .int .u32 b] 32)).alloc (.cells #[.int .u16 c, .int .u32 d] 32) = wr
  intro hB k0 k1 k2 k3
  have f0 := cell_greww k0
  have f1 := cell_greww k1
  have f2 := cell_greww k2
  have f3 := cell_greww k3
  clear k0 k1 k2 k3
  have n1 : ∀ U : GrewW wr, Calls Try.prog 104 #[.agg #[.int .u16 a, .int .u32 b]] U.W fun e w' => e = .returned (.int .u64 (numOf (a, b))) ∧ ∃ U' : GrewW wr, w' = U'.W := fun U => grew_of (number_any a b U.W h1) rfl
  have n2 : ∀ U : GrewW wr, Calls Try.prog 104 #[.agg #[.int .u16 c, .int .u32 d]] U.W fun e w' => e = .returned (.int .u64 (numOf (c, d))) ∧ ∃ U' : GrewW wr, w' = U'.W := fun U => grew_of (number_any c d U.W h2) rfl
  have hs : ahead (a, b) (c, d) = decide (numOf (a, b) < numOf (c, d)) := rfl
  have HS := hid hs
  clear hs
  revert n1 n2 HS
  generalize numOf (a, b) = A
  generalize numOf (c, d) = B
  intro n1 n2 HS
  refine wp_region_grew (w := wr) (Grew.refl _) (by kernel_rfl) (by kernel_rfl) ?_
  repeat (go_big_quiet_step (first | (go_at_call_of 104 c; exact n2 _) | exact n1 _))
  refine wpQuiet_nil ?_
  rintro w9 ⟨⟨_, hb9⟩, rfl⟩
  go_wp2
  go_ret
  exact ⟨ret_bool HS.out.symm, hB.trans hb9⟩
theorem ahead_is {a b c d : Int} {w : World} {bm : Bool} (h : Hid (ahead (a, b) (c, d) = bm)) (h1 : ok (a, b)) (h2 : ok (c, d)) : Calls Try.prog 95 #[.agg #[.int .u16 a, .int .u32 b], .agg #[.int .u16 c, .int .u32 d]] w fun e w' => e = .returned (.bool bm) ∧ Grew w w' := by
  have := ahead_any a b c d w h1 h2
  rw [h.out] at this
  exact this
/-- the order of Sort -/
def cmpP (p q : Pid) : Int := if ahead p q = true then -1 else 1
set_option maxHeartbeats 400000 in
theorem cmp_any (a b c d : Int) (w : World) (h1 : ok (a, b)) (h2 : ok (c, d)) : Calls Try.prog 94 #[.agg #[.int .u16 a, .int .u32 b], .agg #[.int .u16 c, .int .u32 d]] w fun e w' => e = .returned (.int .i64 (cmpP (a, b) (c, d))) ∧ Grew w w' := by
  have hB : Grew w ((w.alloc (.cells #[.int .u16 a, .int .u32 b] 32)).alloc (.cells #[.int .u16 c, .int .u32 d] 32)) := ((Grew.refl _).alloc _).alloc _
  have hC : cmpP (a, b) (c, d) = if ahead (a, b) (c, d) = true then -1 else 1 := rfl
  cases h : ahead (a, b) (c, d)
  · rw [h] at hC
    have HC := hid hC
    have H := hid h
    clear h hC
    go_enter Try.func94, Try.ntmps94
    go_wp2_with (go_at_call 95; refine (ahead_is H h1 h2).mono ?_; rintro e w3 ⟨rfl, hb3⟩)
    go_ret
    exact ⟨ret_int HC.out.symm, hB.trans hb3⟩
  · rw [h] at hC
    have HC := hid hC
    have H := hid h
    clear h hC
    go_enter Try.func94, Try.ntmps94
    go_wp2_with (go_at_call 95; refine (ahead_is H h1 h2).mono ?_; rintro e w3 ⟨rfl, hb3⟩)
    go_ret
    exact ⟨ret_int HC.out.symm, hB.trans hb3⟩
end Go.Proofs.Ytjjahefedpfnaaa
