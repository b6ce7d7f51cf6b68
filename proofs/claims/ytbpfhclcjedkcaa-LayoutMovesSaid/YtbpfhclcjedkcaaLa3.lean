/- Parts of the proof: R3 R4 R5 Shelf T1 P1. -/
import Derived.Lib.EndianBits
import Derived.Sort.OwnSortedInts
import Derived.Shelf.SlSortCmp.NoneTotal
import Derived.Test.YtbpfhclcjedkcaaChecked
import Derived.Test.YtbpfhclcjedkcaaR2
namespace Go.Proofs.Ytbpfhclcjedkcaa
open Go.RowKit

def greatB (V : View) : Bool := decide (40 < V.ms.length) || (decide (40 < V.ls.length) || (decide (40 < V.ds.length) || V.ls.any fun l => decide (40 < l.length)))
theorem any_drop {ls : List (List Pid)} {k : Nat} (h : k < ls.length) {l : List Pid} (hl : l = ls[k]) (f : List Pid → Bool) : (ls.drop k).any f = (f l || (ls.drop (k + 1)).any f) := by
  rw [List.drop_eq_getElem_cons h, List.any_cons, ← hl]

set_option maxRecDepth 100000 in
set_option maxHeartbeats 800000 in
theorem great_any (V : View) (am al ad : Option Addr) (cm cl cd : Nat) (w : World) (hV : ViewR w am al ad V) :
   Calls Try.prog 18 #[.agg #[.int .u64 V.id, .slice am V.ms.length cm, .slice al V.ls.length cl, .slice ad V.ds.length cd]] w fun e w' => e = .returned (.bool (greatB V)) ∧ Below w.heap.size w w' := by
  have hBx : Below w.heap.size w (w.alloc (.cells #[.int .u64 V.id, .slice am V.ms.length cm, .slice al V.ls.length cl, .slice ad V.ds.length cd] 33)) := (Below.refl _ _).alloc (Nat.le_refl _) _
  have hVx := hV.ext hBx
  have hbx : ViewBox _ _ V am al ad cm cl cd := ViewBox.made w
  have hll := hV.ll
  by_cases g1 : 40 < V.ms.length
  · have k1 : decide (40 < (V.ms.length : Int)) = true := by simp; omega
    go_enter Try.func18, Try.ntmps18
    go_wp2
    go_ret
    exact ⟨ret_bool (by unfold greatB; rw [decide_eq_true g1]; rfl), hBx⟩
  · have k1 : decide (40 < (V.ms.length : Int)) = false := by simp; omega
    by_cases g2 : 40 < V.ls.length
    · have k2 : decide (40 < (V.ls.length : Int)) = true := by simp; omega
      go_enter Try.func18, Try.ntmps18
      go_wp2
      go_ret
      exact ⟨ret_bool (by unfold greatB; rw [decide_eq_false (by omega), decide_eq_true g2]; rfl), hBx⟩
    · have k2 : decide (40 < (V.ls.length : Int)) = false := by simp; omega
      by_cases g3 : 40 < V.ds.length
      · have k3 : decide (40 < (V.ds.length : Int)) = true := by simp; omega
        go_enter Try.func18, Try.ntmps18
        go_wp2
        go_ret
        exact ⟨ret_bool (by unfold greatB; rw [decide_eq_false (by omega), decide_eq_false (by omega), decide_eq_true g3]; rfl), hBx⟩
      · have k3 : decide (40 < (V.ds.length : Int)) = false := by simp; omega
        have hsp0 : Hid (greatB V = V.ls.any fun l => decide (40 < l.length)) := by
          unfold greatB Hid
          rw [decide_eq_false g1, decide_eq_false g2, decide_eq_false g3]; rfl
        go_enter Try.func18, Try.ntmps18
        go_wp2
        go_loop [2, 3] (fun rs kv => rs = .bool false ∧ ∃ k : Nat, k ≤ V.ls.length ∧ kv = .int .i64 k ∧ Hid (greatB V = (V.ls.drop k).any fun l => decide (40 < l.length))) (fun _ kv => V.ls.length - (intOf kv).toNat)
        case atStart => exact ⟨rfl, 0, Nat.zero_le _, rfl, hsp0⟩
        case round =>
          obtain ⟨rfl, k, hk, rfl, hsp⟩ := hrel
          by_cases hkt : k < V.ls.length
          · obtain ⟨bl, ofl, ai, ci, l, hal, hxl, f1, f2⟩ := hVx.ls.at (Below.refl _ _) rfl hkt
            subst hal
            have hd := any_drop hkt hxl (fun l => decide (40 < l.length))
            have HD := hid hd
            clear hd hxl
            by_cases hl : 40 < l.length
            · go_wp2
              go_ret
              exact ⟨ret_bool (by rw [hsp.out, HD.out, decide_eq_true hl]; rfl), hBx⟩
            · go_wp2
              go_round
              case rel => exact ⟨rfl, k + 1, by omega, by go_num, hsp.out.trans (by rw [HD.out, decide_eq_false (by omega)]; rfl)⟩
              case measure => simp [intOf]; omega
          · go_wp2
            go_ret
            exact ⟨ret_bool (by rw [hsp.out, List.drop_eq_nil_of_le (by omega)]; rfl), hBx⟩

theorem great_is {V : View} {am al ad : Option Addr} {cm cl cd : Nat} {w : World} {bm : Bool} (h : Hid (greatB V = bm)) (hV : ViewR w am al ad V) :
   Calls Try.prog 18 #[.agg #[.int .u64 V.id, .slice am V.ms.length cm, .slice al V.ls.length cl, .slice ad V.ds.length cd]] w fun e w' => e = .returned (.bool bm) ∧ Below w.heap.size w w' := by
  have := great_any V am al ad cm cl cd w hV
  rw [h.out] at this
  exact this

/-! ### Quorum, Leaf, Rank -/
end Go.Proofs.Ytbpfhclcjedkcaa

namespace Go.Proofs.Ytbpfhclcjedkcaa
open Go.RowKit
set_option maxRecDepth 100000 in
set_option maxHeartbeats 800000 in
theorem leaf_any (V : View) (am al ad : Option Addr) (cm cl cd : Nat) (x y : Int) (w : World) (hV : ViewR w am al ad V) :
   Calls Try.prog 78 #[.agg #[.int .u64 V.id, .slice am V.ms.length cm, .slice al V.ls.length cl, .slice ad V.ds.length cd], .agg #[.int .u16 x, .int .u32 y]] w fun e w' => e = .returned (.int .i64 (leafIx V.ls (x, y))) ∧ Below w.heap.size w w' := by
  have hB2 : Below w.heap.size w ((w.alloc (.cells #[.int .u64 V.id, .slice am V.ms.length cm, .slice al V.ls.length cl, .slice ad V.ds.length cd] 33)).alloc (.cells #[.int .u16 x, .int .u32 y] 26)) := ((Below.refl _ _).alloc (Nat.le_refl _) _).alloc (by simp) _
  have hV2 := hV.ext hB2
  have k0 : ((w.alloc (.cells #[.int .u64 V.id, .slice am V.ms.length cm, .slice al V.ls.length cl, .slice ad V.ds.length cd] 33)).alloc (.cells #[.int .u16 x, .int .u32 y] 26)).cell? ⟨w.heap.size + 1, 0, none⟩ = some (.int .u16 x) := by simp
  have k1 : ((w.alloc (.cells #[.int .u64 V.id, .slice am V.ms.length cm, .slice al V.ls.length cl, .slice ad V.ds.length cd] 33)).alloc (.cells #[.int .u16 x, .int .u32 y] 26)).cell? ⟨w.heap.size + 1, 1, none⟩ = some (.int .u32 y) := by simp
  go_enter Try.func78, Try.ntmps78
  go_wp2_with (go_at_call 175; go_loud (refine (indexFunc_any _ _ _ _ _ _ _ hV.ll hV.le hV2.ls k0 k1).mono ?_); rintro e w3 ⟨rfl, hb3⟩)
  go_ret
  exact ⟨rfl, hB2.trans (hb3.mono (by simp; omega))⟩

theorem PidRow.two (w : World) (x1 y1 x2 y2 : Int) : PidRow (w.alloc (.cells #[.int .u16 x1, .int .u32 y1, .int .u16 x2, .int .u32 y2] 26)) (some ⟨w.heap.size, 0, none⟩) [(x1, y1), (x2, y2)] :=
  .inr ⟨_, 0, rfl, by simp, fun i hi => by
    match i, hi with
    | 0, _ => exact ⟨by simp, by simp⟩
    | 1, _ => exact ⟨by simp, by simp⟩⟩
theorem PidRow.three (w : World) (x1 y1 x2 y2 x3 y3 : Int) : PidRow (w.alloc (.cells #[.int .u16 x1, .int .u32 y1, .int .u16 x2, .int .u32 y2, .int .u16 x3, .int .u32 y3] 26)) (some ⟨w.heap.size, 0, none⟩) [(x1, y1), (x2, y2), (x3, y3)] :=
  .inr ⟨_, 0, rfl, by simp, fun i hi => by
    match i, hi with
    | 0, _ => exact ⟨by simp, by simp⟩
    | 1, _ => exact ⟨by simp, by simp⟩
    | 2, _ => exact ⟨by simp, by simp⟩⟩
theorem PidRow.one' (w : World) {b : Nat} (h : b = w.heap.size) (x y : Int) : PidRow (w.alloc (.cells #[.int .u16 x, .int .u32 y] 26)) (some ⟨b, 0, none⟩) [(x, y)] := by subst h; exact PidRow.one _ _ _
theorem LeafRow.alloc {w : World} {a : Option Addr} {xs : List (List Pid)} (h : LeafRow w a xs) (o : Obj) : LeafRow (w.alloc o) a xs := h.ext ((Below.refl _ _).alloc (Nat.le_refl _) _)
theorem PidRow.alloc {w : World} {a : Option Addr} {xs : List Pid} (h : PidRow w a xs) (o : Obj) : PidRow (w.alloc o) a xs := h.ext ((Below.refl _ _).alloc (Nat.le_refl _) _)

end Go.Proofs.Ytbpfhclcjedkcaa

namespace Go.Proofs.Ytbpfhclcjedkcaa
open Go.RowKit

theorem rel {P : Program} {f : FuncId} {args : Array Value} {w0 W : World} {v v' : Value} (hb : Below w0.heap.size w0 W) (h : Calls P f args W fun e w' => e = .returned v ∧ Below W.heap.size W w') (hv : v = v') :
    Calls P f args W fun e w' => e = .returned v' ∧ Below w0.heap.size w0 w' := by
  subst hv
  exact h.mono fun _ _ ⟨h1, h2⟩ => ⟨h1, hb.trans (h2.mono hb.size)⟩

end Go.Proofs.Ytbpfhclcjedkcaa

/- The contract of slices.SortFunc at this program: the numbers, and a field a fact. Printed by the kit. -/
namespace Go.Proofs
open Go.Shelf
def Try.sortPid_ren : Go.Shelf.Ren := ⟨fun | 6 => 209 | 15 => 235 | 14 => 234 | 28 => 253 | 29 => 254 | 20 => 245 | 21 => 246 | 22 => 247 | 23 => 248 | 24 => 249 | 25 => 250 | 26 => 251 | 27 => 252 | 46 => 257 | 47 => 258 | 48 => 259 | 49 => 260 | 50 => 261 | 57 => 270 | n => n, fun | 22 => 30 | 24 => 26 | 25 => 250 | 3 => 3 | 39 => 142 | 0 => 0 | 53 => 24 | 55 => 29 | 4 => 4 | 46 => 275 | 45 => 274 | 50 => 224 | 5 => 5 | 9 => 9 | 66 => 283 | 70 => 285 | 76 => 292 | 77 => 293 | n => n, fun | n => n⟩
theorem Try.sortPid : Go.Proofs.SlLaysF0.n6 Try.prog Try.sortPid_ren := {
  mixed := by kernel_rfl
  f6 := ⟨Try.f209.name, by decide, Try.func209.trans (congrArg some (by kernel_rfl))⟩
  f14 := ⟨Try.f234.name, by decide, Try.func234.trans (congrArg some (by kernel_rfl))⟩
  f15 := Try.func235.trans (congrArg some (by kernel_rfl))
  f20 := ⟨Try.f245.name, by decide, Try.func245.trans (congrArg some (by kernel_rfl))⟩
  f21 := ⟨Try.f246.name, by decide, Try.func246.trans (congrArg some (by kernel_rfl))⟩
  f22 := ⟨Try.f247.name, by decide, Try.func247.trans (congrArg some (by kernel_rfl))⟩
  f23 := ⟨Try.f248.name, by decide, Try.func248.trans (congrArg some (by kernel_rfl))⟩
  f24 := ⟨Try.f249.name, by decide, Try.func249.trans (congrArg some (by kernel_rfl))⟩
  f25 := ⟨Try.f250.name, by decide, Try.func250.trans (congrArg some (by kernel_rfl))⟩
  f26 := ⟨Try.f251.name, by decide, Try.func251.trans (congrArg some (by kernel_rfl))⟩
  f27 := ⟨Try.f252.name, by decide, Try.func252.trans (congrArg some (by kernel_rfl))⟩
  f28 := Try.func253.trans (congrArg some (by kernel_rfl))
  f29 := Try.func254.trans (congrArg some (by kernel_rfl))
  f46 := ⟨Try.f257.name, by decide, Try.func257.trans (congrArg some (by kernel_rfl))⟩
  f47 := Try.func258.trans (congrArg some (by kernel_rfl))
  f48 := Try.func259.trans (congrArg some (by kernel_rfl))
  f49 := ⟨Try.f260.name, by decide, Try.func260.trans (congrArg some (by kernel_rfl))⟩
  f50 := ⟨Try.f261.name, by decide, Try.func261.trans (congrArg some (by kernel_rfl))⟩
  f57 := ⟨Try.f270.name, by decide, Try.func270.trans (congrArg some (by kernel_rfl))⟩
  t0 := Try.underlying0
  a0 := Try.isAgg0
  z0 := Try.sizeOf0
  v0 := Try.zeroValue0
  t3 := Try.underlying3
  a3 := Try.isAgg3
  z3 := Try.sizeOf3
  v3 := Try.zeroValue3
  t4 := Try.underlying4
  a4 := Try.isAgg4
  z4 := Try.sizeOf4
  v4 := Try.zeroValue4
  t5 := Try.underlying5
  a5 := Try.isAgg5
  z5 := Try.sizeOf5
  v5 := Try.zeroValue5
  t9 := Try.underlying9
  a9 := Try.isAgg9
  z9 := Try.sizeOf9
  v9 := Try.zeroValue9
  t22 := Try.underlying30
  a22 := Try.isAgg30
  z22 := Try.sizeOf30
  v22 := Try.zeroValue30
  t25 := Try.underlying250
  a25 := Try.isAgg250
  z25 := Try.sizeOf250
  v25 := Try.zeroValue250
  t39 := Try.underlying142
  a39 := Try.isAgg142
  z39 := Try.sizeOf142
  v39 := Try.zeroValue142
  t45 := Try.underlying274
  a45 := Try.isAgg274
  z45 := Try.sizeOf274
  v45 := Try.zeroValue274
  t46 := Try.underlying275
  a46 := Try.isAgg275
  z46 := Try.sizeOf275
  v46 := Try.zeroValue275
  t50 := Try.underlying224
  a50 := Try.isAgg224
  z50 := Try.sizeOf224
  v50 := Try.zeroValue224
  t53 := Try.underlying24
  a53 := Try.isAgg24
  z53 := Try.sizeOf24
  v53 := Try.zeroValue24
  t55 := Try.underlying29
  a55 := Try.isAgg29
  z55 := Try.sizeOf29
  v55 := Try.zeroValue29
  t66 := Try.underlying283
  a66 := Try.isAgg283
  z66 := Try.sizeOf283
  v66 := Try.zeroValue283
  t70 := Try.underlying285
  a70 := Try.isAgg285
  z70 := Try.sizeOf285
  v70 := Try.zeroValue285
  t76 := Try.underlying292
  a76 := Try.isAgg292
  z76 := Try.sizeOf292
  v76 := Try.zeroValue292
  t77 := Try.underlying293
  a77 := Try.isAgg293
  z77 := Try.sizeOf293
  v77 := Try.zeroValue293 }
end Go.Proofs

namespace Go.Proofs.Ytbpfhclcjedkcaa
open Go.RowKit
open Go.Sort (grow grow_grow grow_empty alloc_eq_grow ahead putRow putCells HoldsK Holds flatK SWO)

/-- w', but for draws and new blocks -/
def Grew (w w' : World) : Prop := ∃ q os, w' = grow (w.drewN q) os
theorem Grew.refl (w : World) : Grew w w := ⟨0, #[], by rw [grow_empty]; rfl⟩
theorem Grew.alloc {w w' : World} (h : Grew w w') (o : Obj) : Grew w (w'.alloc o) := by
  obtain ⟨q, os, rfl⟩ := h
  exact ⟨q, os ++ #[o], by rw [alloc_eq_grow, grow_grow]⟩
theorem Grew.trans {a b c : World} (h : Grew a b) (k : Grew b c) : Grew a c := by
  obtain ⟨q, os, rfl⟩ := h
  obtain ⟨q', os', rfl⟩ := k
  refine ⟨q + q', os ++ os', ?_⟩
  rw [← grow_grow]
  unfold grow World.drewN
  simp [Nat.add_assoc]
theorem Grew.drew {w w' : World} (h : Grew w w') : Grew w w'.drew := h.trans ⟨1, #[], by rw [grow_empty]; rfl⟩
theorem Grew.below {w w' : World} (h : Grew w w') : Below w.heap.size w w' := by
  obtain ⟨q, os, rfl⟩ := h
  refine ⟨rfl, rfl, rfl, by simp [grow, World.drewN], fun k hk => ?_⟩
  simp [grow, World.drewN, Array.getElem?_append, hk]
structure GrewW (w : World) where
  W : World
  h : Grew w W
instance grewW_some (w : World) : Nonempty (GrewW w) := ⟨⟨w, Grew.refl _⟩⟩
theorem wp_region_grew {P : Program} {w wr : World} {id : Nat} {Q : Exit → Act → World → Prop} {a : Act} {l : List Oper} (hb : Grew w wr) (hm : P.follows .mixedOrders = true) (hB : Region.lexB .any l.toArray = true)
    (h : wpQuiet P l.toArray (fun w' => ∃ U : GrewW w, w' = U.W) (fun a' => ∀ w', (∃ U : GrewW w, w' = U.W) → Q .normal a' w') l a) : (Code.region id l.toArray true).wp P Q a wr :=
  wp_region_quiet (C := fun w' => ∃ U : GrewW w, w' = U.W) hm hB ⟨⟨wr.drew, hb.drew⟩, rfl⟩ (by simpa using h)
theorem cell_greww {w : World} {a : Addr} {v : Value} (h : w.cell? a = some v) : ∀ U : GrewW w, U.W.cell? a = some v := fun U => (U.h.below.cell (World.block_lt_of_cell? w _ h)).trans h
theorem grew_of {P : Program} {f : FuncId} {args : Array Value} {w0 : World} {U : GrewW w0} {v v' : Value} (h : Calls P f args U.W fun e w' => e = .returned v ∧ Grew U.W w') (hv : v = v') :
    Calls P f args U.W fun e w' => e = .returned v' ∧ ∃ U' : GrewW w0, w' = U'.W := by
  subst hv
  refine h.mono ?_
  rintro e w' ⟨rfl, hb⟩
  exact ⟨rfl, ⟨_, U.h.trans hb⟩, rfl⟩

/-- a process that may stand in a program -/
def ok (p : Pid) : Prop := 0 ≤ p.1 ∧ p.1 < 65536 ∧ 0 ≤ p.2 ∧ p.2 < 4294967296
def numOf (p : Pid) : Int := p.1 * 4294967296 + p.2
def ahead (p q : Pid) : Bool := decide (numOf p < numOf q)
theorem ret_u64 {a b : Int} (h : a = b) : Ending.returned (.int .u64 a) = .returned (.int .u64 b) := by rw [h]
theorem u64_or32 (x y : Int) (hy₀ : 0 ≤ y) (hy : y < 4294967296) (hx₀ : 0 ≤ x) (hx : x % 4294967296 = 0) (hx₁ : x < 18446744073709551616) : bits .or .u64 x y = x + y :=
  bits_join .u64 64 (by decide) wraps_u64 32 x y hx₀ hx hx₁ hy₀ hy (by omega)
set_option maxHeartbeats 400000 in
theorem number_any (x y : Int) (w : World) (h : ok (x, y)) : Calls Try.prog 232 #[.agg #[.int .u16 x, .int .u32 y]] w fun e w' => e = .returned (.int .u64 (numOf (x, y))) ∧ Grew w w' := by
  obtain ⟨hx, hx2, hy, hy2⟩ := h
  simp only at hx hx2 hy hy2
  go_enter Try.func232, Try.ntmps232
  go_wp2
  go_ret
  exact ⟨ret_u64 (u64_or32 _ _ hy hy2 (by omega) (by omega) (by omega)), (Grew.refl _).alloc _⟩
set_option maxHeartbeats 400000 in
theorem ahead_any (a b c d : Int) (w : World) (h1 : ok (a, b)) (h2 : ok (c, d)) : Calls Try.prog 195 #[.agg #[.int .u16 a, .int .u32 b], .agg #[.int .u16 c, .int .u32 d]] w fun e w' => e = .returned (.bool (ahead (a, b) (c, d))) ∧ Grew w w' := by
  have hB : Grew w ((w.alloc (.cells #[.int .u16 a, .int .u32 b] 26)).alloc (.cells #[.int .u16 c, .int .u32 d] 26)) := ((Grew.refl _).alloc _).alloc _
  have k0 : ((w.alloc (.cells #[.int .u16 a, .int .u32 b] 26)).alloc (.cells #[.int .u16 c, .int .u32 d] 26)).cell? ⟨w.heap.size, 0, none⟩ = some (.int .u16 a) := by simp
  have k1 : ((w.alloc (.cells #[.int .u16 a, .int .u32 b] 26)).alloc (.cells #[.int .u16 c, .int .u32 d] 26)).cell? ⟨w.heap.size, 1, none⟩ = some (.int .u32 b) := by simp
  have k2 : ((w.alloc (.cells #[.int .u16 a, .int .u32 b] 26)).alloc (.cells #[.int .u16 c, .int .u32 d] 26)).cell? ⟨w.heap.size + 1, 0, none⟩ = some (.int .u16 c) := by simp
  have k3 : ((w.alloc (.cells #[.int .u16 a, .int .u32 b] 26)).alloc (.cells #[.int .u16 c, .int .u32 d] 26)).cell? ⟨w.heap.size + 1, 1, none⟩ = some (.int .u32 d) := by simp
  go_enter Try.func195, Try.ntmps195
  go_wp2
  revert hB k0 k1 k2 k3
  generalize (w.alloc (.cells #[.int .u16 a, .int .u32 b] 26)).alloc (.cells #[.int .u16 c, .int .u32 d] 26) = wr
  intro hB k0 k1 k2 k3
  have f0 := cell_greww k0
  have f1 := cell_greww k1
  have f2 := cell_greww k2
  have f3 := cell_greww k3
  clear k0 k1 k2 k3
  have n1 : ∀ U : GrewW wr, Calls Try.prog 232 #[.agg #[.int .u16 a, .int .u32 b]] U.W fun e w' => e = .returned (.int .u64 (numOf (a, b))) ∧ ∃ U' : GrewW wr, w' = U'.W := fun U => grew_of (number_any a b U.W h1) rfl
  have n2 : ∀ U : GrewW wr, Calls Try.prog 232 #[.agg #[.int .u16 c, .int .u32 d]] U.W fun e w' => e = .returned (.int .u64 (numOf (c, d))) ∧ ∃ U' : GrewW wr, w' = U'.W := fun U => grew_of (number_any c d U.W h2) rfl
  have hs : ahead (a, b) (c, d) = decide (numOf (a, b) < numOf (c, d)) := rfl
  have HS := hid hs
  clear hs
  revert n1 n2 HS
  generalize numOf (a, b) = A
  generalize numOf (c, d) = B
  intro n1 n2 HS
  refine wp_region_grew (w := wr) (Grew.refl _) (by kernel_rfl) (by kernel_rfl) ?_
  repeat (go_big_quiet_step (first | (go_at_call_of 232 c; exact n2 _) | exact n1 _))
  refine wpQuiet_nil ?_
  rintro w9 ⟨⟨_, hb9⟩, rfl⟩
  go_wp2
  go_ret
  exact ⟨ret_bool HS.out.symm, hB.trans hb9⟩
theorem ahead_is {a b c d : Int} {w : World} {bm : Bool} (h : Hid (ahead (a, b) (c, d) = bm)) (h1 : ok (a, b)) (h2 : ok (c, d)) : Calls Try.prog 195 #[.agg #[.int .u16 a, .int .u32 b], .agg #[.int .u16 c, .int .u32 d]] w fun e w' => e = .returned (.bool bm) ∧ Grew w w' := by
  have := ahead_any a b c d w h1 h2
  rw [h.out] at this
  exact this
/-- the order of Sort -/
def cmpP (p q : Pid) : Int := if ahead p q = true then -1 else 1
set_option maxHeartbeats 400000 in
theorem cmp_any (a b c d : Int) (w : World) (h1 : ok (a, b)) (h2 : ok (c, d)) : Calls Try.prog 210 #[.agg #[.int .u16 a, .int .u32 b], .agg #[.int .u16 c, .int .u32 d]] w fun e w' => e = .returned (.int .i64 (cmpP (a, b) (c, d))) ∧ Grew w w' := by
  have hB : Grew w ((w.alloc (.cells #[.int .u16 a, .int .u32 b] 26)).alloc (.cells #[.int .u16 c, .int .u32 d] 26)) := ((Grew.refl _).alloc _).alloc _
  have hC : cmpP (a, b) (c, d) = if ahead (a, b) (c, d) = true then -1 else 1 := rfl
  cases h : ahead (a, b) (c, d)
  · rw [h] at hC
    have HC := hid hC
    have H := hid h
    clear h hC
    go_enter Try.func210, Try.ntmps210
    go_wp2_with (go_at_call 195; refine (ahead_is H h1 h2).mono ?_; rintro e w3 ⟨rfl, hb3⟩)
    go_ret
    exact ⟨ret_int HC.out.symm, hB.trans hb3⟩
  · rw [h] at hC
    have HC := hid hC
    have H := hid h
    clear h hC
    go_enter Try.func210, Try.ntmps210
    go_wp2_with (go_at_call 195; refine (ahead_is H h1 h2).mono ?_; rintro e w3 ⟨rfl, hb3⟩)
    go_ret
    exact ⟨ret_int HC.out.symm, hB.trans hb3⟩
end Go.Proofs.Ytbpfhclcjedkcaa

namespace Go.Proofs.Ytbpfhclcjedkcaa

/-! ## the plain law: view.Check answers as the document says -/
def keys {α β : Type} (L : List (α × β)) : List α := L.map (·.1)
theorem look_isSome {α β : Type} [DecidableEq α] {x : α} : ∀ {L : List (α × β)}, (look x L).isSome = true ↔ x ∈ keys L
  | [] => by simp [look, keys]
  | p :: l => by
    have ih := look_isSome (x := x) (L := l)
    have e : look x (p :: l) = if x = p.1 then some p.2 else look x l := rfl
    have ek : keys (p :: l) = p.1 :: keys l := rfl
    rw [e, ek, List.mem_cons, ← ih]
    by_cases h : x = p.1 <;> simp [h]
theorem ins_len {α β : Type} [DecidableEq α] {x : α} {v : β} : ∀ {L : List (α × β)}, x ∉ keys L → ins x v L = L ++ [(x, v)]
  | [], _ => rfl
  | p :: l, h => by
    simp only [keys, List.map_cons, List.mem_cons, not_or] at h
    simp only [ins, if_neg h.1, List.cons_append]
    rw [ins_len h.2]
theorem look_ins {α β : Type} [DecidableEq α] {x y : α} {v : β} : ∀ {L : List (α × β)}, look x (ins y v L) = if x = y then some v else look x L
  | [] => by simp [ins, look]
  | p :: l => by
    have ih := look_ins (x := x) (y := y) (v := v) (L := l)
    simp only [ins]
    by_cases h : y = p.1
    · simp only [if_pos h, look]
      by_cases hx : x = y
      · simp [hx]
      · have : ¬ x = p.1 := fun e => hx (e.trans h.symm)
        simp [hx, this]
    · simp only [if_neg h, look, ih]
      by_cases hx : x = p.1
      · have : ¬ x = y := fun e => h (e.symm.trans hx)
        simp [hx]
        intro e; exact absurd (e.symm) (by intro e2; exact h (by rw [← e2]))
      · simp [hx]

theorem add1_of_mem {p : Pid} {L : List (Pid × Unit)} (h : p ∈ keys L) : add1 p L = L := by unfold add1; rw [if_pos (look_isSome.2 h)]
theorem add1_of_not {p : Pid} {L : List (Pid × Unit)} (h : p ∉ keys L) : add1 p L = L ++ [(p, ())] := by
  unfold add1; rw [if_neg (fun e => h (look_isSome.1 e)), ins_len h]
theorem unionL_len : ∀ (xs : List Pid) (L : List (Pid × Unit)), (unionL L xs).length ≤ L.length + xs.length ∧ ((unionL L xs).length = L.length + xs.length ↔ xs.Nodup ∧ ∀ x ∈ xs, x ∉ keys L)
  | [], L => by simp [unionL]
  | p :: l, L => by
    simp only [unionL]
    by_cases h : p ∈ keys L
    · obtain ⟨h1, h2⟩ := unionL_len l L
      rw [add1_of_mem h]
      refine ⟨by simp only [List.length_cons]; omega, ?_⟩
      constructor
      · intro e; simp only [List.length_cons] at e; omega
      · rintro ⟨_, h3⟩; exact absurd h (h3 p (List.mem_cons_self ..))
    · obtain ⟨h1, h2⟩ := unionL_len l (L ++ [(p, ())])
      rw [add1_of_not h]
      simp only [List.length_append, List.length_cons, List.length_nil] at h1 h2 ⊢
      refine ⟨by omega, ?_⟩
      have e : (unionL (L ++ [(p, ())]) l).length = L.length + (l.length + 1) ↔ (unionL (L ++ [(p, ())]) l).length = L.length + (0 + 1) + l.length := by omega
      rw [e, h2, List.nodup_cons]
      have hk : keys (L ++ [(p, ())]) = keys L ++ [p] := by simp [keys]
      rw [hk]
      simp only [List.mem_append, List.mem_cons, List.not_mem_nil, or_false, not_or]
      constructor
      · rintro ⟨a, b⟩
        exact ⟨⟨fun hp => (b p hp).2 rfl, a⟩, fun x hx => by
          rcases hx with rfl | hx
          · exact h
          · exact (b x hx).1⟩
      · rintro ⟨⟨a, b⟩, c⟩
        exact ⟨b, fun x hx => ⟨c x (.inr hx), fun e => a (e ▸ hx)⟩⟩
theorem unionL_nodup {xs : List Pid} : (unionL [] xs).length = xs.length ↔ xs.Nodup := by
  have := (unionL_len xs []).2
  simpa [keys] using this

theorem memFrom_iff {n : Nat} : ∀ {xs : List Pid} {S : List (Int × Unit)}, memFrom n S xs = true ↔ (0 < n ∧ n ≤ 24) ∧ (∀ p ∈ xs, mayB p = true) ∧ xs.Pairwise (fun p q => p.1 ≠ q.1) ∧ ∀ p ∈ xs, p.1 ∉ keys S
  | [], S => by simp [memFrom]
  | p :: l, S => by
    simp only [memFrom]
    by_cases h : p.1 ∈ keys S
    · rw [if_pos (look_isSome.2 h)]
      simp only [Bool.false_eq_true, false_iff]
      rintro ⟨_, _, _, h4⟩
      exact h4 p (List.mem_cons_self ..) h
    · rw [if_neg (fun e => h (look_isSome.1 e))]
      by_cases hm : mayB p = true
      · rw [if_pos hm, memFrom_iff, ins_len h]
        have hk : keys (S ++ [(p.1, ())]) = keys S ++ [p.1] := by simp [keys]
        rw [hk]
        simp only [List.mem_append, List.mem_cons, List.not_mem_nil, or_false, not_or, List.pairwise_cons, forall_eq_or_imp]
        constructor
        · rintro ⟨a, b, c, d⟩
          exact ⟨a, ⟨hm, b⟩, ⟨fun q hq e => (d q hq).2 e.symm, c⟩, h, fun q hq => (d q hq).1⟩
        · rintro ⟨a, ⟨_, b⟩, ⟨c, d⟩, _, e⟩
          exact ⟨a, b, d, fun q hq => ⟨e q hq, fun e2 => c q hq e2.symm⟩⟩
      · rw [if_neg hm]
        simp only [Bool.false_eq_true, false_iff]
        rintro ⟨_, b, _⟩
        exact hm (b p (List.mem_cons_self ..))

/-- the heads of the leaves -/
def heads : List (List Pid) → List Pid
  | [] => []
  | l :: r => l.head?.toList ++ heads r
theorem chkFrom_iff {S : List (Pid × Int)} {K : List Pid → Nat → Bool} : ∀ {ls : List (List Pid)} {F : List Pid} {n : Nat}, chkFrom S K F n ls = true ↔ (∀ l ∈ ls, l ≠ [] ∧ risFrom S (-1) l = true) ∧ K (F ++ heads ls) (n + lens ls) = true
  | [], F, n => by simp [chkFrom, heads, lens]
  | l :: r, F, n => by
    cases l with
    | nil => simp [chkFrom]
    | cons p l =>
      simp only [chkFrom]
      by_cases h : risFrom S (-1) (p :: l) = true
      · rw [if_pos h, chkFrom_iff]
        have e1 : F ++ [p] ++ heads r = F ++ heads ((p :: l) :: r) := by simp [heads]
        have e2 : n + (p :: l).length + lens r = n + lens ((p :: l) :: r) := by simp [lens]; omega
        rw [e1, e2]
        simp [h]
      · rw [if_neg h]; simp [h]
/-- the rank of p, if it is a member -/
def rankO (ms : List Pid) (p : Pid) : Option Int := if atIx ms p < 0 then none else some (atIx ms p)
theorem look_ranks {p : Pid} : ∀ {xs : List Pid} {S : List (Pid × Int)} {k : Nat}, look p (ranksFrom S xs k) = match look p S with | some v => some v | none => if atFrom p xs k < 0 then none else some (atFrom p xs k)
  | [], S, k => by
    simp only [ranksFrom, atFrom]
    cases look p S <;> simp
  | q :: l, S, k => by
    simp only [ranksFrom, atFrom]
    by_cases h : (look q S).isSome = true
    · rw [if_pos h, look_ranks]
      cases hp : look p S with
      | some v => rfl
      | none =>
        have : ¬ q = p := fun e => by subst e; rw [hp] at h; simp at h
        simp only [if_neg this]
    · rw [if_neg h, look_ranks, look_ins]
      by_cases hpq : p = q
      · subst hpq
        have : look p S = none := by simpa using h
        simp only [if_true, this]
        rw [if_neg (by omega)]
      · have : ¬ q = p := fun e => hpq e.symm
        simp only [if_neg hpq, if_neg this]
theorem look_ranksL {ms : List Pid} {p : Pid} : look p (ranksL ms) = rankO ms p := by
  unfold ranksL rankO atIx
  rw [look_ranks]
  rfl
/-! ### lists without repeats -/
theorem nodup_of_ids {ms : List Pid} (h : ms.Pairwise (fun p q => p.1 ≠ q.1)) : ms.Nodup := h.imp fun hne e => hne (by rw [e])
theorem nodup_len {l : List Pid} : ∀ {m : List Pid}, l.Nodup → (∀ x ∈ l, x ∈ m) → l.length ≤ m.length := by
  induction l with
  | nil => intro m _ _; simp
  | cons p l ih =>
    intro m hn hs
    rw [List.nodup_cons] at hn
    have hp := hs p (List.mem_cons_self ..)
    have h := ih (m := m.erase p) hn.2 (fun x hx => by
      have hne : x ≠ p := fun e => hn.1 (e ▸ hx)
      exact (List.mem_erase_of_ne hne).2 (hs x (List.mem_cons_of_mem _ hx)))
    rw [List.length_erase_of_mem hp] at h
    have := List.length_pos_of_mem hp
    simp only [List.length_cons]
    omega
theorem count_sum {l : List Pid} : ∀ {m : List Pid}, m.Nodup → (∀ x ∈ l, x ∈ m) → l.length = (m.map fun p => l.count p).sum := by
  induction l with
  | nil =>
    intro m _ _
    have : ∀ m : List Pid, (m.map fun p => ([] : List Pid).count p).sum = 0 := by
      intro m; induction m with
      | nil => rfl
      | cons a m ih => simp only [List.map_cons, List.sum_cons, ih]; simp
    rw [this]; rfl
  | cons q l ih =>
    intro m hm hs
    have h := ih hm (fun x hx => hs x (List.mem_cons_of_mem _ hx))
    have hq := hs q (List.mem_cons_self ..)
    have key : ∀ m : List Pid, m.Nodup → (m.map fun p => (q :: l).count p).sum = (m.map fun p => l.count p).sum + (if q ∈ m then 1 else 0) := by
      intro m
      induction m with
      | nil => intro _; simp
      | cons a m ihm =>
        intro hn
        rw [List.nodup_cons] at hn
        rw [List.map_cons, List.sum_cons, ihm hn.2, List.map_cons, List.sum_cons, List.count_cons]
        by_cases hqa : q = a
        · subst hqa
          simp only [beq_self_eq_true, if_true, if_neg hn.1, List.mem_cons, true_or]
          omega
        · have hb : (q == a) = false := by simpa using hqa
          simp only [hb, List.mem_cons, hqa, false_or, Bool.false_eq_true, if_false]
          omega
    rw [key m hm, if_pos hq, List.length_cons, h]
theorem sum_one : ∀ {m : List Pid} {f : Pid → Nat}, (∀ p ∈ m, f p = 1) → (m.map f).sum = m.length
  | [], _, _ => rfl
  | a :: m, f, h => by
    simp only [List.map_cons, List.sum_cons, List.length_cons, sum_one (fun p hp => h p (List.mem_cons_of_mem _ hp)), h a (List.mem_cons_self ..)]
    omega
/-- each member is met once, just if the lists have no repeat and as many elements as there are members -/
theorem count_iff {ms fl : List Pid} (hm : ms.Nodup) (hs : ∀ x ∈ fl, x ∈ ms) : (∀ p ∈ ms, fl.count p = 1) ↔ fl.length = ms.length ∧ fl.Nodup := by
  constructor
  · intro h
    refine ⟨by rw [count_sum hm hs, sum_one h], ?_⟩
    rw [List.nodup_iff_count]
    intro a
    by_cases ha : a ∈ fl
    · rw [h a (hs a ha)]; exact Nat.le_refl _
    · rw [List.count_eq_zero.2 ha]; omega
  · rintro ⟨hl, hn⟩ p hp
    have h1 := List.nodup_iff_count.1 hn p
    by_cases h0 : fl.count p = 0
    · exfalso
      have hnot : p ∉ fl := List.count_eq_zero.1 h0
      have := nodup_len (l := p :: fl) (m := ms) (List.nodup_cons.2 ⟨hnot, hn⟩) (fun x hx => by
        rcases List.mem_cons.1 hx with rfl | hx
        · exact hp
        · exact hs x hx)
      simp only [List.length_cons] at this
      omega
    · omega

def WfPids (l : List Pid) : Prop := ∀ p ∈ l, 0 ≤ p.1 ∧ p.1 < 65536 ∧ 0 ≤ p.2 ∧ p.2 < 4294967296
end Go.Proofs.Ytbpfhclcjedkcaa

