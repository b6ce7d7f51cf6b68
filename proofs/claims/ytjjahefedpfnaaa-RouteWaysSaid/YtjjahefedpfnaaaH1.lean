import Derived.Test.YtjjahefedpfnaaaN1
import Derived.Test.YtjjahefedpfnaaaAA
namespace Go.Proofs.Ytjjahefedpfnaaa
open Go.RowKit

/-- the watch behind a pointer: its box at block s holds the timeout and the map in block r -/
structure WatchIs (w : World) (s r : Nat) (T : Int) (L : List (Pid × Int)) : Prop where
  c0 : w.cell? ⟨s, 0, none⟩ = some (.int .i64 T)
  c1 : w.cell? ⟨s, 1, none⟩ = some (.map (some r))
  f1 : w.frozen? ⟨s, 1, none⟩ = false
  map : MapIs w r pidV eI L
theorem WatchIs.lt {w : World} {s r : Nat} {T : Int} {L : List (Pid × Int)} (h : WatchIs w s r T L) : s < w.heap.size := World.block_lt_of_cell? w _ h.c0
theorem WatchIs.ext {w w' : World} {s r : Nat} {T : Int} {L : List (Pid × Int)} (h : WatchIs w s r T L) (hb : Below w.heap.size w w') : WatchIs w' s r T L :=
  ⟨by rw [hb.cell (by exact h.lt)]; exact h.c0, by rw [hb.cell (by exact h.lt)]; exact h.c1, by rw [hb.frozen (by exact h.lt)]; exact h.f1, h.map.ext hb⟩
theorem WatchIs.alloc {w : World} {s r : Nat} {T : Int} {L : List (Pid × Int)} (h : WatchIs w s r T L) (o : Obj) : WatchIs (w.alloc o) s r T L := h.ext ((Below.refl _ _).alloc (Nat.le_refl _) _)
theorem WatchIs.drew {w : World} {s r : Nat} {T : Int} {L : List (Pid × Int)} (h : WatchIs w s r T L) : WatchIs w.drew s r T L := h.ext (Below.refl _ _).drew
theorem WatchIs.ne {w : World} {s r : Nat} {T : Int} {L : List (Pid × Int)} (h : WatchIs w s r T L) : s ≠ r := fun e => by
  have h1 := h.c0
  obtain ⟨es, cl, h2, _⟩ := h.map
  subst e
  simp [World.cell?, h2] at h1
theorem WatchIs.mut {F : Nat → Prop} {w w' : World} {s r : Nat} {T : Int} {L : List (Pid × Int)} (h : WatchIs w s r T L) (hm : Mut F w w') (hs : ¬ F s) (hr : ¬ F r) : WatchIs w' s r T L :=
  ⟨(hm.cell (by exact h.lt) (by exact hs)).trans h.c0, (hm.cell (by exact h.lt) (by exact hs)).trans h.c1, (World.frozen?_of_block (w := w) (hm.block s h.lt hs)).trans h.f1, h.map.same (hm.block r h.map.lt hr)⟩
theorem WatchIs.but {w w' : World} {s r t : Nat} {T : Int} {L : List (Pid × Int)} (h : WatchIs w s r T L) (hb : But t w w') (hs : s ≠ t) (hr : r ≠ t) : WatchIs w' s r T L :=
  h.mut (F := fun k => k = t) (Mut.of_but hb rfl) hs hr

section
variable (x y : Int) (a : Option Addr) (c : Nat) (xs : List Pid) (w : World)
theorem ageNil_any : Calls Try.prog 23 #[.pointer none, .agg #[.int .u16 x, .int .u32 y]] w fun e w' => e = .returned (.int .i64 (-1)) ∧ Below w.heap.size w w' := by
  go_enter Try.func23, Try.ntmps23
  go_wp2
  go_ret
  exact ⟨rfl, (Below.refl _ _).alloc (Nat.le_refl _) _⟩
theorem heardNil_any : Calls Try.prog 20 #[.pointer none, .agg #[.int .u16 x, .int .u32 y]] w fun e w' => e = .returned (.bool false) ∧ Below w.heap.size w w' := by
  go_enter Try.func20, Try.ntmps20
  go_wp2_with (go_at_call 23; refine (ageNil_any _ _ _).mono ?_; rintro e w3 ⟨rfl, hb3⟩)
  go_ret
  exact ⟨rfl, ((Below.refl _ _).alloc (Nat.le_refl _) _).trans (hb3.mono (by simp))⟩
theorem tickNil_any : Calls Try.prog 21 #[.pointer none] w fun e w' => e = .returned (.tuple #[]) ∧ Below w.heap.size w w' := by
  go_enter Try.func21, Try.ntmps21
  go_wp2
  exact bodyPost_ret (results_none rfl _ _ _) rfl ⟨rfl, Below.refl _ _⟩
theorem followNil_any : Calls Try.prog 17 #[.pointer none, .slice a xs.length c] w fun e w' => e = .returned (.tuple #[]) ∧ Below w.heap.size w w' := by
  go_enter Try.func17, Try.ntmps17
  go_wp2
  exact bodyPost_ret (results_none rfl _ _ _) rfl ⟨rfl, Below.refl _ _⟩
theorem lateNil_any : Calls Try.prog 25 #[.pointer none] w fun e w' => e = .returned (.slice none 0 0) ∧ Below w.heap.size w w' := by
  go_enter Try.func25, Try.ntmps25
  go_wp2
  go_ret
  exact ⟨rfl, Below.refl _ _⟩
end

def ageL (p : Pid) (L : List (Pid × Int)) : Int := match look p L with | none => -1 | some n => n
section
variable (s r : Nat) (T : Int) (L : List (Pid × Int)) (x y : Int) (w : World)
set_option maxRecDepth 100000 in
set_option maxHeartbeats 800000 in
theorem age_any (hW : WatchIs w s r T L) : Calls Try.prog 23 #[.pointer (some ⟨s, 0, none⟩), .agg #[.int .u16 x, .int .u32 y]] w fun e w' => e = .returned (.int .i64 (ageL (x, y) L)) ∧ Below w.heap.size w w' := by
  have hb1 : Below w.heap.size w (w.alloc (.cells #[.int .u16 x, .int .u32 y] 32)) := (Below.refl _ _).alloc (Nat.le_refl _) _
  have hS1 := hW.alloc (.cells #[.int .u16 x, .int .u32 y] 32)
  have hbx : ∀ W, WatchIs W s r T L → W.cell? ⟨s, 1, none⟩ = some (.map (some r)) := fun W h => h.c1
  cases hl : look (x, y) L with
  | none =>
    have hA : ageL (x, y) L = -1 := by unfold ageL; rw [hl]
    have hlk : ∀ W, WatchIs W s r T L → (Instr.lookup 87 (.map (some r)) (.agg #[.int .u16 x, .int .u32 y]) true).run Try.prog W = .ok (.tuple #[.int .i64 0, .bool false]) W := fun W h => by
      have := h.map.lookup_ok keyPid Try.underlying87 (zero3 W) (x, y)
      rw [look_int, hl] at this
      exact this
    have HA := hid hA
    clear hA hl
    go_enter Try.func23, Try.ntmps23
    go_wp2
    go_region_held3 (fun W => WatchIs W s r T L ∧ W.cell? ⟨w.heap.size, 0, none⟩ = some (.int .u16 x) ∧ W.cell? ⟨w.heap.size, 1, none⟩ = some (.int .u32 y)) (first | exact ⟨hS1.drew, by simp, by simp⟩) (fail)
    go_wp2
    go_ret
    exact ⟨ret_int HA.out.symm, hb1.drew⟩
  | some n =>
    have hA : ageL (x, y) L = n := by unfold ageL; rw [hl]
    have hlk : ∀ W, WatchIs W s r T L → (Instr.lookup 87 (.map (some r)) (.agg #[.int .u16 x, .int .u32 y]) true).run Try.prog W = .ok (.tuple #[.int .i64 n, .bool true]) W := fun W h => by
      have := h.map.lookup_ok keyPid Try.underlying87 (zero3 W) (x, y)
      rw [look_int, hl] at this
      exact this
    have HA := hid hA
    clear hA hl
    go_enter Try.func23, Try.ntmps23
    go_wp2
    go_region_held3 (fun W => WatchIs W s r T L ∧ W.cell? ⟨w.heap.size, 0, none⟩ = some (.int .u16 x) ∧ W.cell? ⟨w.heap.size, 1, none⟩ = some (.int .u32 y)) (first | exact ⟨hS1.drew, by simp, by simp⟩) (fail)
    go_wp2
    go_ret
    exact ⟨ret_int HA.out.symm, hb1.drew⟩
end
theorem age_is {s r : Nat} {T : Int} {L : List (Pid × Int)} {x y : Int} {w : World} {n : Int} (h : Hid (ageL (x, y) L = n)) (hW : WatchIs w s r T L) : Calls Try.prog 23 #[.pointer (some ⟨s, 0, none⟩), .agg #[.int .u16 x, .int .u32 y]] w fun e w' => e = .returned (.int .i64 n) ∧ Below w.heap.size w w' := by
  have := age_any s r T L x y w hW
  rw [h.out] at this
  exact this

theorem newWatch_any (t : Int) (w : World) : Calls Try.prog 14 #[.int .i64 t] w fun e w' => ∃ s r, e = .returned (.pointer (some ⟨s, 0, none⟩)) ∧ w.heap.size ≤ s ∧ w.heap.size ≤ r ∧ WatchIs w' s r (max t 1) [] ∧ Below w.heap.size w w' := by
  have hmm := @run_makeMap Try.prog
  go_enter Try.func14, Try.ntmps14
  go_wp2
  go_ret
  exact ⟨_, _, rfl, by omega, Nat.le_refl _, ⟨by simp, by simp, by simp, (MapIs.made w).alloc _⟩, ((Below.refl _ _).alloc (Nat.le_refl _) _).alloc (by simp) _⟩
theorem one_any (w : World) : Calls Try.prog 27 #[] w fun e w' => e = .returned (.agg #[.int .u16 1, .int .u32 1]) ∧ Below w.heap.size w w' := by
  go_enter Try.func27, Try.ntmps27
  go_wp2
  exact bodyPost_ret (v := .agg #[.int .u16 1, .int .u32 1]) (by simp [results, Try.results27, go_sem]) rfl ⟨rfl, (Below.refl _ _).alloc (Nat.le_refl _) _⟩

/-- Follow -/
def followL (L : List (Pid × Int)) : List (Pid × Int) → List Pid → List (Pid × Int)
  | M, [] => M
  | M, p :: r => followL L (ins p ((look p L).getD 0) M) r
theorem followL_drop {L M : List (Pid × Int)} {xs : List Pid} {k : Nat} (h : k < xs.length) {x y : Int} (hx : (x, y) = xs[k]) :
    followL L M (xs.drop k) = followL L (ins (x, y) ((look (x, y) L).getD 0) M) (xs.drop (k + 1)) := by
  rw [List.drop_eq_getElem_cons h, ← hx]; rfl
set_option maxRecDepth 100000 in
set_option maxHeartbeats 1600000 in
theorem follow_any (s r : Nat) (T : Int) (L : List (Pid × Int)) (a : Option Addr) (c : Nat) (xs : List Pid) (w : World) (hn : xs.length ≤ 70368744177664) (hrow : PidRow w a xs) (hW : WatchIs w s r T L) :
   Calls Try.prog 17 #[.pointer (some ⟨s, 0, none⟩), .slice a xs.length c] w fun e w' => ∃ r', e = .returned (.tuple #[]) ∧ w.heap.size ≤ r' ∧ WatchIs w' s r' T (followL L [] xs) ∧ Mut (fun k => k = s) w w' := by
  have hmm := @run_makeMap Try.prog
  have hsl := hW.lt
  go_enter Try.func17, Try.ntmps17
  go_wp2
  go_loopw [12] (fun i wr => ∃ (k : Nat) (M : List (Pid × Int)), k ≤ xs.length ∧ i = .int .i64 k ∧ Hid (followL L [] xs = followL L M (xs.drop k)) ∧ MapIs wr w.heap.size pidV eI M ∧ Below w.heap.size w wr) (fun i _ => xs.length - (intOf i).toNat)
  case atStart => exact ⟨0, [], Nat.zero_le _, rfl, rfl, MapIs.made _, (Below.refl _ _).alloc (Nat.le_refl _) _⟩
  case round =>
    obtain ⟨k, M, hk, rfl, hL, hM, hb⟩ := hrel
    have hs1 := hM.lt
    have hWr := hW.ext hb
    by_cases hlt : k < xs.length
    · obtain ⟨b, off, x, y, rfl, hx, d1, d2⟩ := hrow.at hb rfl hlt
      have hL1 := followL_drop (L := L) (M := M) hlt hx
      obtain ⟨n, hn0⟩ : ∃ n, (look (x, y) L).getD 0 = n := ⟨_, rfl⟩
      rw [hn0] at hL1
      have hlk : ∀ W, WatchIs W s r T L → (Instr.lookup 87 (.map (some r)) (.agg #[.int .u16 x, .int .u32 y]) false).run Try.prog W = .ok (.int .i64 n) W := fun W h => by
        have := h.map.lookup_no keyPid Try.underlying87 (zero3 W) (x, y)
        rw [look_int, hn0] at this
        exact this
      have hbx : ∀ W, WatchIs W s r T L → W.cell? ⟨s, 1, none⟩ = some (.map (some r)) := fun W h => h.c1
      have HL1 := hid hL1
      clear hx hrow hL1 hn0
      have hB1 : Below w.heap.size w (wr.alloc (.cells #[.int .u16 x, .int .u32 y] 32)) := hb.alloc hb.size _
      have hW1 := hWr.alloc (.cells #[.int .u16 x, .int .u32 y] 32)
      obtain ⟨w2, hrun, hM2, hbut⟩ := (hM.alloc (.cells #[.int .u16 x, .int .u32 y] 32)).ext (Below.refl _ _).drew |>.update keyPid Try.underlying87 (x, y) n
      have e0 : (wr.alloc (.cells #[.int .u16 x, .int .u32 y] 32)).drew.cell? ⟨wr.heap.size, 0, none⟩ = some (.int .u16 x) := by simp
      have e1 : (wr.alloc (.cells #[.int .u16 x, .int .u32 y] 32)).drew.cell? ⟨wr.heap.size, 1, none⟩ = some (.int .u32 y) := by simp
      have c0 : w2.cell? ⟨wr.heap.size, 0, none⟩ = some (.int .u16 x) := (hbut.cell (by simp; omega)).trans e0
      have c1 : w2.cell? ⟨wr.heap.size, 1, none⟩ = some (.int .u32 y) := (hbut.cell (by simp; omega)).trans e1
      have hW2 : WatchIs w2 s r T L := hW1.drew.but hbut (by omega) (by have := hW.map.lt; omega)
      have hB2 : Below w.heap.size w w2 := But.below' hB1.drew hbut (Nat.le_refl _)
      go_wp2
      go_region_held3 (fun W => WatchIs W s r T L ∧ W.cell? ⟨wr.heap.size, 0, none⟩ = some (.int .u16 x) ∧ W.cell? ⟨wr.heap.size, 1, none⟩ = some (.int .u32 y)) (first | exact ⟨hW1.drew, e0, e1⟩ | exact ⟨hW2, c0, c1⟩) (fail)
      go_wp2
      go_roundw
      case rel => exact ⟨k + 1, _, by omega, by go_num, hL.out.trans HL1.out, hM2, hB2⟩
      case measure => simp [intOf]; omega
    · have hend : Hid (followL L [] xs = M) := by
        have := hL.out
        rw [List.drop_eq_nil_of_le (by omega)] at this
        exact this
      obtain ⟨g0, g1, g2, -⟩ := hWr
      go_wp2
      have hbs : But s wr (wr.setCell ⟨s, 1, none⟩ (.map (some w.heap.size))) := ⟨rfl, rfl, rfl, by simp, fun k hk => Below.heap_setCell _ _ _ _ hk⟩
      refine bodyPost_end (results_none rfl _ _ _) rfl ⟨_, rfl, Nat.le_refl _, ⟨?_, ?_, ?_, ?_⟩, (Mut.of_below hb).trans (Mut.of_but hbs rfl)⟩
      · rw [off2 (by omega)]; exact g0
      · exact World.cell?_setCell_same _ _ _ g1
      · simp [g2]
      · rw [hend.out]; exact hM.setCell (by simp; omega) _
end Go.Proofs.Ytjjahefedpfnaaa
