import Derived.Test.YtjjahefedpfnaaaW4
import Derived.Deep.RegionHeld3
namespace Go.Proofs.Ytjjahefedpfnaaa
open Go.RowKit

/-- the set behind a pointer: its box at block s holds the map in block r -/
structure SetIs (w : World) (s r : Nat) (L : List (Pid × Unit)) : Prop where
  box : w.cell? ⟨s, 0, none⟩ = some (.map (some r))
  map : MapIs w r pidV eU L
theorem SetIs.lt {w : World} {s r : Nat} {L : List (Pid × Unit)} (h : SetIs w s r L) : s < w.heap.size := World.block_lt_of_cell? w _ h.box
theorem SetIs.ext {w w' : World} {s r : Nat} {L : List (Pid × Unit)} (h : SetIs w s r L) (hb : Below w.heap.size w w') : SetIs w' s r L :=
  ⟨by rw [hb.cell (by exact h.lt)]; exact h.box, h.map.ext hb⟩
theorem SetIs.alloc {w : World} {s r : Nat} {L : List (Pid × Unit)} (h : SetIs w s r L) (o : Obj) : SetIs (w.alloc o) s r L := h.ext ((Below.refl _ _).alloc (Nat.le_refl _) _)
theorem SetIs.drew {w : World} {s r : Nat} {L : List (Pid × Unit)} (h : SetIs w s r L) : SetIs w.drew s r L := h.ext (Below.refl _ _).drew

set_option maxHeartbeats 800000 in
set_option maxRecDepth 100000 in
theorem has_any (s r : Nat) (L : List (Pid × Unit)) (x y : Int) (bs : Bool) (w : World) (hS : SetIs w s r L) (hl : Hid ((look (x, y) L).isSome = bs)) :
   Calls Try.prog 44 #[.pointer (some ⟨s, 0, none⟩), .agg #[.int .u16 x, .int .u32 y]] w fun e w' => e = .returned (.bool bs) ∧ Below w.heap.size w w' := by
  have hlk : ∀ W, SetIs W s r L → (Instr.lookup 91 (.map (some r)) (.agg #[.int .u16 x, .int .u32 y]) true).run Try.prog W = .ok (.tuple #[.agg #[], .bool bs]) W := fun W h => by
    have := h.map.lookup_ok keyPid Try.underlying91 (zero106 W) (x, y)
    rw [look_unit, hl.out] at this
    exact this
  have hbx : ∀ W, SetIs W s r L → W.cell? ⟨s, 0, none⟩ = some (.map (some r)) := fun W h => h.box
  have hS1 := hS.alloc (.cells #[.int .u16 x, .int .u32 y] 32)
  have hb1 : Below w.heap.size w (w.alloc (.cells #[.int .u16 x, .int .u32 y] 32)) := (Below.refl _ _).alloc (Nat.le_refl _) _
  go_enter Try.func44, Try.ntmps44
  go_wp2
  go_region_held3 (fun W => SetIs W s r L ∧ W.cell? ⟨w.heap.size, 0, none⟩ = some (.int .u16 x) ∧ W.cell? ⟨w.heap.size, 1, none⟩ = some (.int .u32 y)) (first | exact ⟨hS1.drew, by simp, by simp⟩ | exact ⟨(hS1.alloc _).drew, by simp, by simp⟩) (fail)
  all_goals go_wp2
  all_goals go_ret
  all_goals exact ⟨rfl, (hb1.alloc hb1.size _).drew⟩

/-- w' is w, grown, but for the blocks of F -/
structure Mut (F : Nat → Prop) (w w' : World) : Prop where
  os : w'.os = w.os
  tape : w'.tape = w.tape
  output : w'.output = w.output
  size : w.heap.size ≤ w'.heap.size
  block : ∀ k, k < w.heap.size → ¬ F k → w'.heap[k]? = w.heap[k]?
theorem Mut.refl (F : Nat → Prop) (w : World) : Mut F w w := ⟨rfl, rfl, rfl, Nat.le_refl _, fun _ _ _ => rfl⟩
theorem Mut.trans {F : Nat → Prop} {a b c : World} (h : Mut F a b) (k : Mut F b c) : Mut F a c :=
  ⟨k.os.trans h.os, k.tape.trans h.tape, k.output.trans h.output, Nat.le_trans h.size k.size, fun i hi hf => (k.block i (Nat.lt_of_lt_of_le hi h.size) hf).trans (h.block i hi hf)⟩
theorem Mut.of_below {F : Nat → Prop} {w w' : World} (h : Below w.heap.size w w') : Mut F w w' := ⟨h.os, h.tape, h.output, h.size, fun k hk _ => h.block k hk⟩
theorem Mut.of_but {F : Nat → Prop} {r : Nat} {w w' : World} (h : But r w w') (hr : F r) : Mut F w w' :=
  ⟨h.os, h.tape, h.output, by rw [h.size]; exact Nat.le_refl _, fun k _ hf => h.block k (fun e => hf (e ▸ hr))⟩
theorem Mut.mono {F G : Nat → Prop} {w w' : World} (h : Mut F w w') (hFG : ∀ k, k < w.heap.size → F k → G k) : Mut G w w' :=
  ⟨h.os, h.tape, h.output, h.size, fun k hk hg => h.block k hk (fun hf => hg (hFG k hk hf))⟩
theorem Mut.below {F : Nat → Prop} {w w' : World} (h : Mut F w w') {B : Nat} (hB : B ≤ w.heap.size) (hF : ∀ k, F k → B ≤ k) : Below B w w' :=
  ⟨h.os, h.tape, h.output, h.size, fun k hk => h.block k (by omega) (fun hf => by have := hF k hf; omega)⟩
theorem Mut.cell {F : Nat → Prop} {w w' : World} (h : Mut F w w') {p : Addr} (hp : p.block < w.heap.size) (hf : ¬ F p.block) : w'.cell? p = w.cell? p := World.cell?_of_block (w := w) (h.block p.block hp hf)

/-- a process into a set -/
def add1 (p : Pid) (L : List (Pid × Unit)) : List (Pid × Unit) := if (look p L).isSome = true then L else ins p () L

set_option maxHeartbeats 800000 in
set_option maxRecDepth 100000 in
theorem add_any (s r : Nat) (L : List (Pid × Unit)) (x y : Int) (w : World) (hS : SetIs w s r L) :
   Calls Try.prog 41 #[.pointer (some ⟨s, 0, none⟩), .agg #[.int .u16 x, .int .u32 y]] w fun e w' => e = .returned (.bool (!(look (x, y) L).isSome)) ∧ SetIs w' s r (add1 (x, y) L) ∧ Mut (fun k => k = r) w w' := by
  have hS1 := hS.alloc (.cells #[.int .u16 x, .int .u32 y] 32)
  have hb1 : Below w.heap.size w (w.alloc (.cells #[.int .u16 x, .int .u32 y] 32)) := (Below.refl _ _).alloc (Nat.le_refl _) _
  have hsr : s ≠ r := fun e => by
    have h1 := hS.box
    obtain ⟨es, cl, h2, _⟩ := hS.map
    subst e
    simp [World.cell?, h2] at h1
  cases hs : (look (x, y) L).isSome
  · have HS := hid hs
    clear hs
    go_enter Try.func41, Try.ntmps41
    go_wp2_with (go_at_call 44; refine (has_any _ _ _ _ _ _ _ hS1 HS).mono ?_; rintro e w1 ⟨rfl, hb2⟩; obtain ⟨hc1, hf1⟩ := bcell hb2)
    have hb12 := hb1.trans (hb2.mono hb1.size)
    have hz := hb2.size
    simp at hz
    have hS2 := hS1.ext hb2
    obtain ⟨w2, hrun, hM2, hbut⟩ := hS2.drew.map.update keyPid Try.underlying91 (x, y) ()
    have hrlt := hS.map.lt
    have c0 : w2.cell? ⟨s, 0, none⟩ = some (.map (some r)) := (hbut.cell (by exact hsr)).trans hS2.drew.box
    have e0 : w1.drew.cell? ⟨w.heap.size, 0, none⟩ = some (.int .u16 x) := by simp [hc1]
    have e1 : w1.drew.cell? ⟨w.heap.size, 1, none⟩ = some (.int .u32 y) := by simp [hc1]
    have c1 : w2.cell? ⟨w.heap.size, 0, none⟩ = some (.int .u16 x) := (hbut.cell (by simp; omega)).trans e0
    have c2 : w2.cell? ⟨w.heap.size, 1, none⟩ = some (.int .u32 y) := (hbut.cell (by simp; omega)).trans e1
    go_region_held3 (fun W => W.cell? ⟨s, 0, none⟩ = some (.map (some r)) ∧ W.cell? ⟨w.heap.size, 0, none⟩ = some (.int .u16 x) ∧ W.cell? ⟨w.heap.size, 1, none⟩ = some (.int .u32 y)) (first | exact ⟨hS2.drew.box, e0, e1⟩ | exact ⟨c0, c1, c2⟩) (fail)
    go_wp2
    go_ret
    exact ⟨rfl, ⟨c0, by unfold add1; rw [HS.out]; exact hM2⟩, (Mut.of_below hb12.drew).trans (Mut.of_but hbut rfl)⟩
  · have HS := hid hs
    clear hs
    go_enter Try.func41, Try.ntmps41
    go_wp2_with (go_at_call 44; refine (has_any _ _ _ _ _ _ _ hS1 HS).mono ?_; rintro e w1 ⟨rfl, hb2⟩; obtain ⟨hc1, hf1⟩ := bcell hb2)
    go_ret
    exact ⟨rfl, by unfold add1; rw [HS.out]; exact hS1.ext hb2, Mut.of_below (hb1.trans (hb2.mono hb1.size))⟩

theorem add_is (s r : Nat) (L : List (Pid × Unit)) (x y : Int) {bs : Bool} (h : (look (x, y) L).isSome = bs) (w : World) (hS : SetIs w s r L) :
   Calls Try.prog 41 #[.pointer (some ⟨s, 0, none⟩), .agg #[.int .u16 x, .int .u32 y]] w fun e w' => e = .returned (.bool (!bs)) ∧ SetIs w' s r (add1 (x, y) L) ∧ Mut (fun k => k = r) w w' := by
  have := add_any s r L x y w hS
  rw [h] at this
  exact this
theorem len_any (s r : Nat) (L : List (Pid × Unit)) (w : World) (hS : SetIs w s r L) :
   Calls Try.prog 42 #[.pointer (some ⟨s, 0, none⟩)] w fun e w' => e = .returned (.int .i64 L.length) ∧ w = w' := by
  have h0 := hS.box
  have hl := hS.map.len Try.underlying91 3
  go_enter Try.func42, Try.ntmps42
  go_wp2
  go_ret
  exact ⟨rfl, rfl⟩

/-- what a set holds after Union -/
def unionL : List (Pid × Unit) → List Pid → List (Pid × Unit)
  | L, [] => L
  | L, p :: l => unionL (add1 p L) l
/-- how many Union takes in -/
def unionN : List (Pid × Unit) → List Pid → Nat
  | _, [] => 0
  | L, p :: l => (if (look p L).isSome = true then 0 else 1) + unionN (add1 p L) l
theorem unionL_drop {L : List (Pid × Unit)} {xs : List Pid} {k : Nat} (h : k < xs.length) {x y : Int} (hx : (x, y) = xs[k]) : unionL L (xs.drop k) = unionL (add1 (x, y) L) (xs.drop (k + 1)) := by
  rw [List.drop_eq_getElem_cons h, ← hx]; rfl
theorem unionN_drop {L : List (Pid × Unit)} {xs : List Pid} {k : Nat} (h : k < xs.length) {x y : Int} (hx : (x, y) = xs[k]) : unionN L (xs.drop k) = (if (look (x, y) L).isSome = true then 0 else 1) + unionN (add1 (x, y) L) (xs.drop (k + 1)) := by
  rw [List.drop_eq_getElem_cons h, ← hx]; rfl
theorem unionN_le : ∀ (xs : List Pid) (L : List (Pid × Unit)), unionN L xs ≤ xs.length
  | [], _ => by simp [unionN]
  | p :: l, L => by have := unionN_le l (add1 p L); unfold unionN; simp only [List.length_cons]; split <;> omega

theorem PidRow.mut {F : Nat → Prop} {w w' : World} {a : Option Addr} {xs : List Pid} (h : PidRow w a xs) (hm : Mut F w w') (hF : ∀ b off, a = some ⟨b, off, none⟩ → 0 < xs.length → ¬ F b) : PidRow w' a xs := by
  rcases h with rfl | ⟨b, off, rfl, hlt, hc⟩
  · exact .inl rfl
  · by_cases h0 : 0 < xs.length
    · refine .inr ⟨b, off, rfl, by have := hm.size; omega, fun i hi => ?_⟩
      have := hF b off rfl h0
      rw [hm.cell (by exact hlt) (by exact this), hm.cell (by exact hlt) (by exact this)]
      exact hc i hi
    · exact .inl (List.length_eq_zero_iff.1 (by omega))
/-- a row of cells is no map -/
theorem PidRow.ne_map {w : World} {a : Option Addr} {xs : List Pid} (h : PidRow w a xs) {r : Nat} {es : Array MapEntry} {cl : Nat} (hr : w.heap[r]? = some (.map es cl)) {b off : Nat} (ha : a = some ⟨b, off, none⟩) (h0 : 0 < xs.length) : b ≠ r := by
  obtain ⟨b', off', rfl, _, hc⟩ := h.get h0
  cases ha
  intro e
  subst e
  have := (hc 0 h0).1
  simp [World.cell?, hr] at this
theorem PidRow.mutMap {w w' : World} {a : Option Addr} {xs : List Pid} (h : PidRow w a xs) {r : Nat} (hm : Mut (fun k => k = r) w w') {α β : Type} {ke : α → Value} {ve : β → Value} {L : List (α × β)} (hr : MapIs w r ke ve L) : PidRow w' a xs := by
  obtain ⟨es, cl, h2, _⟩ := hr
  exact h.mut hm fun b off ha h0 => h.ne_map h2 ha h0

set_option maxHeartbeats 800000 in
set_option maxRecDepth 100000 in
theorem union_any (s r : Nat) (L : List (Pid × Unit)) (a : Option Addr) (c : Nat) (xs : List Pid) (w : World) (hn : xs.length ≤ 70368744177664) (hrow : PidRow w a xs) (hS : SetIs w s r L) :
   Calls Try.prog 39 #[.pointer (some ⟨s, 0, none⟩), .slice a xs.length c] w fun e w' => e = .returned (.int .i64 (unionN L xs)) ∧ SetIs w' s r (unionL L xs) ∧ Mut (fun k => k = r) w w' := by
  go_enter Try.func39, Try.ntmps39
  go_wp2
  go_loopw [5, 10] (fun n i wr => ∃ (k : Nat) (Lk : List (Pid × Unit)) (m : Nat), k ≤ xs.length ∧ i = .int .i64 k ∧ n = .int .i64 m ∧ m ≤ k ∧ Hid (unionL L xs = unionL Lk (xs.drop k)) ∧ Hid (unionN L xs = m + unionN Lk (xs.drop k)) ∧ SetIs wr s r Lk ∧ Mut (fun k => k = r) w wr) (fun _ i _ => xs.length - (intOf i).toNat)
  case atStart => exact ⟨0, L, 0, Nat.zero_le _, rfl, rfl, Nat.le_refl _, rfl, (show unionN L xs = 0 + unionN L xs by omega), hS, Mut.refl _ _⟩
  case round =>
    obtain ⟨k, Lk, m, hk, rfl, rfl, hmk, hL, hN, hSk, hmut⟩ := hrel
    by_cases hlt : k < xs.length
    · obtain ⟨b, off, x, y, rfl, hx, d1, d2⟩ := (hrow.mutMap hmut hS.map).at (Below.refl _ _) rfl hlt
      have hL1 := unionL_drop (L := Lk) hlt hx
      have hN1 := unionN_drop (L := Lk) hlt hx
      have HL1 := hid hL1
      have HN1 := hid hN1
      clear hx hrow hL1 hN1
      have hB1 : Mut (fun k => k = r) w (wr.alloc (.cells #[.int .u16 x, .int .u32 y] 32)) := hmut.trans (Mut.of_below ((Below.refl _ _).alloc (Nat.le_refl _) _))
      cases hs : (look (x, y) Lk).isSome
      · have HS := hid hs
        clear hs
        go_wp2_with (go_at_call 41; refine (add_is _ _ _ _ _ HS.out _ (hSk.alloc _)).mono ?_; rintro e w1 ⟨rfl, hS1, hm1⟩)
        go_roundw
        case rel => exact ⟨k + 1, _, m + 1, by omega, by go_num, by go_num, by omega, hL.out.trans HL1.out, hN.out.trans (by rw [HN1.out, HS.out]; simp; omega), hS1, hB1.trans hm1⟩
        case measure => simp [intOf]; omega
      · have HS := hid hs
        clear hs
        go_wp2_with (go_at_call 41; refine (add_is _ _ _ _ _ HS.out _ (hSk.alloc _)).mono ?_; rintro e w1 ⟨rfl, hS1, hm1⟩)
        go_roundw
        case rel => exact ⟨k + 1, _, m, by omega, by go_num, rfl, by omega, hL.out.trans HL1.out, hN.out.trans (by rw [HN1.out, HS.out]; simp), hS1, hB1.trans hm1⟩
        case measure => simp [intOf]; omega
    · go_wp2
      go_ret
      exact ⟨ret_int (by rw [hN.out, List.drop_eq_nil_of_le (by omega)]; simp [unionN]), by rw [hL.out, List.drop_eq_nil_of_le (by omega)]; exact hSk, hmut⟩

set_option maxHeartbeats 800000 in
theorem new_any (a : Option Addr) (c : Nat) (xs : List Pid) (w : World) (hn : xs.length ≤ 70368744177664) (hrow : PidRow w a xs) :
   Calls Try.prog 34 #[.slice a xs.length c] w fun e w' => ∃ s r, e = .returned (.pointer (some ⟨s, 0, none⟩)) ∧ w.heap.size ≤ s ∧ w.heap.size ≤ r ∧ SetIs w' s r (unionL [] xs) ∧ Below w.heap.size w w' := by
  have hmm := @run_makeMap Try.prog
  have hB : Below w.heap.size w ((w.alloc (.map #[] 0)).alloc (.cells #[.map (some w.heap.size)] 93)) := ((Below.refl _ _).alloc (Nat.le_refl _) _).alloc (by simp) _
  have hS : SetIs ((w.alloc (.map #[] 0)).alloc (.cells #[.map (some w.heap.size)] 93)) (w.heap.size + 1) w.heap.size [] := ⟨by simp, (MapIs.made _).alloc _⟩
  go_enter Try.func34, Try.ntmps34
  go_wp2_with (go_at_call 39; refine (union_any _ _ _ _ _ _ _ hn (hrow.ext hB) hS).mono ?_; rintro e w1 ⟨rfl, hS1, hm1⟩)
  go_ret
  exact ⟨_, _, rfl, by omega, Nat.le_refl _, hS1, hB.trans (hm1.below (by simp; omega) (fun k hk => by omega))⟩
end Go.Proofs.Ytjjahefedpfnaaa
