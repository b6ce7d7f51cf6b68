import Derived.Test.YtjjahefedpfnaaaE3
namespace Go.Proofs.Ytjjahefedpfnaaa
open Go.RowKit
abbrev pidO (p : Option Pid) : Value := .agg #[.int .u16 (optP p).1.1, .int .u32 (optP p).1.2]
abbrev optV (p : Option Pid) : Value := .tuple #[.agg #[.int .u16 (optP p).1.1, .int .u32 (optP p).1.2], .bool (optP p).2]
/-- a block of two cells that may be written -/
structure Box2 (w : World) (b : Nat) (v0 v1 : Value) : Prop where
  c0 : w.cell? ⟨b, 0, none⟩ = some v0
  c1 : w.cell? ⟨b, 1, none⟩ = some v1
  f0 : w.frozen? ⟨b, 0, none⟩ = false
  f1 : w.frozen? ⟨b, 1, none⟩ = false
section
variable {w w' : World} {b : Nat} {v0 v1 : Value}
theorem Box2.lt (h : Box2 w b v0 v1) : b < w.heap.size := World.block_lt_of_cell? w _ h.c0
theorem Box2.ext (h : Box2 w b v0 v1) (hb : Below w.heap.size w w') : Box2 w' b v0 v1 :=
  ⟨(hb.cell (by exact h.lt)).trans h.c0, (hb.cell (by exact h.lt)).trans h.c1, (hb.frozen (by exact h.lt)).trans h.f0, (hb.frozen (by exact h.lt)).trans h.f1⟩
theorem Box2.made (w : World) (t : TypeId) : Box2 (w.alloc (.cells #[v0, v1] t)) w.heap.size v0 v1 := ⟨by simp, by simp, by simp, by simp⟩
theorem Box2.put (h : Box2 w b v0 v1) (x y : Value) : Box2 ((w.setCell ⟨b, 0, none⟩ x).setCell ⟨b, 1, none⟩ y) b x y :=
  ⟨(two_cell h.c0 h.c1).1, (two_cell h.c0 h.c1).2, by simp [h.f0], by simp [h.f1]⟩
theorem below_put {B : Nat} {w0 : World} (hb : Below B w0 w) (h : B ≤ b) (x y : Value) : Below B w0 ((w.setCell ⟨b, 0, none⟩ x).setCell ⟨b, 1, none⟩ y) := (hb.setCell (by simpa using h) _).setCell (by simpa using h) _
end
set_option maxRecDepth 100000 in
set_option maxHeartbeats 1600000 in
theorem first_any (r : Nat → Int) (a : Option Addr) (c : Nat) (xs : List Pid) (w : World) (hwf : WfPids xs) (hn : xs.length ≤ 549755813888) (hrow : PidRow w a xs) :
    Calls Try.prog 74 #[.agg (rumC r), .slice a xs.length c] w fun e w' => e = .returned (optV (firstP (hasRu r) xs)) ∧ Below w.heap.size w w' := by
  have hB2 : Below w.heap.size w ((w.alloc (.cells (rumC r) 70)).alloc (.cells #[.int .u16 0, .int .u32 0] 32)) := ((Below.refl _ _).alloc (Nat.le_refl _) _).alloc (by simp) _
  have hR2 := (RumBox.made w r).ext (B := w.heap.size + 1) ((Below.refl (w.heap.size + 1) _).alloc (by simp) (.cells #[.int .u16 0, .int .u32 0] 32)) (by omega)
  have hbx := Box2.made (w.alloc (.cells (rumC r) 70)) (v0 := .int .u16 0) (v1 := .int .u32 0) 32
  obtain ⟨q0, q1, q2, q3, q4, q5, q6, q7, q8, q9, q10, q11, q12, q13, q14, q15⟩ := hR2.all
  have hx2 := hrow.ext hB2
  have HR2 := hid hR2
  clear hR2
  cases hs : soundL (hasRu r) xs with
  | nil =>
    have HS : Hid (firstP (hasRu r) xs = none) := hid (by unfold firstP; rw [hs]; rfl)
    have HL := hid hs
    clear hs
    go_enter Try.func74, Try.ntmps74
    go_wp2_with (go_at_call 97; refine (sound_any r _ _ xs _ hwf hn hx2).mono ?_; rintro e w3 ⟨u, rfl, hown, hb3⟩; rw [HL.out] at hown; obtain ⟨a3, c3, rfl, hrow3, -⟩ := hown.row; obtain ⟨y0, y1, y2, y3⟩ := hbx.ext hb3; simp only [World.size_alloc] at y0 y1 y2 y3)
    obtain ⟨t0, t1⟩ := two_cell (x := .int .u16 0) (y := .int .u32 0) y0 y1
    rw [HS.out]
    exact bodyPost_ret (v := optV none) (by simp [results, Try.results74, go_sem, t0, t1, optP]) rfl ⟨rfl, below_put (hB2.trans (hb3.mono hB2.size)) (by omega) _ _⟩
  | cons p rest =>
    obtain ⟨x, y⟩ := p
    have HS : Hid (firstP (hasRu r) xs = some (x, y)) := hid (by unfold firstP; rw [hs]; rfl)
    have HL := hid hs
    clear hs
    go_enter Try.func74, Try.ntmps74
    go_wp2_with (go_at_call 97; refine (sound_any r _ _ xs _ hwf hn hx2).mono ?_; rintro e w3 ⟨u, rfl, hown, hb3⟩; rw [HL.out] at hown; obtain ⟨a3, c3, rfl, hrow3, -⟩ := hown.row; obtain ⟨y0, y1, y2, y3⟩ := hbx.ext hb3; simp only [World.size_alloc] at y0 y1 y2 y3; obtain ⟨b3, o3, rfl, hlt3, hc3⟩ := hrow3.get (by simp); obtain ⟨z0, z1⟩ := hc3 0 (by simp); simp at z0 z1; clear hc3)
    obtain ⟨t0, t1⟩ := two_cell (x := .int .u16 x) (y := .int .u32 y) y0 y1
    rw [HS.out]
    exact bodyPost_ret (v := optV (some (x, y))) (by simp [results, Try.results74, go_sem, t0, t1, optP]) rfl ⟨rfl, below_put (hB2.trans (hb3.mono hB2.size)) (by omega) _ _⟩
end Go.Proofs.Ytjjahefedpfnaaa
