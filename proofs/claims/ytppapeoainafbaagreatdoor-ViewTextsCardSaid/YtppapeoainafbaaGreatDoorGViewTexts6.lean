/- Parts of the proof: X24 X9 X10 X11 X12 X13 X14 X16 X18 X26 X27 X32 G2 G4. -/
import Derived.Defers
import Derived.Test.YtppapeoainafbaaGreatDoorX23
namespace Go.Proofs.YtppapeoainafbaaGreatDoor
open Go.RowKit

/-! ### cmd.Check -/
theorem CmdR.zero (w : World) (k : Int) : CmdR w none none none none ⟨k, (0, 0), 0, 0, [], zeroV⟩ :=
  ⟨.inl rfl, by simp, by simp, ⟨.inl rfl, .inl rfl, .inl rfl, by simp [zeroV], by simp [zeroV], by simp [zeroV], by simp [zeroV]⟩⟩
theorem CmdR.some {w : World} {da am al ad : Option Addr} {c : CmdD} (h : CmdR w da am al ad c) (k : Int) : CmdR w da none none none ⟨k, c.fr, c.num, c.vw, c.data, zeroV⟩ :=
  ⟨h.dr, h.dl, h.db, ⟨.inl rfl, .inl rfl, .inl rfl, by simp [zeroV], by simp [zeroV], by simp [zeroV], by simp [zeroV]⟩⟩
theorem CmdR.view {w : World} {da am al ad : Option Addr} {c : CmdD} (h : CmdR w da am al ad c) (k : Int) : CmdR w none am al ad ⟨k, (0, 0), 0, 0, [], c.v⟩ :=
  ⟨.inl rfl, by simp, by simp, h.v⟩
structure Box10 (w : World) (b : Nat) (u0 u1 u2 u3 u4 u5 u6 u7 u8 u9 : Value) : Prop where
  c0 : w.cell? ⟨b, 0, none⟩ = some u0
  c1 : w.cell? ⟨b, 1, none⟩ = some u1
  c2 : w.cell? ⟨b, 2, none⟩ = some u2
  c3 : w.cell? ⟨b, 3, none⟩ = some u3
  c4 : w.cell? ⟨b, 4, none⟩ = some u4
  c5 : w.cell? ⟨b, 5, none⟩ = some u5
  c6 : w.cell? ⟨b, 6, none⟩ = some u6
  c7 : w.cell? ⟨b, 7, none⟩ = some u7
  c8 : w.cell? ⟨b, 8, none⟩ = some u8
  c9 : w.cell? ⟨b, 9, none⟩ = some u9
  f : ∀ j, w.frozen? ⟨b, j, none⟩ = false
theorem Box10.ext {w w' : World} {b : Nat} {u0 u1 u2 u3 u4 u5 u6 u7 u8 u9 : Value} (h : Box10 w b u0 u1 u2 u3 u4 u5 u6 u7 u8 u9) {B : Nat} (hb : Below B w w') (hB : b < B) : Box10 w' b u0 u1 u2 u3 u4 u5 u6 u7 u8 u9 := by
  have g : ∀ k, w'.cell? ⟨b, k, none⟩ = w.cell? ⟨b, k, none⟩ := fun k => hb.cell (by exact hB)
  exact ⟨(g 0).trans h.c0, (g 1).trans h.c1, (g 2).trans h.c2, (g 3).trans h.c3, (g 4).trans h.c4, (g 5).trans h.c5, (g 6).trans h.c6, (g 7).trans h.c7, (g 8).trans h.c8, (g 9).trans h.c9, fun j => (hb.frozen (by exact hB)).trans (h.f j)⟩
theorem Box10.made (w : World) (u0 u1 u2 u3 u4 u5 u6 u7 u8 u9 : Value) (t : TypeId) {b : Nat} (h : b = w.heap.size) : Box10 (w.alloc (.cells #[u0, u1, u2, u3, u4, u5, u6, u7, u8, u9] t)) b u0 u1 u2 u3 u4 u5 u6 u7 u8 u9 := by
  subst h
  exact ⟨by simp, by simp, by simp, by simp, by simp, by simp, by simp, by simp, by simp, by simp, fun j => World.frozen?_alloc_at _ _ _ _ rfl⟩
section
variable {A : CmdD} {da am al ad : Option Addr} {dc cm cl cd : Nat} {w : World} {r : Bool} {k : Int} (hA : CmdR w da am al ad A)
include hA
end

end Go.Proofs.YtppapeoainafbaaGreatDoor

namespace Go.Proofs.YtppapeoainafbaaGreatDoor
open Go.RowKit
theorem OwnB.cap {w : World} {base : Nat} {v : Value} {bs : List Nat} (h : OwnB w base v bs) : ∀ a n c, v = .slice a n c → bs.length ≤ c := by
  intro a n c e
  rcases h.2 with ⟨rfl, hn⟩ | ⟨g, cap, cur, rfl, hb, hg, hnc, _⟩
  · cases e; omega
  · cases e; exact hnc
/-- the writer behind a pointer -/
structure WrIs (w : World) (s : Nat) (v : Value) (bs : List Nat) : Prop where
  c : w.cell? ⟨s, 0, none⟩ = some v
  f : w.frozen? ⟨s, 0, none⟩ = false
  own : OwnB w (s + 1) v bs
theorem WrIs.lt {w : World} {s : Nat} {v : Value} {bs : List Nat} (h : WrIs w s v bs) : s < w.heap.size := World.block_lt_of_cell? w _ h.c
theorem WrIs.ext {w w' : World} {s : Nat} {v : Value} {bs : List Nat} (h : WrIs w s v bs) (hb : Below w.heap.size w w') : WrIs w' s v bs :=
  ⟨cell_toB h.c hb, (hb.frozen (by exact h.lt)).trans h.f, h.own.ext hb⟩
theorem WrIs.alloc {w : World} {s : Nat} {v : Value} {bs : List Nat} (h : WrIs w s v bs) (o : Obj) : WrIs (w.alloc o) s v bs := h.ext ((Below.refl _ _).alloc (Nat.le_refl _) _)
theorem WrIs.made (w : World) (t : TypeId) : WrIs (w.alloc (.cells #[.slice none 0 0] t)) w.heap.size (.slice none 0 0) [] := ⟨by simp, by simp, OwnB.nil _ _⟩
/-- what a call of the writer leaves -/
structure Wrote (w w' : World) (s : Nat) (v' : Value) (bs : List Nat) : Prop where
  wr : WrIs w' s v' bs
  own : OwnB w' w.heap.size v' bs
  mt : Mut (fun k => k = s) w w'
theorem ByteRow.mutT {G : Nat → Prop} {w w' : World} {a : Option Addr} {bs : List Nat} (h : ByteRow w a bs) (hm : Mut G w w') (hne : ∀ b off, a = some ⟨b, off, none⟩ → bs ≠ [] → ¬ G b) : ByteRow w' a bs := by
  rcases h with rfl | ⟨b, off, rfl, hlt, hc⟩
  · exact .inl rfl
  · by_cases hl : bs = []
    · exact .inl hl
    · have hb := hm.block b hlt (hne b off rfl hl)
      exact .inr ⟨b, off, rfl, by have := hm.size; omega, fun i hi => (World.cell?_of_block (w := w) hb).trans (hc i hi)⟩
end Go.Proofs.YtppapeoainafbaaGreatDoor

namespace Go.Proofs.YtppapeoainafbaaGreatDoor
open Go.RowKit
theorem PidRow.mutT {G : Nat → Prop} {w w' : World} {a : Option Addr} {l : List Pid} (h : PidRow w a l) (hm : Mut G w w') (hne : ∀ b off, a = some ⟨b, off, none⟩ → l ≠ [] → ¬ G b) : PidRow w' a l := by
  rcases h with rfl | ⟨b, off, rfl, hlt, hc⟩
  · exact .inl rfl
  · by_cases hl : l = []
    · exact .inl hl
    · have hb := hm.block b hlt (hne b off rfl hl)
      exact .inr ⟨b, off, rfl, by have := hm.size; omega, fun i hi => ⟨(World.cell?_of_block (w := w) hb).trans (hc i hi).1, (World.cell?_of_block (w := w) hb).trans (hc i hi).2⟩⟩
theorem Wrote.trans {w w1 w1' w2 : World} {s : Nat} {v1 v2 : Value} {b1 b2 : List Nat} (h : Wrote w w1 s v1 b1) (hb : Below w1.heap.size w1 w1') (h2 : Wrote w1' w2 s v2 b2) : Wrote w w2 s v2 b2 :=
  ⟨h2.wr, h2.own.mono (Nat.le_trans h.mt.size hb.size), (h.mt.trans (Mut.of_below hb)).trans h2.mt⟩
/-! ### the reference's forms -/
end Go.Proofs.YtppapeoainafbaaGreatDoor

namespace Go.Proofs.YtppapeoainafbaaGreatDoor
open Go.RowKit
/-- the reader behind a pointer -/
structure RdIs (w : World) (s : Nat) (a : Option Addr) (c : Nat) (S : RS) : Prop where
  c0 : w.cell? ⟨s, 0, none⟩ = some (.slice a S.b.length c)
  c1 : w.cell? ⟨s, 1, none⟩ = some (.int .i64 S.e)
  f0 : w.frozen? ⟨s, 0, none⟩ = false
  f1 : w.frozen? ⟨s, 1, none⟩ = false
  row : ByteRow w a S.b
  far : ∀ b off, a = some ⟨b, off, none⟩ → S.b ≠ [] → b < s
  cap : S.b.length ≤ c
  byt : ∀ b ∈ S.b, b < 256
  len : S.b.length ≤ 70368744177664
theorem RdIs.lt {w : World} {s c : Nat} {a : Option Addr} {S : RS} (h : RdIs w s a c S) : s < w.heap.size := World.block_lt_of_cell? w _ h.c0
theorem RdIs.ext {w w' : World} {s c : Nat} {a : Option Addr} {S : RS} (h : RdIs w s a c S) (hb : Below w.heap.size w w') : RdIs w' s a c S :=
  ⟨cell_toB h.c0 hb, cell_toB h.c1 hb, (hb.frozen (by exact h.lt)).trans h.f0, (hb.frozen (by exact h.lt)).trans h.f1, h.row.ext hb, h.far, h.cap, h.byt, h.len⟩
theorem RdIs.alloc {w : World} {s c : Nat} {a : Option Addr} {S : RS} (h : RdIs w s a c S) (o : Obj) : RdIs (w.alloc o) s a c S := h.ext ((Below.refl _ _).alloc (Nat.le_refl _) _)
theorem ByteRow.setFar {w : World} {a : Option Addr} {bs : List Nat} {s i : Nat} {v : Value} (h : ByteRow w a bs) (hf : ∀ b off, a = some ⟨b, off, none⟩ → bs ≠ [] → b < s) : ByteRow (w.setCell ⟨s, i, none⟩ v) a bs := by
  rcases h with rfl | ⟨b, off, rfl, hlt, hc⟩
  · exact .inl rfl
  · by_cases hl : bs = []
    · exact .inl hl
    · have hb : b ≠ s := Nat.ne_of_lt (hf b off rfl hl)
      exact .inr ⟨b, off, rfl, by simpa using hlt, fun j hj => by rw [World.cell?_setCell_far _ _ _ _ (by exact fun e => hb e.symm)]; exact hc j hj⟩
/-- another error -/
theorem RdIs.bad {w : World} {s c : Nat} {a : Option Addr} {S : RS} (h : RdIs w s a c S) (e : Nat) : RdIs (w.setCell ⟨s, 1, none⟩ (.int .i64 (e : Nat))) s a c ⟨S.b, e⟩ :=
  ⟨by rw [World.cell?_setCell_other _ _ _ _ (by simp)]; exact h.c0, World.cell?_setCell_same _ _ _ h.c1, by simp [h.f0], by simp [h.f1], h.row.setFar h.far, h.far, h.cap, h.byt, h.len⟩
/-- other bytes -/
theorem RdIs.put {w : World} {s c c' : Nat} {a a' : Option Addr} {S : RS} {b' : List Nat} (h : RdIs w s a c S) {n : Nat} (hn : n = b'.length) (hrow : ByteRow w a' b') (hfar : ∀ b off, a' = some ⟨b, off, none⟩ → b' ≠ [] → b < s) (hcap : b'.length ≤ c') (hby : ∀ b ∈ b', b < 256) (hlen : b'.length ≤ 70368744177664) : RdIs (w.setCell ⟨s, 0, none⟩ (.slice a' n c')) s a' c' ⟨b', S.e⟩ := by
  subst hn
  exact ⟨World.cell?_setCell_same _ _ _ h.c0, by rw [World.cell?_setCell_other _ _ _ _ (by simp)]; exact h.c1, by simp [h.f0], by simp [h.f1], hrow.setFar hfar, hfar, hcap, hby, hlen⟩
theorem mut1 {w : World} {s i : Nat} {v : Value} : Mut (fun k => k = s) w (w.setCell ⟨s, i, none⟩ v) :=
  ⟨rfl, rfl, rfl, by simp, fun k _ hf => Below.heap_setCell _ _ _ _ (by exact hf)⟩
end Go.Proofs.YtppapeoainafbaaGreatDoor

namespace Go.Proofs.YtppapeoainafbaaGreatDoor
open Go.RowKit
theorem RdIs.mutT {G : Nat → Prop} {w w' : World} {s c : Nat} {a : Option Addr} {S : RS} (h : RdIs w s a c S) (hm : Mut G w w') (hG : ∀ k, G k → s < k) : RdIs w' s a c S := by
  have hb := hm.block s h.lt (fun hs => by have := hG s hs; omega)
  refine ⟨(World.cell?_of_block (w := w) (a := ⟨s, 0, none⟩) hb).trans h.c0, (World.cell?_of_block (w := w) (a := ⟨s, 1, none⟩) hb).trans h.c1, (World.frozen?_of_block (w := w) (a := ⟨s, 0, none⟩) hb).trans h.f0, (World.frozen?_of_block (w := w) (a := ⟨s, 1, none⟩) hb).trans h.f1, ?_, h.far, h.cap, h.byt, h.len⟩
  exact h.row.mutT hm (fun b off e hne hg => by have := h.far b off e hne; have := hG b hg; omega)
theorem cell_mut {G : Nat → Prop} {w w' : World} {p : Addr} {v : Value} (h : w.cell? p = some v) (hm : Mut G w w') (hG : ¬ G p.block) : w'.cell? p = some v :=
  (hm.cell (World.block_lt_of_cell? w _ h) hG).trans h
end Go.Proofs.YtppapeoainafbaaGreatDoor

namespace Go.Proofs.YtppapeoainafbaaGreatDoor
open Go.RowKit
/-- the place of a result: one cell -/
structure Cell1 (w : World) (g : Nat) (v : Value) : Prop where
  c : w.cell? ⟨g, 0, none⟩ = some v
  f : w.frozen? ⟨g, 0, none⟩ = false
theorem Cell1.made (w : World) (t : TypeId) (v : Value) : Cell1 (w.alloc (.cells #[v] t)) w.heap.size v := ⟨by simp, by simp⟩
theorem Cell1.lt {w : World} {g : Nat} {v : Value} (h : Cell1 w g v) : g < w.heap.size := World.block_lt_of_cell? w _ h.c
theorem Cell1.ext {w w' : World} {g : Nat} {v : Value} (h : Cell1 w g v) (hb : Below w.heap.size w w') : Cell1 w' g v := ⟨cell_toB h.c hb, (hb.frozen (by exact h.lt)).trans h.f⟩
theorem Cell1.mutT {G : Nat → Prop} {w w' : World} {g : Nat} {v : Value} (h : Cell1 w g v) (hm : Mut G w w') (hG : ¬ G g) : Cell1 w' g v :=
  ⟨cell_mut h.c hm hG, (World.frozen?_of_block (w := w) (a := ⟨g, 0, none⟩) (hm.block g h.lt hG)).trans h.f⟩
end Go.Proofs.YtppapeoainafbaaGreatDoor

namespace Go.Proofs.YtppapeoainafbaaGreatDoor
open Go.RowKit
/-- a box of two cells -/
structure BoxP (w : World) (b : Nat) (v0 v1 : Value) : Prop where
  c0 : w.cell? ⟨b, 0, none⟩ = some v0
  c1 : w.cell? ⟨b, 1, none⟩ = some v1
  f0 : w.frozen? ⟨b, 0, none⟩ = false
  f1 : w.frozen? ⟨b, 1, none⟩ = false
theorem BoxP.lt {w : World} {b : Nat} {v0 v1 : Value} (h : BoxP w b v0 v1) : b < w.heap.size := World.block_lt_of_cell? w _ h.c0
theorem BoxP.ext {w w' : World} {b : Nat} {v0 v1 : Value} (h : BoxP w b v0 v1) (hb : Below w.heap.size w w') : BoxP w' b v0 v1 :=
  ⟨cell_toB h.c0 hb, cell_toB h.c1 hb, (hb.frozen (by exact h.lt)).trans h.f0, (hb.frozen (by exact h.lt)).trans h.f1⟩
theorem BoxP.made (w : World) (t : TypeId) (v0 v1 : Value) : BoxP (w.alloc (.cells #[v0, v1] t)) w.heap.size v0 v1 := ⟨by simp, by simp, by simp, by simp⟩
theorem BoxP.mutT {G : Nat → Prop} {w w' : World} {b : Nat} {v0 v1 : Value} (h : BoxP w b v0 v1) (hm : Mut G w w') (hG : ¬ G b) : BoxP w' b v0 v1 :=
  ⟨cell_mut h.c0 hm hG, cell_mut h.c1 hm hG, (World.frozen?_of_block (w := w) (a := ⟨b, 0, none⟩) (hm.block b h.lt hG)).trans h.f0, (World.frozen?_of_block (w := w) (a := ⟨b, 1, none⟩) (hm.block b h.lt hG)).trans h.f1⟩
theorem BoxP.put {w : World} {b : Nat} {v0 v1 : Value} (h : BoxP w b v0 v1) (x y : Value) : BoxP ((w.setCell ⟨b, 0, none⟩ x).setCell ⟨b, 1, none⟩ y) b x y := by
  refine ⟨?_, ?_, by simp [h.f0], by simp [h.f1]⟩
  · rw [World.cell?_setCell_other _ _ _ _ (by simp)]
    exact World.cell?_setCell_same _ _ _ h.c0
  · refine World.cell?_setCell_same _ _ _ (u := v1) ?_
    rw [World.cell?_setCell_other _ _ _ _ (by simp)]
    exact h.c1
end Go.Proofs.YtppapeoainafbaaGreatDoor

namespace Go.Proofs.YtppapeoainafbaaGreatDoor
open Go.RowKit
theorem OwnP.mutT {G : Nat → Prop} {w w' : World} {base : Nat} {v : Value} {xs : List Pid} (h : OwnP w base v xs) (hm : Mut G w w') (hG : ∀ k, G k → k < base) : OwnP w' base v xs := by
  refine ⟨h.1, ?_⟩
  rcases h.2 with hn | ⟨g, cap, cur, rfl, hbb, hgg, rest⟩
  · exact .inl hn
  · exact .inr ⟨g, cap, cur, rfl, hbb, (hm.block g (Array.getElem?_eq_some_iff.1 hgg).1 (fun hg => by have := hG g hg; omega)).trans hgg, rest⟩
theorem Mut.drew {G : Nat → Prop} {w0 w : World} (hm : Mut G w0 w) : Mut G w0 w.drew := hm.trans (Mut.of_below (Below.refl _ _).drew)
end Go.Proofs.YtppapeoainafbaaGreatDoor

namespace Go.Proofs.YtppapeoainafbaaGreatDoor
open Go.RowKit
theorem OwnP.mono2 {w : World} {b b' : Nat} {v : Value} {xs : List Pid} (h : OwnP w b v xs) (hb : b' ≤ b) : OwnP w b' v xs := by
  refine ⟨h.1, ?_⟩
  rcases h.2 with hn | ⟨g, cap, cur, rfl, hbb, rest⟩
  · exact .inl hn
  · exact .inr ⟨g, cap, cur, rfl, Nat.le_trans hb hbb, rest⟩
end Go.Proofs.YtppapeoainafbaaGreatDoor

namespace Go.Proofs.YtppapeoainafbaaGreatDoor
open Go.RowKit

/-! ### view.Put -/
/-- a row of an earlier world is no block of a later one -/
theorem PidRow.far {w : World} {a : Option Addr} {l : List Pid} (h : PidRow w a l) {s : Nat} (hs : w.heap.size ≤ s) : ∀ b off, a = some ⟨b, off, none⟩ → l ≠ [] → b ≠ s := by
  rintro b off rfl hl
  rcases h with rfl | ⟨b', off', e, hlt, -⟩
  · exact absurd rfl hl
  · cases e; omega
end Go.Proofs.YtppapeoainafbaaGreatDoor

namespace Go.Proofs.YtppapeoainafbaaGreatDoor
open Go.RowKit

/-! ### view.Put, where the view may be -/
theorem Wrote.step {w w1 w2 : World} {s : Nat} {v1 v2 : Value} {b1 b2 : List Nat} (h : Wrote w w1 s v1 b1) (h2 : Wrote w1 w2 s v2 b2) : Wrote w w2 s v2 b2 := h.trans (Below.refl _ _) h2
theorem Wrote.pre {w w1 w2 : World} {s : Nat} {v : Value} {bs : List Nat} (hb : Below w.heap.size w w1) (h : Wrote w1 w2 s v bs) : Wrote w w2 s v bs :=
  ⟨h.wr, h.own.mono hb.size, (Mut.of_below hb).trans h.mt⟩
/-- what the rest of view.Put leans on -/
structure PutS (w0 W : World) (s g1 g2 r b i : Nat) (V : View) (am al ad : Option Addr) (cm cl cd : Nat) : Prop where
  c1 : W.cell? ⟨g1, 0, none⟩ = some (.pointer (some ⟨s, 0, none⟩))
  c2 : W.cell? ⟨g2, 0, none⟩ = some (.map (some r))
  y0 : W.cell? ⟨b, 0, none⟩ = some (.int .u64 i)
  y1 : W.cell? ⟨b, 1, none⟩ = some (.slice am V.ms.length cm)
  y2 : W.cell? ⟨b, 2, none⟩ = some (.slice al V.ls.length cl)
  y3 : W.cell? ⟨b, 3, none⟩ = some (.slice ad V.ds.length cd)
  M : MapIs W r pidV eI (ranksL V.ms)
  n1 : g1 ≠ s
  n2 : g2 ≠ s
  nr : r ≠ s
  nb : b ≠ s
  b0 : Below w0.heap.size w0 W
  hs : w0.heap.size ≤ s
theorem PutS.mut {w0 W W' : World} {s g1 g2 r b i : Nat} {V : View} {am al ad : Option Addr} {cm cl cd : Nat} (h : PutS w0 W s g1 g2 r b i V am al ad cm cl cd) (hm : Mut (fun k => k = s) W W') : PutS w0 W' s g1 g2 r b i V am al ad cm cl cd :=
  ⟨cell_mut h.c1 hm h.n1, cell_mut h.c2 hm h.n2, cell_mut h.y0 hm h.nb, cell_mut h.y1 hm h.nb, cell_mut h.y2 hm h.nb, cell_mut h.y3 hm h.nb, h.M.same (hm.block r h.M.lt h.nr), h.n1, h.n2, h.nr, h.nb, h.b0.trans (hm.below h.b0.size (fun _k e => e ▸ h.hs)), h.hs⟩

end Go.Proofs.YtppapeoainafbaaGreatDoor

namespace Go.Proofs.YtppapeoainafbaaGreatDoor
open Go.RowKit

/-! ### lists of lists, each in a block of the call's own; boxes of four cells -/
theorem infoPs : (Tryz.prog.info? 30).map (fun i => (i.zero, i.size, i.bytes)) = some (some (.slice none 0 0), 1, 24) := by kernel_rfl
theorem OwnP.grownN {w w' : World} {base : Nat} {v : Value} {xs : List Pid} {row : Option Nat} (h : OwnP w base v xs) (hg : w.grownBy w' row) (hne : ∀ g, v.ownBlock = some g → row ≠ some g) : OwnP w' base v xs := by
  refine ⟨h.1, ?_⟩
  rcases h.2 with hn | ⟨g, cap, cur, rfl, hbb, hgg, rest⟩
  · exact .inl hn
  · exact .inr ⟨g, cap, cur, rfl, hbb, (hg.block g (Array.getElem?_eq_some_iff.1 hgg).1 (fun e => hne g rfl e.symm)).trans hgg, rest⟩
theorem OwnP.mutN {G : Nat → Prop} {w w' : World} {base : Nat} {v : Value} {xs : List Pid} (h : OwnP w base v xs) (hm : Mut G w w') (hG : ∀ g, v.ownBlock = some g → ¬ G g) : OwnP w' base v xs := by
  refine ⟨h.1, ?_⟩
  rcases h.2 with hn | ⟨g, cap, cur, rfl, hbb, hgg, rest⟩
  · exact .inl hn
  · exact .inr ⟨g, cap, cur, rfl, hbb, (hm.block g (Array.getElem?_eq_some_iff.1 hgg).1 (hG g rfl)).trans hgg, rest⟩
theorem OwnP.blk {w : World} {base : Nat} {v : Value} {xs : List Pid} (h : OwnP w base v xs) {g : Nat} (hg : v.ownBlock = some g) : base ≤ g ∧ g < w.heap.size := World.ownsRow.lt h g hg
def OwnLL (w : World) (base : Nat) (v : Value) (Ls : List (List Pid)) : Prop :=
  ∃ cells : List Value, w.ownsRow base 30 1 v Ls.length cells ∧ ∀ i (h : i < Ls.length), ∃ vi, cells[i]? = some vi ∧ OwnP w base vi Ls[i] ∧ ∀ g, vi.ownBlock = some g → v.ownBlock ≠ some g
theorem OwnLL.nil (w : World) (base : Nat) : OwnLL w base (.slice none 0 0) [] := ⟨[], World.ownsRow_nil _ _ _ _, fun i h => by simp at h⟩
theorem OwnLL.ext {w w' : World} {base : Nat} {v : Value} {Ls : List (List Pid)} (h : OwnLL w base v Ls) (hb : Below w.heap.size w w') : OwnLL w' base v Ls := by
  obtain ⟨cells, ho, he⟩ := h
  refine ⟨cells, ⟨ho.1, ?_⟩, fun i hi => ?_⟩
  · rcases ho.2 with hn | ⟨g, cap, cur, rfl, hbb, hgg, rest⟩
    · exact .inl hn
    · exact .inr ⟨g, cap, cur, rfl, hbb, (hb.block g (Array.getElem?_eq_some_iff.1 hgg).1).trans hgg, rest⟩
  · obtain ⟨vi, h1, h2, h3⟩ := he i hi
    exact ⟨vi, h1, h2.ext hb, h3⟩
theorem OwnLL.mutT {G : Nat → Prop} {w w' : World} {base : Nat} {v : Value} {Ls : List (List Pid)} (h : OwnLL w base v Ls) (hm : Mut G w w') (hG : ∀ k, G k → k < base) : OwnLL w' base v Ls := by
  obtain ⟨cells, ho, he⟩ := h
  refine ⟨cells, ⟨ho.1, ?_⟩, fun i hi => ?_⟩
  · rcases ho.2 with hn | ⟨g, cap, cur, rfl, hbb, hgg, rest⟩
    · exact .inl hn
    · exact .inr ⟨g, cap, cur, rfl, hbb, (hm.block g (Array.getElem?_eq_some_iff.1 hgg).1 (fun hg => by have := hG g hg; omega)).trans hgg, rest⟩
  · obtain ⟨vi, h1, h2, h3⟩ := he i hi
    exact ⟨vi, h1, h2.mutT hm hG, h3⟩
theorem OwnLL.mono {w : World} {b b' : Nat} {v : Value} {Ls : List (List Pid)} (h : OwnLL w b v Ls) (hb : b' ≤ b) : OwnLL w b' v Ls := by
  obtain ⟨cells, ho, he⟩ := h
  refine ⟨cells, ⟨ho.1, ?_⟩, fun i hi => ?_⟩
  · rcases ho.2 with hn | ⟨g, cap, cur, rfl, hbb, rest⟩
    · exact .inl hn
    · exact .inr ⟨g, cap, cur, rfl, by omega, rest⟩
  · obtain ⟨vi, h1, h2, h3⟩ := he i hi
    exact ⟨vi, h1, h2.mono2 hb, h3⟩
theorem OwnLL.row {w : World} {base : Nat} {v : Value} {Ls : List (List Pid)} (h : OwnLL w base v Ls) : ∃ a c, v = .slice a Ls.length c ∧ LeafRow w a Ls := by
  obtain ⟨cells, ho, he⟩ := h
  have hcells := fun g => World.ownsRow.cells (g := g) ho
  rcases ho.2 with ⟨rfl, hn⟩ | ⟨g, cap, cur, rfl, hb, hg, hnc, hcm, hcs, htake⟩
  · exact ⟨none, 0, by rw [hn], .inl (List.length_eq_zero_iff.1 hn)⟩
  · refine ⟨_, cap, rfl, .inr ⟨g, 0, rfl, (Array.getElem?_eq_some_iff.1 hg).1, fun i hi => ?_⟩⟩
    obtain ⟨vi, h1, h2, _⟩ := he i hi
    have := hcells g rfl i _ h1
    rw [addr_add] at this
    obtain ⟨ai, ci, e, hr, _⟩ := h2.row
    exact ⟨ai, ci, by rw [this, e], hr⟩
theorem OwnLL.blk {w : World} {base : Nat} {v : Value} {Ls : List (List Pid)} (h : OwnLL w base v Ls) {g : Nat} (hg : v.ownBlock = some g) : base ≤ g ∧ g < w.heap.size := by
  obtain ⟨cells, ho, _⟩ := h
  exact World.ownsRow.lt ho g hg
theorem off2t {w : World} {b q j : Nat} {x : Value} (hc : j ≠ q) : (w.setCell ⟨b, q, none⟩ x).cell? ⟨b, j, none⟩ = w.cell? ⟨b, j, none⟩ :=
  World.cell?_setCell_other _ _ _ _ (by intro e; injection e with e1 e2; exact hc e2.symm)
/-- a block of four cells that may be written -/
structure BoxV (w : World) (b : Nat) (v0 v1 v2 v3 : Value) : Prop where
  c0 : w.cell? ⟨b, 0, none⟩ = some v0
  c1 : w.cell? ⟨b, 1, none⟩ = some v1
  c2 : w.cell? ⟨b, 2, none⟩ = some v2
  c3 : w.cell? ⟨b, 3, none⟩ = some v3
  f0 : w.frozen? ⟨b, 0, none⟩ = false
  f1 : w.frozen? ⟨b, 1, none⟩ = false
  f2 : w.frozen? ⟨b, 2, none⟩ = false
  f3 : w.frozen? ⟨b, 3, none⟩ = false
section
variable {w w' : World} {b : Nat} {v0 v1 v2 v3 : Value}
theorem BoxV.lt (h : BoxV w b v0 v1 v2 v3) : b < w.heap.size := World.block_lt_of_cell? w _ h.c0
theorem BoxV.ext (h : BoxV w b v0 v1 v2 v3) (hb : Below w.heap.size w w') : BoxV w' b v0 v1 v2 v3 :=
  ⟨cell_toB h.c0 hb, cell_toB h.c1 hb, cell_toB h.c2 hb, cell_toB h.c3 hb, (hb.frozen (by exact h.lt)).trans h.f0, (hb.frozen (by exact h.lt)).trans h.f1, (hb.frozen (by exact h.lt)).trans h.f2, (hb.frozen (by exact h.lt)).trans h.f3⟩
theorem BoxV.made (w : World) (t : TypeId) (v0 v1 v2 v3 : Value) : BoxV (w.alloc (.cells #[v0, v1, v2, v3] t)) w.heap.size v0 v1 v2 v3 := ⟨by simp, by simp, by simp, by simp, by simp, by simp, by simp, by simp⟩
theorem BoxV.mutT {G : Nat → Prop} (h : BoxV w b v0 v1 v2 v3) (hm : Mut G w w') (hG : ¬ G b) : BoxV w' b v0 v1 v2 v3 := by
  have g : ∀ j, w'.frozen? ⟨b, j, none⟩ = w.frozen? ⟨b, j, none⟩ := fun j => World.frozen?_of_block (w := w) (a := ⟨b, j, none⟩) (hm.block b h.lt hG)
  exact ⟨cell_mut h.c0 hm hG, cell_mut h.c1 hm hG, cell_mut h.c2 hm hG, cell_mut h.c3 hm hG, (g 0).trans h.f0, (g 1).trans h.f1, (g 2).trans h.f2, (g 3).trans h.f3⟩
theorem BoxV.set2 (h : BoxV w b v0 v1 v2 v3) (u : Value) : BoxV (w.setCell ⟨b, 2, none⟩ u) b v0 v1 u v3 :=
  ⟨by rw [off2t (by omega)]; exact h.c0, by rw [off2t (by omega)]; exact h.c1, World.cell?_setCell_same _ _ _ h.c2, by rw [off2t (by omega)]; exact h.c3, by simp [h.f0], by simp [h.f1], by simp [h.f2], by simp [h.f3]⟩
theorem BoxV.set3 (h : BoxV w b v0 v1 v2 v3) (u : Value) : BoxV (w.setCell ⟨b, 3, none⟩ u) b v0 v1 v2 u :=
  ⟨by rw [off2t (by omega)]; exact h.c0, by rw [off2t (by omega)]; exact h.c1, by rw [off2t (by omega)]; exact h.c2, World.cell?_setCell_same _ _ _ h.c3, by simp [h.f0], by simp [h.f1], by simp [h.f2], by simp [h.f3]⟩
theorem BoxV.put (h : BoxV w b v0 v1 v2 v3) (u0 u1 u2 u3 : Value) : BoxV ((((w.setCell ⟨b, 0, none⟩ u0).setCell ⟨b, 1, none⟩ u1).setCell ⟨b, 2, none⟩ u2).setCell ⟨b, 3, none⟩ u3) b u0 u1 u2 u3 := by
  obtain ⟨c0, c1, c2, c3, f0, f1, f2, f3⟩ := h
  refine ⟨?_, ?_, ?_, ?_, by simp [f0], by simp [f1], by simp [f2], by simp [f3]⟩
  · rw [off2t (by omega), off2t (by omega), off2t (by omega)]; exact World.cell?_setCell_same _ _ _ c0
  · rw [off2t (by omega), off2t (by omega)]; exact World.cell?_setCell_same _ _ _ (by rw [off2t (by omega)]; exact c1)
  · rw [off2t (by omega)]; exact World.cell?_setCell_same _ _ _ (by rw [off2t (by omega), off2t (by omega)]; exact c2)
  · exact World.cell?_setCell_same _ _ _ (by rw [off2t (by omega), off2t (by omega), off2t (by omega)]; exact c3)
theorem mutV (w : World) (b : Nat) (u0 u1 u2 u3 : Value) : Mut (fun k => k = b) w ((((w.setCell ⟨b, 0, none⟩ u0).setCell ⟨b, 1, none⟩ u1).setCell ⟨b, 2, none⟩ u2).setCell ⟨b, 3, none⟩ u3) :=
  ((mut1.trans mut1).trans mut1).trans mut1
end
/-! ### lengths of what is read -/
end Go.Proofs.YtppapeoainafbaaGreatDoor

namespace Go.Proofs.YtppapeoainafbaaGreatDoor
open Go.RowKit
abbrev LL := List (List Pid)
/-! ### leaves: an own row of slices, each an own row of processes, each in a block of its own -/
abbrev Sl := Option Addr × Nat × Nat
def encS (s : Sl) : Value := .slice s.1 s.2.1 s.2.2
def blkS (s : Sl) : Option Nat := s.1.map (·.block)
theorem own_encS (s : Sl) : (encS s).ownBlock = blkS s := by
  obtain ⟨a, n, c⟩ := s
  cases a <;> rfl
structure LLs (w : World) (base : Nat) (v : Value) (cs : List Sl) (ls : LL) : Prop where
  own : w.ownsRow base 30 1 v ls.length (cs.map encS)
  el : ∀ i (h : i < ls.length), ∃ s, cs[i]? = some s ∧ OwnP w base (encS s) ls[i]
  out : ∀ s ∈ cs, ∀ g, blkS s = some g → v.ownBlock ≠ some g
  apart : cs.Pairwise fun a b => ∀ g, blkS a = some g → blkS b ≠ some g
theorem LLs.len {w : World} {base : Nat} {v : Value} {cs : List Sl} {ls : LL} (h : LLs w base v cs ls) : cs.length = ls.length := by
  have := h.own.1
  simpa using this
theorem LLs.nil (w : World) (base : Nat) : LLs w base (.slice none 0 0) [] [] := ⟨World.ownsRow_nil _ _ _ _, fun i h => by simp at h, by simp, List.Pairwise.nil⟩
theorem LLs.toOwnLL {w : World} {base : Nat} {v : Value} {cs : List Sl} {ls : LL} (h : LLs w base v cs ls) : OwnLL w base v ls := by
  refine ⟨cs.map encS, h.own, fun i hi => ?_⟩
  obtain ⟨s, h1, h2⟩ := h.el i hi
  refine ⟨encS s, by rw [List.getElem?_map, h1]; rfl, h2, fun g hg => ?_⟩
  rw [own_encS] at hg
  exact h.out s (List.mem_of_getElem? h1) g hg
theorem LLs.row {w : World} {base : Nat} {v : Value} {cs : List Sl} {ls : LL} (h : LLs w base v cs ls) : ∃ a c, v = .slice a ls.length c ∧ LeafRow w a ls := h.toOwnLL.row
theorem LLs.blk {w : World} {base : Nat} {v : Value} {cs : List Sl} {ls : LL} (h : LLs w base v cs ls) {g : Nat} (hg : v.ownBlock = some g) : base ≤ g ∧ g < w.heap.size := h.toOwnLL.blk hg
theorem ownsRow_mut {G : Nat → Prop} {w w' : World} {base n k : Nat} {e : TypeId} {v : Value} {xs : List Value} (h : w.ownsRow base e k v n xs) (hm : Mut G w w') (hG : ∀ g, v.ownBlock = some g → ¬ G g) : w'.ownsRow base e k v n xs := by
  refine ⟨h.1, ?_⟩
  rcases h.2 with hn | ⟨g, cap, cur, rfl, hbb, hgg, rest⟩
  · exact .inl hn
  · exact .inr ⟨g, cap, cur, rfl, hbb, (hm.block g (Array.getElem?_eq_some_iff.1 hgg).1 (hG g rfl)).trans hgg, rest⟩
theorem LLs.mutN {G : Nat → Prop} {w w' : World} {base : Nat} {v : Value} {cs : List Sl} {ls : LL} (h : LLs w base v cs ls) (hm : Mut G w w') (hv : ∀ g, v.ownBlock = some g → ¬ G g) (hc : ∀ s ∈ cs, ∀ g, blkS s = some g → ¬ G g) : LLs w' base v cs ls :=
  ⟨ownsRow_mut h.own hm hv, fun i hi => by
    obtain ⟨s, h1, h2⟩ := h.el i hi
    exact ⟨s, h1, h2.mutN hm (fun g hg => hc s (List.mem_of_getElem? h1) g (by rw [← own_encS]; exact hg))⟩, h.out, h.apart⟩
theorem LLs.elB {w : World} {base : Nat} {v : Value} {cs : List Sl} {ls : LL} (h : LLs w base v cs ls) {s : Sl} (hs : s ∈ cs) {g : Nat} (hg : blkS s = some g) : base ≤ g ∧ g < w.heap.size := by
  obtain ⟨i, hi, e⟩ := List.mem_iff_getElem.1 hs
  obtain ⟨s', h1, h2⟩ := h.el i (by rw [← h.len]; exact hi)
  have : s' = s := by rw [List.getElem?_eq_getElem hi] at h1; cases h1; exact e
  subst this
  exact h2.blk (by rw [own_encS]; exact hg)
theorem LLs.mutT {G : Nat → Prop} {w w' : World} {base : Nat} {v : Value} {cs : List Sl} {ls : LL} (h : LLs w base v cs ls) (hm : Mut G w w') (hG : ∀ k, G k → k < base) : LLs w' base v cs ls :=
  h.mutN hm (fun g hg hk => by have := (h.blk hg).1; have := hG g hk; omega) (fun s hs g hg hk => by have := (h.elB hs hg).1; have := hG g hk; omega)
theorem LLs.ext {w w' : World} {base : Nat} {v : Value} {cs : List Sl} {ls : LL} (h : LLs w base v cs ls) (hb : Below w.heap.size w w') : LLs w' base v cs ls :=
  h.mutN (G := fun _ => False) (Mut.of_below hb) (fun _ _ e => e) (fun _ _ _ _ e => e)
theorem LLs.mono {w : World} {b b' : Nat} {v : Value} {cs : List Sl} {ls : LL} (h : LLs w b v cs ls) (hb : b' ≤ b) : LLs w b' v cs ls := by
  refine ⟨⟨h.own.1, ?_⟩, fun i hi => ?_, h.out, h.apart⟩
  · rcases h.own.2 with hn | ⟨g, cap, cur, rfl, hbb, rest⟩
    · exact .inl hn
    · exact .inr ⟨g, cap, cur, rfl, by omega, rest⟩
  · obtain ⟨s, h1, h2⟩ := h.el i hi
    exact ⟨s, h1, h2.mono2 hb⟩
/-- the k-th leaf -/
theorem LLs.get {w : World} {base : Nat} {v : Value} {cs : List Sl} {ls : LL} (h : LLs w base v cs ls) {k : Nat} (hk : k < ls.length) :
    ∃ g cap s, v = .slice (some ⟨g, 0, none⟩) ls.length cap ∧ ls.length ≤ cap ∧ base ≤ g ∧ g < w.heap.size ∧ cs[k]? = some s ∧ w.cell? ⟨g, k, none⟩ = some (encS s) ∧ w.frozen? ⟨g, k, none⟩ = false ∧ OwnP w base (encS s) ls[k] ∧ blkS s ≠ some g := by
  obtain ⟨s, h1, h2⟩ := h.el k hk
  have hcells := fun g => World.ownsRow.cells (g := g) h.own
  rcases h.own.2 with ⟨rfl, hn⟩ | ⟨g, cap, cur, rfl, hb, hg, hnc, hcm, hcs, htake⟩
  · omega
  · have hlt : g < w.heap.size := (Array.getElem?_eq_some_iff.1 hg).1
    refine ⟨g, cap, s, rfl, hnc, hb, hlt, h1, ?_, by simp [World.frozen?, hg], h2, fun e => h.out s (List.mem_of_getElem? h1) g e rfl⟩
    have := hcells g rfl k (encS s) (by rw [List.getElem?_map, h1]; rfl)
    rw [addr_add] at this
    simpa using this
/-- a leaf is put anew: its row lies in its old block, or in a new one -/
theorem LLs.put {w w1 : World} {base g k cap : Nat} {cs : List Sl} {ls : LL} {s s' : Sl} {l' : List Pid} (h : LLs w base (.slice (some ⟨g, 0, none⟩) ls.length cap) cs ls) (hk : k < ls.length) (hs : cs[k]? = some s) (hm : Mut (fun b => blkS s = some b) w w1) (hnew : OwnP w1 base (encS s') l') (hb : ∀ q, blkS s' = some q → blkS s = some q ∨ w.heap.size ≤ q) :
    LLs (w1.setCell ⟨g, k, none⟩ (encS s')) base (.slice (some ⟨g, 0, none⟩) ls.length cap) (cs.set k s') (ls.set k l') := by
  have hkc : k < cs.length := by rw [h.len]; exact hk
  have hsk : cs[k] = s := by rw [List.getElem?_eq_getElem hkc] at hs; cases hs; rfl
  have hsm : s ∈ cs := List.mem_of_getElem? hs
  have hgs : blkS s ≠ some g := fun e => h.out s hsm g e rfl
  have hglt := (h.blk (g := g) rfl).2
  have hset : Mut (fun b => b = g) w1 (w1.setCell ⟨g, k, none⟩ (encS s')) := mut1
  have hapart : ∀ i (hi : i < cs.length), i ≠ k → ∀ q, blkS cs[i] = some q → blkS s ≠ some q := by
    intro i hi hik q hq e
    rcases Nat.lt_or_gt_of_ne hik with hlt | hlt
    · have := List.pairwise_iff_getElem.1 h.apart i k hi hkc hlt q hq
      rw [hsk] at this; exact this e
    · have := List.pairwise_iff_getElem.1 h.apart k i hkc hi hlt q (by rw [hsk]; exact e)
      exact this hq
  have hapart' : ∀ i (hi : i < cs.length), i ≠ k → ∀ q, blkS cs[i] = some q → blkS s' ≠ some q := by
    intro i hi hik q hq e
    rcases hb q e with h1 | h1
    · exact hapart i hi hik q hq h1
    · have := (h.elB (List.getElem_mem hi) hq).2; omega
  have hown := ownsRow_mut h.own hm (fun q hq e => hgs (by simp [Value.ownBlock] at hq; rw [hq]; exact e))
  refine ⟨⟨by simp; exact h.len, ?_⟩, fun i hi => ?_, fun u hu q hq => ?_, ?_⟩
  · rcases hown.2 with ⟨e, -⟩ | ⟨g', cap', cur, e, hbb, hgg, hnc, hcm, hcs, htake⟩
    · cases e
    · cases e
      refine .inr ⟨g, cap, cur.setIfInBounds k (encS s'), by rw [List.length_set], hbb, ?_, by rw [List.length_set]; exact hnc, hcm, by simpa using hcs, ?_⟩
      · simp only [World.setCell, Array.getElem?_modify, if_pos, hgg, Option.map_some]
        rfl
      · rw [List.length_set, List.map_set, ← htake, Array.toList_setIfInBounds]
        rw [List.take_set]
  · have hi' : i < ls.length := by simpa using hi
    by_cases hik : i = k
    · subst hik
      refine ⟨s', by simp [hkc], ?_⟩
      rw [List.getElem_set_self]
      exact hnew.mutN hset (fun q hq e => by
        rw [own_encS] at hq
        rcases hb q hq with h1 | h1
        · have e : q = g := e
          exact hgs (by rw [h1, e])
        · have e : q = g := e
          omega)
    · obtain ⟨u, h1, h2⟩ := h.el i hi'
      refine ⟨u, by rw [List.getElem?_set_ne (Ne.symm hik)]; exact h1, ?_⟩
      rw [List.getElem_set_ne (Ne.symm hik)]
      have hic : i < cs.length := by rw [h.len]; exact hi'
      have hui : cs[i] = u := by rw [List.getElem?_eq_getElem hic] at h1; cases h1; rfl
      refine (h2.mutN hm (fun q hq e => ?_)).mutN hset (fun q hq e => ?_)
      · rw [own_encS, ← hui] at hq
        exact hapart i hic hik q hq e
      · rw [own_encS] at hq
        have e : q = g := e
        exact h.out u (List.mem_of_getElem? h1) q hq (by rw [e]; rfl)
  · rcases List.mem_or_eq_of_mem_set hu with hu | rfl
    · have := h.out u hu q hq
      simpa [Value.ownBlock] using this
    · intro e
      simp [Value.ownBlock] at e
      rcases hb q hq with h1 | h1
      · exact hgs (by rw [h1, e])
      · omega
  · rw [List.pairwise_iff_getElem]
    intro i j hi hj hij q hq e
    have hi' : i < cs.length := by simpa using hi
    have hj' : j < cs.length := by simpa using hj
    rw [List.getElem_set] at hq e
    by_cases h1 : k = i
    · subst h1
      rw [if_pos rfl] at hq
      rw [if_neg (by omega)] at e
      exact hapart' j hj' (by omega) q e hq
    · rw [if_neg h1] at hq
      by_cases h2 : k = j
      · subst h2
        rw [if_pos rfl] at e
        exact hapart' i hi' (by omega) q hq e
      · rw [if_neg h2] at e
        exact List.pairwise_iff_getElem.1 h.apart i j hi' hj' hij q hq e
/-! ### leaves: append, delete -/
theorem run_appendLs {w : World} {base : Nat} {v : Value} {cs : List Sl} {ls : LL} {s : Sl} {l : List Pid} {b c : Nat} (h : LLs w base v cs ls) (h0 : w.cell? ⟨b, 0, none⟩ = some (encS s)) (hs : OwnP w base (encS s) l) (hv : ∀ g, blkS s = some g → v.ownBlock ≠ some g) (hc : ∀ u ∈ cs, ∀ g, blkS u = some g → blkS s ≠ some g)
    (hlen : ls.length + 1 ≤ 1099511627776) (hbase : base ≤ w.heap.size) (ty : TypeId) :
    ∃ v' w', (Builtin.append_ #[31, 31] ty #[v, .slice (some ⟨b, 0, none⟩) 1 c]).run Tryz.prog w = .ok v' w' ∧ LLs w' base v' (cs ++ [s]) (ls ++ [l]) ∧ w.grownBy w' v.ownBlock ∧ (v'.ownBlock = v.ownBlock ∨ v'.ownBlock = some w.heap.size) := by
  obtain ⟨i0, hi, hz0, hz1, hz2⟩ := info_parts infoPs
  obtain ⟨v', w', hrun, h2, h3, h4, h5⟩ := run_append_own_at (P := Tryz.prog) w base 31 ty 30 i0 _ 1 24 Tryz.underlying31 hi hz0 hz1 hz2 rfl (by decide) v ls.length (cs.map encS) h.own ⟨b, 0, none⟩ 1 c [encS s] rfl (fun j u hu => by
    have hj : j = 0 := by have := (List.getElem?_eq_some_iff.1 hu).1; simpa using this
    subst hj
    rw [addr_add]
    simp at hu; subst hu
    exact h0) (fun u hu => by simp at hu; subst hu; rfl) (by unfold maxLen; omega) (by omega) hbase
  have hcl := h.len
  have far : ∀ (u : Sl), (∀ g, blkS u = some g → g < w.heap.size) → (∀ g, blkS u = some g → v.ownBlock ≠ some g) → ∀ g, blkS u = some g → v'.ownBlock ≠ some g := by
    intro u hm hno g hg
    rcases h5 with h5 | h5
    · rw [h5]; exact hno g hg
    · rw [h5]
      have := hm g hg
      intro e2; simp at e2; omega
  have hsb : ∀ g, blkS s = some g → g < w.heap.size := fun g hg => (hs.blk (by rw [own_encS]; exact hg)).2
  refine ⟨v', w', hrun, ⟨?_, fun i hi => ?_, fun u hu => ?_, ?_⟩, h3, h5⟩
  · rw [List.length_append, List.map_append]; exact h2
  · by_cases hlt : i < ls.length
    · obtain ⟨u, g1, g2⟩ := h.el i hlt
      rw [List.getElem?_append_left (by omega), List.getElem_append_left hlt]
      exact ⟨u, g1, g2.grownN h3 (fun g hg => by rw [own_encS] at hg; exact h.out u (List.mem_of_getElem? g1) g hg)⟩
    · have hi' : i = ls.length := by simp at hi; omega
      subst hi'
      rw [List.getElem?_append_right (by omega), List.getElem_append_right (by omega)]
      simp only [hcl, Nat.sub_self, List.getElem?_cons_zero, List.getElem_cons_zero]
      exact ⟨s, rfl, hs.grownN h3 (fun g hg => by rw [own_encS] at hg; exact hv g hg)⟩
  · rcases List.mem_append.1 hu with hu | hu
    · exact far u (fun g hg => (h.elB hu hg).2) (h.out u hu)
    · rw [List.mem_singleton.1 hu]; exact far s hsb hv
  · rw [List.pairwise_append]
    refine ⟨h.apart, List.pairwise_singleton _ _, fun a ha b' hb' => ?_⟩
    rw [List.mem_singleton.1 hb']
    exact hc a ha
/-- 'append(l, x)' at the operation -/
theorem wpList_appendLs {w : World} {ops : Array Oper} {rest : List Oper} {o : Oper} {a : Act} {Q : Exit → Act → World → Prop} {sx x : Operand} {base : Nat} {v : Value} {cs : List Sl} {ls : LL} {s : Sl} {l : List Pid} {b c : Nat} (h : LLs w base v cs ls) (h0 : w.cell? ⟨b, 0, none⟩ = some (encS s)) (hs : OwnP w base (encS s) l) (hv : ∀ g, blkS s = some g → v.ownBlock ≠ some g) (hc : ∀ u ∈ cs, ∀ g, blkS u = some g → blkS s ≠ some g)
    (hlen : ls.length + 1 ≤ 1099511627776) (hbase : base ≤ w.heap.size)
    (hg : o.guard = none) (ho : o.op = .call { callee := .builtin .append, args := #[sx, x], argTypes := #[31, 31] }) (hsx : a.eval sx = v) (hx : a.eval x = .slice (some ⟨b, 0, none⟩) 1 c)
    (hk : ∀ v' w', LLs w' base v' (cs ++ [s]) (ls ++ [l]) → w.grownBy w' v.ownBlock → (v'.ownBlock = v.ownBlock ∨ v'.ownBlock = some w.heap.size) → wpList Tryz.prog ops Q rest (a.put o.dst v') w') : wpList Tryz.prog ops Q (o :: rest) a w := by
  obtain ⟨v', w', hr, h2, h3, h4⟩ := run_appendLs h h0 hs hv hc hlen hbase (c := c) o.type
  exact Lib.wpList_append_run w hg sx x 31 31 ho _ _ hsx hx v' w' hr (hk v' w' h2 h3 h4)
theorem grown_mutS {w w' : World} {v : Value} (hg : w.grownBy w' v.ownBlock) : Mut (fun b => v.ownBlock = some b) w w' :=
  ⟨hg.os, hg.tape, hg.output, hg.size, fun k hk hf => hg.block k hk (fun e => hf e.symm)⟩
theorem Mut.frozen {F : Nat → Prop} {w w' : World} (h : Mut F w w') {p : Addr} (hp : p.block < w.heap.size) (hf : ¬ F p.block) : w'.frozen? p = w.frozen? p := by
  simp only [World.frozen?, h.block p.block hp hf]
/-- the blocks of leaves -/
def inLL (v : Value) (cs : List Sl) (b : Nat) : Prop := v.ownBlock = some b ∨ ∃ s ∈ cs, blkS s = some b
/-- what a step leaves: only the leaves' blocks are written, and the new leaves lie in theirs or in new ones -/
structure Keeps (w : World) (v : Value) (cs : List Sl) (w' : World) (v' : Value) (cs' : List Sl) : Prop where
  mt : Mut (inLL v cs) w w'
  blk : ∀ b, inLL v' cs' b → inLL v cs b ∨ w.heap.size ≤ b
theorem Keeps.refl (w : World) (v : Value) (cs : List Sl) : Keeps w v cs w v cs := ⟨Mut.refl _ _, fun _ h => .inl h⟩
theorem Keeps.trans {w w1 w2 : World} {v v1 v2 : Value} {cs cs1 cs2 : List Sl} (h1 : Keeps w v cs w1 v1 cs1) (h2 : Keeps w1 v1 cs1 w2 v2 cs2) : Keeps w v cs w2 v2 cs2 := by
  have hs := h1.mt.size
  refine ⟨⟨h2.mt.os.trans h1.mt.os, h2.mt.tape.trans h1.mt.tape, h2.mt.output.trans h1.mt.output, Nat.le_trans hs h2.mt.size, fun k hk hn => ?_⟩, fun b hb => ?_⟩
  · refine (h2.mt.block k (by omega) fun e => ?_).trans (h1.mt.block k hk hn)
    rcases h1.blk k e with e | e
    · exact hn e
    · omega
  · rcases h2.blk b hb with e | e
    · exact h1.blk b e
    · exact .inr (by omega)
theorem Keeps.ext {w w1 w2 : World} {v v1 : Value} {cs cs1 : List Sl} (h1 : Keeps w v cs w1 v1 cs1) (hb : Below w1.heap.size w1 w2) : Keeps w v cs w2 v1 cs1 := ⟨h1.mt.trans (Mut.of_below hb), h1.blk⟩
theorem LLs.inB {w : World} {base : Nat} {v : Value} {cs : List Sl} {ls : LL} (h : LLs w base v cs ls) {b : Nat} (hb : inLL v cs b) : base ≤ b ∧ b < w.heap.size := by
  rcases hb with e | ⟨s, hs, e⟩
  · exact h.blk e
  · exact h.elB hs e
theorem Keeps.low {w w' : World} {base : Nat} {v v' : Value} {cs cs' : List Sl} {ls : LL} (hk : Keeps w v cs w' v' cs') (h : LLs w base v cs ls) : Mut (fun b => base ≤ b) w w' := hk.mt.mono fun _ _ e => (h.inB e).1
theorem OwnP.rowc {w : World} {base : Nat} {v : Value} {xs : List Pid} (h : OwnP w base v xs) : ∃ a c, v = .slice a xs.length c ∧ PidRow w a xs ∧ xs.length ≤ c := by
  obtain ⟨a, c, rfl, hr, -⟩ := h.row
  refine ⟨a, c, rfl, hr, ?_⟩
  rcases h.2 with ⟨h1, h2⟩ | ⟨g, cap, cur, h1, _, _, h2, _⟩
  · omega
  · injection h1 with _ _ h1; omega
/-- an own row as its three words -/
theorem OwnP.sl {w : World} {base : Nat} {v : Value} {xs : List Pid} (h : OwnP w base v xs) : ∃ a c, v = .slice a xs.length c ∧ v = encS (a, xs.length, c) ∧ PidRow w a xs ∧ xs.length ≤ c ∧ ∀ q, blkS (a, xs.length, c) = some q → base ≤ q ∧ q < w.heap.size := by
  obtain ⟨a, c, e, hr, hc⟩ := h.rowc
  refine ⟨a, c, e, e, hr, hc, fun q hq => ?_⟩
  have e2 : v.ownBlock = blkS (a, xs.length, c) := by rw [e]; exact own_encS (a, xs.length, c)
  exact h.blk (by rw [e2]; exact hq)
theorem run_appendPat {w : World} {base : Nat} {v : Value} {xs ys : List Pid} (hown : OwnP w base v xs) {a : Option Addr} {c : Nat} (hy : PidRow w a ys) (hlen : xs.length + ys.length ≤ 1099511627776) (hbase : base ≤ w.heap.size) (ty : TypeId) :
    ∃ v' w', (Builtin.append_ #[30, 30] ty #[v, .slice a ys.length c]).run Tryz.prog w = .ok v' w' ∧ OwnP w' base v' (xs ++ ys) ∧ w.grownBy w' v.ownBlock ∧ (v'.ownBlock = v.ownBlock ∨ v'.ownBlock = some w.heap.size) := by
  obtain ⟨i0, hi, hz0, hz1, hz2⟩ := info_parts info36
  rcases hy with rfl | ⟨b, off, rfl, hlt, hc⟩
  · refine ⟨v, w, ?_, by simpa using hown, ⟨rfl, rfl, rfl, Nat.le_refl _, fun _ _ _ => rfl⟩, .inl rfl⟩
    rcases hown.2 with ⟨rfl, hn⟩ | ⟨g, cap, cur, rfl, hb, hg, hnc, hcm, hcs, htake⟩
    · cases a <;> simp [Builtin.append_, run_underlying Tryz.underlying30, sizeOf, typeInfo, hi, Builtin.lenOf, Builtin.firstCells, loadCells, loadCellsFrom]
    · cases a <;> simp [Builtin.append_, run_underlying Tryz.underlying30, sizeOf, typeInfo, hi, Builtin.lenOf, Builtin.firstCells, loadCells, loadCellsFrom, hnc, storeCells]
  · obtain ⟨v', w', hr, h2, h3, h4, h5⟩ := run_append_own_at (P := Tryz.prog) w base 30 ty 25 i0 _ 2 8 Tryz.underlying30 hi hz0 hz1 hz2 rfl (by decide) v xs.length (pidCells xs) hown ⟨b, off, none⟩ ys.length c (pidCells ys) (pidCells_length ys) (PidRow.cells hc) (pidCells_one ys) (by unfold maxLen; omega) (by omega) hbase
    refine ⟨v', w', hr, ?_, h3, h5⟩
    unfold OwnP; rw [List.length_append, pidCells_append]; exact h2
theorem wpList_appendPat {w : World} {ops : Array Oper} {rest : List Oper} {o : Oper} {a : Act} {Q : Exit → Act → World → Prop} {s x : Operand} {base : Nat} {v : Value} {xs ys : List Pid} (hown : OwnP w base v xs) {ad : Option Addr} {c n : Nat} (hy : PidRow w ad ys) (hn : Hid (ys.length = n))
    (hlen : xs.length + n ≤ 1099511627776) (hbase : base ≤ w.heap.size)
    (hg : o.guard = none) (ho : o.op = .call { callee := .builtin .append, args := #[s, x], argTypes := #[30, 30] }) (hs : a.eval s = v) (hx : a.eval x = .slice ad n c)
    (h : ∀ v' w', OwnP w' base v' (xs ++ ys) → w.grownBy w' v.ownBlock → (v'.ownBlock = v.ownBlock ∨ v'.ownBlock = some w.heap.size) → wpList Tryz.prog ops Q rest (a.put o.dst v') w') : wpList Tryz.prog ops Q (o :: rest) a w := by
  have hn := hn.out; subst hn
  obtain ⟨v', w', hr, h2, h3, h4⟩ := run_appendPat hown (c := c) hy hlen hbase o.type
  exact Lib.wpList_append_run w hg s x 30 30 ho _ _ hs hx v' w' hr (h v' w' h2 h3 h4)
theorem Keeps.cell {w w' : World} {v v' : Value} {cs cs' : List Sl} (hk : Keeps w v cs w' v' cs') {p : Addr} (hq : p.block < w.heap.size) (hn : ¬ inLL v cs p.block) : w'.cell? p = w.cell? p := hk.mt.cell hq hn
/-- append at an operation of a region that draws: the new slice lies in the old one's block, or in a new one -/
theorem step_appendPat {w : World} {o : Oper} {a : Go.Act} {K : Go.Act → World → Prop} {Q : Exit → Go.Act → World → Prop} {y : Nat → Option Bool} {s x : Operand} {base : Nat} {v : Value} {xs ys : List Pid} {ad : Option Addr} {n c : Nat} (hw : Region.wanted o y = true) (hown : OwnP w base v xs) (hy : PidRow w ad ys) (hn : Hid (ys.length = n))
    (hlen : xs.length + n ≤ 1099511627776) (hbase : base ≤ w.heap.size)
    (ho : o.op = .call { callee := .builtin .append, args := #[s, x], argTypes := #[30, 30] }) (hs : a.eval s = v) (hx : a.eval x = .slice ad n c)
    (h : ∀ v' w', OwnP w' base v' (xs ++ ys) → w.grownBy w' v.ownBlock → (v'.ownBlock = v.ownBlock ∨ v'.ownBlock = some w.heap.size) → K (a.put o.dst v') w') : if Region.wanted o y = true then Oper.wp Tryz.prog o a w K Q else K (a.put o.dst undef) w := by
  have hn := hn.out; subst hn
  rw [if_pos hw]
  obtain ⟨v', w', hr, h2, h3, h4⟩ := run_appendPat hown (c := c) hy hlen hbase o.type
  exact Lib.wp_append_run w s x 30 30 ho _ _ hs hx v' w' hr (h v' w' h2 h3 h4)
/-- a leaf grows at its end -/
theorem app_put {W0 W : World} {base g cap j N : Nat} {v0 : Value} {cs0 cs : List Sl} {L : LL} {p : Pid} (h : LLs W base (.slice (some ⟨g, 0, none⟩) N cap) cs L) (hN : L.length = N) (hj : j < N) (hk : Keeps W0 v0 cs0 W (.slice (some ⟨g, 0, none⟩) N cap) cs) :
    ∃ a m c y, L[j]? = some y ∧ y.length = m ∧ W.cell? ⟨g, j, none⟩ = some (.slice a m c) ∧ OwnP W base (.slice a m c) y ∧ g < W.heap.size ∧
      ∀ W7, Below W.heap.size W W7 → ∀ v8 w8, OwnP w8 base v8 (y ++ [p]) → W7.grownBy w8 (Value.slice a m c).ownBlock → (v8.ownBlock = (Value.slice a m c).ownBlock ∨ v8.ownBlock = some W7.heap.size) →
        ∃ a8 n8 c8 cs', v8 = .slice a8 n8 c8 ∧ w8.cell? ⟨g, j, none⟩ = some (.slice a m c) ∧ w8.frozen? ⟨g, j, none⟩ = false ∧ LLs (w8.setCell ⟨g, j, none⟩ (.slice a8 n8 c8)) base (.slice (some ⟨g, 0, none⟩) N cap) cs' (L.set j (y ++ [p])) ∧ Keeps W0 v0 cs0 (w8.setCell ⟨g, j, none⟩ (.slice a8 n8 c8)) (.slice (some ⟨g, 0, none⟩) N cap) cs' ∧
          ∀ q : Addr, q.block < W.heap.size → ¬ inLL (.slice (some ⟨g, 0, none⟩) N cap) cs q.block → w8.cell? q = W.cell? q ∧ (w8.setCell ⟨g, j, none⟩ (.slice a8 n8 c8)).cell? q = W.cell? q := by
  subst hN
  obtain ⟨g', cap', s, e0, hcap, hbg, hgw, hcs, hcell, hfr, hown, hsg⟩ := h.get hj
  cases e0
  obtain ⟨a, c, he, he2, hrow, hlc, hblk⟩ := hown.sl
  rw [he] at hcell
  refine ⟨a, L[j].length, c, L[j], List.getElem?_eq_getElem hj, rfl, hcell, by rw [← he]; exact hown, hgw, ?_⟩
  intro W7 hb7 v8 w8 hown8 hg8 hat8
  obtain ⟨a8, c8, e8, e8s, -, -, hblk8⟩ := hown8.sl
  have hsb : ∀ b, (Value.slice a L[j].length c).ownBlock = some b → blkS s = some b := fun b e => by rw [← own_encS, he]; exact e
  have hm78 := grown_mutS hg8
  have hm8 : Mut (fun b => blkS s = some b) W w8 := (Mut.of_below hb7).trans (by
    refine ⟨hm78.os, hm78.tape, hm78.output, hm78.size, fun k hk hf => hm78.block k hk fun e => hf (hsb k e)⟩)
  have hsm : s ∈ cs := List.mem_of_getElem? hcs
  have hput := h.put (s' := (a8, (L[j] ++ [p]).length, c8)) (l' := L[j] ++ [p]) hj hcs hm8 (by rw [← e8s]; exact hown8) (fun q hq => by
    have hq : v8.ownBlock = some q := by rw [← hq, e8]; exact own_encS (a8, (L[j] ++ [p]).length, c8)
    rcases hat8 with e | e
    · exact .inl (hsb q (by rw [← e]; exact hq))
    · rw [hq] at e; cases e; exact .inr hb7.size)
  have hkk : Keeps W (.slice (some ⟨g, 0, none⟩) L.length cap) cs (w8.setCell ⟨g, j, none⟩ (.slice a8 (L[j] ++ [p]).length c8)) (.slice (some ⟨g, 0, none⟩) L.length cap) (cs.set j (a8, (L[j] ++ [p]).length, c8)) := by
    refine ⟨(hm8.mono fun b _ e => .inr ⟨s, hsm, e⟩).trans (mut1.mono fun b _ e => .inl (by have e : b = g := e; rw [e]; rfl)), ?_⟩
    rintro b (hb | ⟨s', hs', hb⟩)
    · exact .inl (.inl hb)
    · rcases List.mem_or_eq_of_mem_set hs' with hs' | rfl
      · exact .inl (.inr ⟨s', hs', hb⟩)
      · have hq : v8.ownBlock = some b := by rw [← hb, e8]; exact own_encS (a8, (L[j] ++ [p]).length, c8)
        rcases hat8 with e | e
        · exact .inl (.inr ⟨s, hsm, hsb b (by rw [← e]; exact hq)⟩)
        · rw [hq] at e; cases e; exact .inr hb7.size
  have hsg' : ¬ blkS s = some g := hsg
  refine ⟨a8, (L[j] ++ [p]).length, c8, _, e8, (hm8.cell (p := ⟨g, j, none⟩) hgw hsg').trans hcell, (hm8.frozen (p := ⟨g, j, none⟩) hgw hsg').trans hfr, hput, hk.trans hkk, ?_⟩
  intro q hq hn
  exact ⟨hm8.cell hq fun e => hn (.inr ⟨s, hsm, e⟩), hkk.mt.cell hq hn⟩
end Go.Proofs.YtppapeoainafbaaGreatDoor

namespace Go.Proofs.YtppapeoainafbaaGreatDoor
open Go.RowKit
/-! ### a view under construction, behind a pointer -/
theorem off1t {w : World} {b q j : Nat} {x : Value} (hc : j ≠ q) : (w.setCell ⟨b, q, none⟩ x).cell? ⟨b, j, none⟩ = w.cell? ⟨b, j, none⟩ :=
  World.cell?_setCell_other _ _ _ _ (by intro e; injection e with e1 e2; exact hc e2.symm)
theorem BoxV.set1 {w : World} {b : Nat} {v0 v1 v2 v3 : Value} (h : BoxV w b v0 v1 v2 v3) (u : Value) : BoxV (w.setCell ⟨b, 1, none⟩ u) b v0 u v2 v3 :=
  ⟨by rw [off1t (by omega)]; exact h.c0, World.cell?_setCell_same _ _ _ h.c1, by rw [off1t (by omega)]; exact h.c2, by rw [off1t (by omega)]; exact h.c3, by simp [h.f0], by simp [h.f1], by simp [h.f2], by simp [h.f3]⟩
structure VSt (w : World) (s : Nat) (V : View) (vm vl vd : Value) (cs : List Sl) : Prop where
  box : BoxV w s (.int .u64 V.id) vm vl vd
  ms : OwnP w (s + 1) vm V.ms
  ls : LLs w (s + 1) vl cs V.ls
  ds : OwnP w (s + 1) vd V.ds
  a1 : ∀ g, vm.ownBlock = some g → ¬ inLL vl cs g ∧ vd.ownBlock ≠ some g
  a2 : ∀ g, vd.ownBlock = some g → ¬ inLL vl cs g
theorem VSt.lt {w : World} {s : Nat} {V : View} {vm vl vd : Value} {cs : List Sl} (h : VSt w s V vm vl vd cs) : s < w.heap.size := h.box.lt
theorem VSt.ext {w w' : World} {s : Nat} {V : View} {vm vl vd : Value} {cs : List Sl} (h : VSt w s V vm vl vd cs) (hb : Below w.heap.size w w') : VSt w' s V vm vl vd cs :=
  ⟨h.box.ext hb, h.ms.ext hb, h.ls.ext hb, h.ds.ext hb, h.a1, h.a2⟩
theorem VSt.made (w : World) (t : TypeId) (n : Nat) : VSt (w.alloc (.cells #[.int .u64 n, .slice none 0 0, .slice none 0 0, .slice none 0 0] t)) w.heap.size ⟨(n : Int), [], [], []⟩ (.slice none 0 0) (.slice none 0 0) (.slice none 0 0) [] :=
  ⟨BoxV.made w t _ _ _ _, OwnP.nil _ _, LLs.nil _ _, OwnP.nil _ _, fun g h => (by cases h), fun g h => (by cases h)⟩
/-- the parsed process, in a box of its own -/
structure Hold (w : World) (s B : Nat) (x y : Int) (vm vl vd : Value) (cs : List Sl) : Prop where
  c0 : w.cell? ⟨B, 0, none⟩ = some (.int .u16 x)
  c1 : w.cell? ⟨B, 1, none⟩ = some (.int .u32 y)
  ns : s < B
  nl : ¬ inLL vl cs B
  nm : vm.ownBlock ≠ some B
  nd : vd.ownBlock ≠ some B
theorem Hold.lt {w : World} {s B : Nat} {x y : Int} {vm vl vd : Value} {cs : List Sl} (h : Hold w s B x y vm vl vd cs) : B < w.heap.size := World.block_lt_of_cell? w _ h.c0
theorem Hold.ext {w w' : World} {s B : Nat} {x y : Int} {vm vl vd : Value} {cs : List Sl} (h : Hold w s B x y vm vl vd cs) (hb : Below w.heap.size w w') : Hold w' s B x y vm vl vd cs :=
  ⟨(hb.cell (by exact h.lt)).trans h.c0, (hb.cell (by exact h.lt)).trans h.c1, h.ns, h.nl, h.nm, h.nd⟩
/-- a box that is laid behind the view -/
theorem VSt.hold {w w' : World} {s : Nat} {x y : Int} {V : View} {vm vl vd : Value} {cs : List Sl} (h : VSt w s V vm vl vd cs) {B : Nat} (hB : w.heap.size ≤ B) (c0 : w'.cell? ⟨B, 0, none⟩ = some (.int .u16 x)) (c1 : w'.cell? ⟨B, 1, none⟩ = some (.int .u32 y)) : Hold w' s B x y vm vl vd cs :=
  ⟨c0, c1, by have := h.lt; omega, fun e => by have := (h.ls.inB e).2; omega, fun e => by have := (h.ms.blk e).2; omega, fun e => by have := (h.ds.blk e).2; omega⟩
theorem below_of {G : Nat → Prop} {s : Nat} {w w' : World} (hm : Mut G w w') (hG : ∀ k, G k → s ≤ k) (hs : s ≤ w.heap.size) : Below s w w' :=
  ⟨hm.os, hm.tape, hm.output, hm.size, fun k hk => hm.block k (by omega) fun e => by have := hG k e; omega⟩
section
variable {w w7 w8 : World} {s B : Nat} {x y : Int} {V : View} {vm vl vd v8 : Value} {cs : List Sl} {p : Pid}
theorem mut_grownV {v : Value} (hb : Below w.heap.size w w7) (hg : w7.grownBy w8 v.ownBlock) : Mut (fun b => v.ownBlock = some b) w w8 :=
  (Mut.of_below hb).trans (grown_mutS hg) |> fun h => h
theorem VSt.growM (h : VSt w s V vm vl vd cs) (hb : Below w.heap.size w w7) (hown : OwnP w8 (s + 1) v8 (V.ms ++ [p])) (hg : w7.grownBy w8 vm.ownBlock) (hat : v8.ownBlock = vm.ownBlock ∨ v8.ownBlock = some w7.heap.size) :
    VSt (w8.setCell ⟨s, 1, none⟩ v8) s ⟨V.id, V.ms ++ [p], V.ls, V.ds⟩ v8 vl vd cs ∧ Below s w (w8.setCell ⟨s, 1, none⟩ v8) := by
  have hsz := hb.size
  have hlt := h.lt
  have m : Mut (fun b => vm.ownBlock = some b) w w8 := mut_grownV hb hg
  have m2 : Mut (fun k => k = s) w8 (w8.setCell ⟨s, 1, none⟩ v8) := mut1
  have hs : vm.ownBlock ≠ some s := fun e => by have := (h.ms.blk e).1; omega
  have hf : ∀ g, v8.ownBlock = some g → vm.ownBlock = some g ∨ w.heap.size ≤ g := fun g e => by
    rcases hat with e2 | e2
    · exact .inl (by rw [← e2]; exact e)
    · rw [e] at e2; cases e2; exact .inr hsz
  refine ⟨⟨(h.box.mutT m hs).set1 v8, hown.mutN m2 fun g e1 e2 => ?_, (h.ls.mutN m (fun g e1 e2 => (h.a1 g e2).1 (.inl e1)) fun u hu g e1 e2 => (h.a1 g e2).1 (.inr ⟨u, hu, e1⟩)).mutT m2 fun k e => ?_, (h.ds.mutN m fun g e1 e2 => (h.a1 g e2).2 e1).mutN m2 fun g e1 e2 => ?_, fun g e => ?_, h.a2⟩, ?_⟩
  · have := (hown.blk e1).1; have e2 : g = s := e2; omega
  · have e : k = s := e; omega
  · have := (h.ds.blk e1).1; have e2 : g = s := e2; omega
  · rcases hf g e with e | e
    · exact h.a1 g e
    · exact ⟨fun e2 => by have := (h.ls.inB e2).2; omega, fun e2 => by have := (h.ds.blk e2).2; omega⟩
  · exact below_of (G := fun k => vm.ownBlock = some k ∨ k = s) ((m.mono fun k _ e => .inl e).trans (m2.mono fun k _ e => .inr e)) (fun k e => by
      rcases e with e | e
      · have := (h.ms.blk e).1; omega
      · omega) (by omega)
theorem Hold.growM (k : Hold w s B x y vm vl vd cs) (hb : Below w.heap.size w w7) (hg : w7.grownBy w8 vm.ownBlock) (hat : v8.ownBlock = vm.ownBlock ∨ v8.ownBlock = some w7.heap.size) :
    (w8.cell? ⟨B, 0, none⟩ = some (.int .u16 x) ∧ w8.cell? ⟨B, 1, none⟩ = some (.int .u32 y)) ∧ Hold (w8.setCell ⟨s, 1, none⟩ v8) s B x y v8 vl vd cs := by
  have hlt := k.lt
  have hsz := hb.size
  have m : Mut (fun b => vm.ownBlock = some b) w w8 := mut_grownV hb hg
  have m2 : Mut (fun k => k = s) w8 (w8.setCell ⟨s, 1, none⟩ v8) := mut1
  have d0 := (m.cell (p := ⟨B, 0, none⟩) hlt k.nm).trans k.c0
  have d1 := (m.cell (p := ⟨B, 1, none⟩) hlt k.nm).trans k.c1
  have hl8 := World.block_lt_of_cell? w8 _ d0
  have hne : ¬ B = s := by have := k.ns; omega
  refine ⟨⟨d0, d1⟩, (m2.cell (p := ⟨B, 0, none⟩) hl8 hne).trans d0, (m2.cell (p := ⟨B, 1, none⟩) hl8 hne).trans d1, k.ns, k.nl, fun e => ?_, k.nd⟩
  rcases hat with e2 | e2
  · exact k.nm (by rw [← e2]; exact e)
  · rw [e] at e2; cases e2; omega
theorem VSt.growD (h : VSt w s V vm vl vd cs) (hb : Below w.heap.size w w7) (hown : OwnP w8 (s + 1) v8 (V.ds ++ [p])) (hg : w7.grownBy w8 vd.ownBlock) (hat : v8.ownBlock = vd.ownBlock ∨ v8.ownBlock = some w7.heap.size) :
    VSt (w8.setCell ⟨s, 3, none⟩ v8) s ⟨V.id, V.ms, V.ls, V.ds ++ [p]⟩ vm vl v8 cs ∧ Below s w (w8.setCell ⟨s, 3, none⟩ v8) := by
  have hsz := hb.size
  have hlt := h.lt
  have m : Mut (fun b => vd.ownBlock = some b) w w8 := mut_grownV hb hg
  have m2 : Mut (fun k => k = s) w8 (w8.setCell ⟨s, 3, none⟩ v8) := mut1
  have hs : vd.ownBlock ≠ some s := fun e => by have := (h.ds.blk e).1; omega
  have hf : ∀ g, v8.ownBlock = some g → vd.ownBlock = some g ∨ w.heap.size ≤ g := fun g e => by
    rcases hat with e2 | e2
    · exact .inl (by rw [← e2]; exact e)
    · rw [e] at e2; cases e2; exact .inr hsz
  refine ⟨⟨(h.box.mutT m hs).set3 v8, (h.ms.mutN m fun g e1 e2 => (h.a1 g e1).2 e2).mutN m2 fun g e1 e2 => ?_, (h.ls.mutN m (fun g e1 e2 => h.a2 g e2 (.inl e1)) fun u hu g e1 e2 => h.a2 g e2 (.inr ⟨u, hu, e1⟩)).mutT m2 fun k e => ?_, hown.mutN m2 fun g e1 e2 => ?_, fun g e => ⟨(h.a1 g e).1, fun e2 => ?_⟩, fun g e => ?_⟩, ?_⟩
  · have := (h.ms.blk e1).1; have e2 : g = s := e2; omega
  · have e : k = s := e; omega
  · have := (hown.blk e1).1; have e2 : g = s := e2; omega
  · rcases hf g e2 with e2 | e2
    · exact (h.a1 g e).2 e2
    · have := (h.ms.blk e).2; omega
  · rcases hf g e with e | e
    · exact h.a2 g e
    · exact fun e2 => by have := (h.ls.inB e2).2; omega
  · exact below_of (G := fun k => vd.ownBlock = some k ∨ k = s) ((m.mono fun k _ e => .inl e).trans (m2.mono fun k _ e => .inr e)) (fun k e => by
      rcases e with e | e
      · have := (h.ds.blk e).1; omega
      · omega) (by omega)
theorem Hold.growD (k : Hold w s B x y vm vl vd cs) (hb : Below w.heap.size w w7) (hg : w7.grownBy w8 vd.ownBlock) (hat : v8.ownBlock = vd.ownBlock ∨ v8.ownBlock = some w7.heap.size) :
    (w8.cell? ⟨B, 0, none⟩ = some (.int .u16 x) ∧ w8.cell? ⟨B, 1, none⟩ = some (.int .u32 y)) ∧ Hold (w8.setCell ⟨s, 3, none⟩ v8) s B x y vm vl v8 cs := by
  have hlt := k.lt
  have hsz := hb.size
  have m : Mut (fun b => vd.ownBlock = some b) w w8 := mut_grownV hb hg
  have m2 : Mut (fun k => k = s) w8 (w8.setCell ⟨s, 3, none⟩ v8) := mut1
  have d0 := (m.cell (p := ⟨B, 0, none⟩) hlt k.nd).trans k.c0
  have d1 := (m.cell (p := ⟨B, 1, none⟩) hlt k.nd).trans k.c1
  have hl8 := World.block_lt_of_cell? w8 _ d0
  have hne : ¬ B = s := by have := k.ns; omega
  refine ⟨⟨d0, d1⟩, (m2.cell (p := ⟨B, 0, none⟩) hl8 hne).trans d0, (m2.cell (p := ⟨B, 1, none⟩) hl8 hne).trans d1, k.ns, k.nl, k.nm, fun e => ?_⟩
  rcases hat with e2 | e2
  · exact k.nd (by rw [← e2]; exact e)
  · rw [e] at e2; cases e2; omega
theorem VSt.growL (h : VSt w s V vm vl vd cs) (hb : Below w.heap.size w w7) (hown : LLs w8 (s + 1) v8 (cs ++ [(none, 0, 0)]) (V.ls ++ [[]])) (hg : w7.grownBy w8 vl.ownBlock) (hat : v8.ownBlock = vl.ownBlock ∨ v8.ownBlock = some w7.heap.size) :
    VSt (w8.setCell ⟨s, 2, none⟩ v8) s ⟨V.id, V.ms, V.ls ++ [[]], V.ds⟩ vm v8 vd (cs ++ [(none, 0, 0)]) ∧ Below s w (w8.setCell ⟨s, 2, none⟩ v8) := by
  have hsz := hb.size
  have hlt := h.lt
  have m : Mut (fun b => vl.ownBlock = some b) w w8 := mut_grownV hb hg
  have m2 : Mut (fun k => k = s) w8 (w8.setCell ⟨s, 2, none⟩ v8) := mut1
  have hs : vl.ownBlock ≠ some s := fun e => by have := (h.ls.inB (.inl e)).1; omega
  have hf : ∀ g, inLL v8 (cs ++ [(none, 0, 0)]) g → inLL vl cs g ∨ w.heap.size ≤ g := fun g e => by
    rcases e with e | ⟨u, hu, e⟩
    · rcases hat with e2 | e2
      · exact .inl (.inl (by rw [← e2]; exact e))
      · rw [e] at e2; cases e2; exact .inr hsz
    · rcases List.mem_append.1 hu with hu | hu
      · exact .inl (.inr ⟨u, hu, e⟩)
      · rw [List.mem_singleton.1 hu] at e; simp [blkS] at e
  refine ⟨⟨(h.box.mutT m hs).set2 v8, (h.ms.mutN m fun g e1 e2 => (h.a1 g e1).1 (.inl e2)).mutN m2 fun g e1 e2 => ?_, hown.mutT m2 fun k e => ?_, (h.ds.mutN m fun g e1 e2 => h.a2 g e1 (.inl e2)).mutN m2 fun g e1 e2 => ?_, fun g e => ⟨fun e2 => ?_, (h.a1 g e).2⟩, fun g e e2 => ?_⟩, ?_⟩
  · have := (h.ms.blk e1).1; have e2 : g = s := e2; omega
  · have e : k = s := e; omega
  · have := (h.ds.blk e1).1; have e2 : g = s := e2; omega
  · rcases hf g e2 with e2 | e2
    · exact (h.a1 g e).1 e2
    · have := (h.ms.blk e).2; omega
  · rcases hf g e2 with e2 | e2
    · exact h.a2 g e e2
    · have := (h.ds.blk e).2; omega
  · exact below_of (G := fun k => vl.ownBlock = some k ∨ k = s) ((m.mono fun k _ e => .inl e).trans (m2.mono fun k _ e => .inr e)) (fun k e => by
      rcases e with e | e
      · have := (h.ls.inB (.inl e)).1; omega
      · omega) (by omega)
theorem Hold.growL (k : Hold w s B x y vm vl vd cs) (hb : Below w.heap.size w w7) (hg : w7.grownBy w8 vl.ownBlock) (hat : v8.ownBlock = vl.ownBlock ∨ v8.ownBlock = some w7.heap.size) :
    Hold (w8.setCell ⟨s, 2, none⟩ v8) s B x y vm v8 vd (cs ++ [(none, 0, 0)]) := by
  have hlt := k.lt
  have hsz := hb.size
  have m : Mut (fun b => vl.ownBlock = some b) w w8 := mut_grownV hb hg
  have m2 : Mut (fun k => k = s) w8 (w8.setCell ⟨s, 2, none⟩ v8) := mut1
  have hnl : vl.ownBlock ≠ some B := fun e => k.nl (.inl e)
  have d0 := (m.cell (p := ⟨B, 0, none⟩) hlt hnl).trans k.c0
  have d1 := (m.cell (p := ⟨B, 1, none⟩) hlt hnl).trans k.c1
  have hl8 := World.block_lt_of_cell? w8 _ d0
  have hne : ¬ B = s := by have := k.ns; omega
  refine ⟨(m2.cell (p := ⟨B, 0, none⟩) hl8 hne).trans d0, (m2.cell (p := ⟨B, 1, none⟩) hl8 hne).trans d1, k.ns, fun e => ?_, k.nm, k.nd⟩
  rcases e with e | ⟨u, hu, e⟩
  · rcases hat with e2 | e2
    · exact k.nl (.inl (by rw [← e2]; exact e))
    · rw [e] at e2; cases e2; omega
  · rcases List.mem_append.1 hu with hu | hu
    · exact k.nl (.inr ⟨u, hu, e⟩)
    · rw [List.mem_singleton.1 hu] at e; simp [blkS] at e
/-- a leaf has been put -/
theorem VSt.keep {w9 : World} {cs' : List Sl} {L' : LL} (h : VSt w s V vm vl vd cs) (hl : LLs w9 (s + 1) vl cs' L') (hk : Keeps w vl cs w9 vl cs') :
    VSt w9 s ⟨V.id, V.ms, L', V.ds⟩ vm vl vd cs' ∧ Below s w w9 := by
  have hlt := h.lt
  have m := hk.mt
  have hs : ¬ inLL vl cs s := fun e => by have := (h.ls.inB e).1; omega
  refine ⟨⟨h.box.mutT m hs, h.ms.mutN m fun g e1 e2 => (h.a1 g e1).1 e2, hl, h.ds.mutN m fun g e1 e2 => h.a2 g e1 e2, fun g e => ⟨fun e2 => ?_, (h.a1 g e).2⟩, fun g e e2 => ?_⟩, below_of m (fun k e => by have := (h.ls.inB e).1; omega) (by omega)⟩
  · rcases hk.blk g e2 with e2 | e2
    · exact (h.a1 g e).1 e2
    · have := (h.ms.blk e).2; omega
  · rcases hk.blk g e2 with e2 | e2
    · exact h.a2 g e e2
    · have := (h.ds.blk e).2; omega
theorem Hold.keep {w9 : World} {cs' : List Sl} (k : Hold w s B x y vm vl vd cs) (hk : Keeps w vl cs w9 vl cs') : Hold w9 s B x y vm vl vd cs' := by
  have hlt := k.lt
  refine ⟨(hk.mt.cell (p := ⟨B, 0, none⟩) hlt k.nl).trans k.c0, (hk.mt.cell (p := ⟨B, 1, none⟩) hlt k.nl).trans k.c1, k.ns, fun e => ?_, k.nm, k.nd⟩
  rcases hk.blk B e with e | e
  · exact k.nl e
  · omega
end
/-! the leaves that lack -/
def pad (n : Nat) (ls : LL) : LL := ls ++ List.replicate n []
theorem putK_pad (p : Pid) : ∀ (k : Nat) (ls : LL), putK p k ls = (pad (k + 1 - ls.length) ls).set k (((pad (k + 1 - ls.length) ls)[k]?).getD [] ++ [p])
  | 0, [] => rfl
  | 0, l :: r => by simp [putK, pad]
  | k + 1, [] => by
    have := putK_pad p k []
    simp only [pad, List.nil_append, List.length_nil, Nat.sub_zero] at this ⊢
    rw [putK, this, List.replicate_succ (n := k + 1)]
    simp
  | k + 1, l :: r => by
    have := putK_pad p k r
    rw [putK, this]
    have e : k + 1 + 1 - (l :: r).length = k + 1 - r.length := by simp
    rw [e]
    simp [pad]
end Go.Proofs.YtppapeoainafbaaGreatDoor

