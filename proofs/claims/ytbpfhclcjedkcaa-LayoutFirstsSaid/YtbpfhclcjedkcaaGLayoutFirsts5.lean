/- Parts of the proof: X9 X10 X11 X12 X13 X14 X16 X18 X26 X27 X32 X34 X35 X50 X91 X97 X112 X92 X93 ShelfD X94 X95 X96. -/
import Derived.Defers
import Derived.Deep.DeepCutAuto
import Derived.Shelf.SlicesE.Delete
import Derived.Test.YtbpfhclcjedkcaaX24
namespace Go.Proofs.Ytbpfhclcjedkcaa
open Go.RowKit
theorem ByteRow.nilA {w : World} {bs : List Nat} (h : ByteRow w none bs) : bs = [] := by
  rcases h with h | ⟨b, off, h, _⟩
  · exact h
  · cases h
theorem OwnB.cap {w : World} {base : Nat} {v : Value} {bs : List Nat} (h : OwnB w base v bs) : ∀ a n c, v = .slice a n c → bs.length ≤ c := by
  intro a n c e
  rcases h.2 with ⟨rfl, hn⟩ | ⟨g, cap, cur, rfl, hb, hg, hnc, _⟩
  · cases e; omega
  · cases e; exact hnc
/-- the writer behind a pointer -/
structure WrIs (w : World) (s : Nat) (v : Value) (bs : List Nat) : Prop where
  c : w.cell? ⟨s, 0, none⟩ = some v
  f : w.frozen? ⟨s, 0, none⟩ = false
  own : OwnB w (s + 1) v bs
theorem WrIs.lt {w : World} {s : Nat} {v : Value} {bs : List Nat} (h : WrIs w s v bs) : s < w.heap.size := World.block_lt_of_cell? w _ h.c
theorem WrIs.ext {w w' : World} {s : Nat} {v : Value} {bs : List Nat} (h : WrIs w s v bs) (hb : Below w.heap.size w w') : WrIs w' s v bs :=
  ⟨cell_toB h.c hb, (hb.frozen (by exact h.lt)).trans h.f, h.own.ext hb⟩
theorem WrIs.alloc {w : World} {s : Nat} {v : Value} {bs : List Nat} (h : WrIs w s v bs) (o : Obj) : WrIs (w.alloc o) s v bs := h.ext ((Below.refl _ _).alloc (Nat.le_refl _) _)
theorem WrIs.made (w : World) (t : TypeId) : WrIs (w.alloc (.cells #[.slice none 0 0] t)) w.heap.size (.slice none 0 0) [] := ⟨by simp, by simp, OwnB.nil _ _⟩
/-- what a call of the writer leaves -/
structure Wrote (w w' : World) (s : Nat) (v' : Value) (bs : List Nat) : Prop where
  wr : WrIs w' s v' bs
  own : OwnB w' w.heap.size v' bs
  mt : Mut (fun k => k = s) w w'
theorem ByteRow.mutT {G : Nat → Prop} {w w' : World} {a : Option Addr} {bs : List Nat} (h : ByteRow w a bs) (hm : Mut G w w') (hne : ∀ b off, a = some ⟨b, off, none⟩ → bs ≠ [] → ¬ G b) : ByteRow w' a bs := by
  rcases h with rfl | ⟨b, off, rfl, hlt, hc⟩
  · exact .inl rfl
  · by_cases hl : bs = []
    · exact .inl hl
    · have hb := hm.block b hlt (hne b off rfl hl)
      exact .inr ⟨b, off, rfl, by have := hm.size; omega, fun i hi => (World.cell?_of_block (w := w) hb).trans (hc i hi)⟩
end Go.Proofs.Ytbpfhclcjedkcaa

namespace Go.Proofs.Ytbpfhclcjedkcaa
open Go.RowKit
theorem PidRow.mutT {G : Nat → Prop} {w w' : World} {a : Option Addr} {l : List Pid} (h : PidRow w a l) (hm : Mut G w w') (hne : ∀ b off, a = some ⟨b, off, none⟩ → l ≠ [] → ¬ G b) : PidRow w' a l := by
  rcases h with rfl | ⟨b, off, rfl, hlt, hc⟩
  · exact .inl rfl
  · by_cases hl : l = []
    · exact .inl hl
    · have hb := hm.block b hlt (hne b off rfl hl)
      exact .inr ⟨b, off, rfl, by have := hm.size; omega, fun i hi => ⟨(World.cell?_of_block (w := w) hb).trans (hc i hi).1, (World.cell?_of_block (w := w) hb).trans (hc i hi).2⟩⟩
theorem Wrote.trans {w w1 w1' w2 : World} {s : Nat} {v1 v2 : Value} {b1 b2 : List Nat} (h : Wrote w w1 s v1 b1) (hb : Below w1.heap.size w1 w1') (h2 : Wrote w1' w2 s v2 b2) : Wrote w w2 s v2 b2 :=
  ⟨h2.wr, h2.own.mono (Nat.le_trans h.mt.size hb.size), (h.mt.trans (Mut.of_below hb)).trans h2.mt⟩
/-! ### the reference's forms -/
end Go.Proofs.Ytbpfhclcjedkcaa

namespace Go.Proofs.Ytbpfhclcjedkcaa
open Go.RowKit
/-- the reader behind a pointer -/
structure RdIs (w : World) (s : Nat) (a : Option Addr) (c : Nat) (S : RS) : Prop where
  c0 : w.cell? ⟨s, 0, none⟩ = some (.slice a S.b.length c)
  c1 : w.cell? ⟨s, 1, none⟩ = some (.int .i64 S.e)
  f0 : w.frozen? ⟨s, 0, none⟩ = false
  f1 : w.frozen? ⟨s, 1, none⟩ = false
  row : ByteRow w a S.b
  far : ∀ b off, a = some ⟨b, off, none⟩ → S.b ≠ [] → b < s
  cap : S.b.length ≤ c
  byt : ∀ b ∈ S.b, b < 256
  len : S.b.length ≤ 70368744177664
theorem RdIs.lt {w : World} {s c : Nat} {a : Option Addr} {S : RS} (h : RdIs w s a c S) : s < w.heap.size := World.block_lt_of_cell? w _ h.c0
theorem RdIs.ext {w w' : World} {s c : Nat} {a : Option Addr} {S : RS} (h : RdIs w s a c S) (hb : Below w.heap.size w w') : RdIs w' s a c S :=
  ⟨cell_toB h.c0 hb, cell_toB h.c1 hb, (hb.frozen (by exact h.lt)).trans h.f0, (hb.frozen (by exact h.lt)).trans h.f1, h.row.ext hb, h.far, h.cap, h.byt, h.len⟩
theorem RdIs.alloc {w : World} {s c : Nat} {a : Option Addr} {S : RS} (h : RdIs w s a c S) (o : Obj) : RdIs (w.alloc o) s a c S := h.ext ((Below.refl _ _).alloc (Nat.le_refl _) _)
theorem ByteRow.setFar {w : World} {a : Option Addr} {bs : List Nat} {s i : Nat} {v : Value} (h : ByteRow w a bs) (hf : ∀ b off, a = some ⟨b, off, none⟩ → bs ≠ [] → b < s) : ByteRow (w.setCell ⟨s, i, none⟩ v) a bs := by
  rcases h with rfl | ⟨b, off, rfl, hlt, hc⟩
  · exact .inl rfl
  · by_cases hl : bs = []
    · exact .inl hl
    · have hb : b ≠ s := Nat.ne_of_lt (hf b off rfl hl)
      exact .inr ⟨b, off, rfl, by simpa using hlt, fun j hj => by rw [World.cell?_setCell_far _ _ _ _ (by exact fun e => hb e.symm)]; exact hc j hj⟩
/-- other bytes -/
theorem RdIs.put {w : World} {s c c' : Nat} {a a' : Option Addr} {S : RS} {b' : List Nat} (h : RdIs w s a c S) {n : Nat} (hn : n = b'.length) (hrow : ByteRow w a' b') (hfar : ∀ b off, a' = some ⟨b, off, none⟩ → b' ≠ [] → b < s) (hcap : b'.length ≤ c') (hby : ∀ b ∈ b', b < 256) (hlen : b'.length ≤ 70368744177664) : RdIs (w.setCell ⟨s, 0, none⟩ (.slice a' n c')) s a' c' ⟨b', S.e⟩ := by
  subst hn
  exact ⟨World.cell?_setCell_same _ _ _ h.c0, by rw [World.cell?_setCell_other _ _ _ _ (by simp)]; exact h.c1, by simp [h.f0], by simp [h.f1], hrow.setFar hfar, hfar, hcap, hby, hlen⟩
theorem mut1 {w : World} {s i : Nat} {v : Value} : Mut (fun k => k = s) w (w.setCell ⟨s, i, none⟩ v) :=
  ⟨rfl, rfl, rfl, by simp, fun k _ hf => Below.heap_setCell _ _ _ _ (by exact hf)⟩
end Go.Proofs.Ytbpfhclcjedkcaa

namespace Go.Proofs.Ytbpfhclcjedkcaa
open Go.RowKit
theorem RdIs.mutT {G : Nat → Prop} {w w' : World} {s c : Nat} {a : Option Addr} {S : RS} (h : RdIs w s a c S) (hm : Mut G w w') (hG : ∀ k, G k → s < k) : RdIs w' s a c S := by
  have hb := hm.block s h.lt (fun hs => by have := hG s hs; omega)
  refine ⟨(World.cell?_of_block (w := w) (a := ⟨s, 0, none⟩) hb).trans h.c0, (World.cell?_of_block (w := w) (a := ⟨s, 1, none⟩) hb).trans h.c1, (World.frozen?_of_block (w := w) (a := ⟨s, 0, none⟩) hb).trans h.f0, (World.frozen?_of_block (w := w) (a := ⟨s, 1, none⟩) hb).trans h.f1, ?_, h.far, h.cap, h.byt, h.len⟩
  exact h.row.mutT hm (fun b off e hne hg => by have := h.far b off e hne; have := hG b hg; omega)
theorem cell_mut {G : Nat → Prop} {w w' : World} {p : Addr} {v : Value} (h : w.cell? p = some v) (hm : Mut G w w') (hG : ¬ G p.block) : w'.cell? p = some v :=
  (hm.cell (World.block_lt_of_cell? w _ h) hG).trans h
end Go.Proofs.Ytbpfhclcjedkcaa

namespace Go.Proofs.Ytbpfhclcjedkcaa
open Go.RowKit
/-- the place of a result: one cell -/
structure Cell1 (w : World) (g : Nat) (v : Value) : Prop where
  c : w.cell? ⟨g, 0, none⟩ = some v
  f : w.frozen? ⟨g, 0, none⟩ = false
theorem Cell1.made (w : World) (t : TypeId) (v : Value) : Cell1 (w.alloc (.cells #[v] t)) w.heap.size v := ⟨by simp, by simp⟩
theorem Cell1.lt {w : World} {g : Nat} {v : Value} (h : Cell1 w g v) : g < w.heap.size := World.block_lt_of_cell? w _ h.c
theorem Cell1.ext {w w' : World} {g : Nat} {v : Value} (h : Cell1 w g v) (hb : Below w.heap.size w w') : Cell1 w' g v := ⟨cell_toB h.c hb, (hb.frozen (by exact h.lt)).trans h.f⟩
theorem Cell1.mutT {G : Nat → Prop} {w w' : World} {g : Nat} {v : Value} (h : Cell1 w g v) (hm : Mut G w w') (hG : ¬ G g) : Cell1 w' g v :=
  ⟨cell_mut h.c hm hG, (World.frozen?_of_block (w := w) (a := ⟨g, 0, none⟩) (hm.block g h.lt hG)).trans h.f⟩
end Go.Proofs.Ytbpfhclcjedkcaa

namespace Go.Proofs.Ytbpfhclcjedkcaa
open Go.RowKit
/-- a box of two cells -/
structure BoxP (w : World) (b : Nat) (v0 v1 : Value) : Prop where
  c0 : w.cell? ⟨b, 0, none⟩ = some v0
  c1 : w.cell? ⟨b, 1, none⟩ = some v1
  f0 : w.frozen? ⟨b, 0, none⟩ = false
  f1 : w.frozen? ⟨b, 1, none⟩ = false
theorem BoxP.lt {w : World} {b : Nat} {v0 v1 : Value} (h : BoxP w b v0 v1) : b < w.heap.size := World.block_lt_of_cell? w _ h.c0
theorem BoxP.ext {w w' : World} {b : Nat} {v0 v1 : Value} (h : BoxP w b v0 v1) (hb : Below w.heap.size w w') : BoxP w' b v0 v1 :=
  ⟨cell_toB h.c0 hb, cell_toB h.c1 hb, (hb.frozen (by exact h.lt)).trans h.f0, (hb.frozen (by exact h.lt)).trans h.f1⟩
theorem BoxP.made (w : World) (t : TypeId) (v0 v1 : Value) : BoxP (w.alloc (.cells #[v0, v1] t)) w.heap.size v0 v1 := ⟨by simp, by simp, by simp, by simp⟩
theorem BoxP.mutT {G : Nat → Prop} {w w' : World} {b : Nat} {v0 v1 : Value} (h : BoxP w b v0 v1) (hm : Mut G w w') (hG : ¬ G b) : BoxP w' b v0 v1 :=
  ⟨cell_mut h.c0 hm hG, cell_mut h.c1 hm hG, (World.frozen?_of_block (w := w) (a := ⟨b, 0, none⟩) (hm.block b h.lt hG)).trans h.f0, (World.frozen?_of_block (w := w) (a := ⟨b, 1, none⟩) (hm.block b h.lt hG)).trans h.f1⟩
theorem BoxP.put {w : World} {b : Nat} {v0 v1 : Value} (h : BoxP w b v0 v1) (x y : Value) : BoxP ((w.setCell ⟨b, 0, none⟩ x).setCell ⟨b, 1, none⟩ y) b x y := by
  refine ⟨?_, ?_, by simp [h.f0], by simp [h.f1]⟩
  · rw [World.cell?_setCell_other _ _ _ _ (by simp)]
    exact World.cell?_setCell_same _ _ _ h.c0
  · refine World.cell?_setCell_same _ _ _ (u := v1) ?_
    rw [World.cell?_setCell_other _ _ _ _ (by simp)]
    exact h.c1
end Go.Proofs.Ytbpfhclcjedkcaa

namespace Go.Proofs.Ytbpfhclcjedkcaa
open Go.RowKit
theorem OwnP.mutT {G : Nat → Prop} {w w' : World} {base : Nat} {v : Value} {xs : List Pid} (h : OwnP w base v xs) (hm : Mut G w w') (hG : ∀ k, G k → k < base) : OwnP w' base v xs := by
  refine ⟨h.1, ?_⟩
  rcases h.2 with hn | ⟨g, cap, cur, rfl, hbb, hgg, rest⟩
  · exact .inl hn
  · exact .inr ⟨g, cap, cur, rfl, hbb, (hm.block g (Array.getElem?_eq_some_iff.1 hgg).1 (fun hg => by have := hG g hg; omega)).trans hgg, rest⟩
theorem Mut.drew {G : Nat → Prop} {w0 w : World} (hm : Mut G w0 w) : Mut G w0 w.drew := hm.trans (Mut.of_below (Below.refl _ _).drew)
end Go.Proofs.Ytbpfhclcjedkcaa

namespace Go.Proofs.Ytbpfhclcjedkcaa
open Go.RowKit
theorem OwnP.mono2 {w : World} {b b' : Nat} {v : Value} {xs : List Pid} (h : OwnP w b v xs) (hb : b' ≤ b) : OwnP w b' v xs := by
  refine ⟨h.1, ?_⟩
  rcases h.2 with hn | ⟨g, cap, cur, rfl, hbb, rest⟩
  · exact .inl hn
  · exact .inr ⟨g, cap, cur, rfl, Nat.le_trans hb hbb, rest⟩
end Go.Proofs.Ytbpfhclcjedkcaa

namespace Go.Proofs.Ytbpfhclcjedkcaa
open Go.RowKit

/-! ### view.Put -/
/-- a row of an earlier world is no block of a later one -/
theorem PidRow.far {w : World} {a : Option Addr} {l : List Pid} (h : PidRow w a l) {s : Nat} (hs : w.heap.size ≤ s) : ∀ b off, a = some ⟨b, off, none⟩ → l ≠ [] → b ≠ s := by
  rintro b off rfl hl
  rcases h with rfl | ⟨b', off', e, hlt, -⟩
  · exact absurd rfl hl
  · cases e; omega
end Go.Proofs.Ytbpfhclcjedkcaa

namespace Go.Proofs.Ytbpfhclcjedkcaa
open Go.RowKit

/-! ### view.Put, where the view may be -/
theorem Wrote.step {w w1 w2 : World} {s : Nat} {v1 v2 : Value} {b1 b2 : List Nat} (h : Wrote w w1 s v1 b1) (h2 : Wrote w1 w2 s v2 b2) : Wrote w w2 s v2 b2 := h.trans (Below.refl _ _) h2
theorem Wrote.pre {w w1 w2 : World} {s : Nat} {v : Value} {bs : List Nat} (hb : Below w.heap.size w w1) (h : Wrote w1 w2 s v bs) : Wrote w w2 s v bs :=
  ⟨h.wr, h.own.mono hb.size, (Mut.of_below hb).trans h.mt⟩
/-- what the rest of view.Put leans on -/
structure PutS (w0 W : World) (s g1 g2 r b i : Nat) (V : View) (am al ad : Option Addr) (cm cl cd : Nat) : Prop where
  c1 : W.cell? ⟨g1, 0, none⟩ = some (.pointer (some ⟨s, 0, none⟩))
  c2 : W.cell? ⟨g2, 0, none⟩ = some (.map (some r))
  y0 : W.cell? ⟨b, 0, none⟩ = some (.int .u64 i)
  y1 : W.cell? ⟨b, 1, none⟩ = some (.slice am V.ms.length cm)
  y2 : W.cell? ⟨b, 2, none⟩ = some (.slice al V.ls.length cl)
  y3 : W.cell? ⟨b, 3, none⟩ = some (.slice ad V.ds.length cd)
  M : MapIs W r pidV eI (ranksL V.ms)
  n1 : g1 ≠ s
  n2 : g2 ≠ s
  nr : r ≠ s
  nb : b ≠ s
  b0 : Below w0.heap.size w0 W
  hs : w0.heap.size ≤ s
theorem PutS.mut {w0 W W' : World} {s g1 g2 r b i : Nat} {V : View} {am al ad : Option Addr} {cm cl cd : Nat} (h : PutS w0 W s g1 g2 r b i V am al ad cm cl cd) (hm : Mut (fun k => k = s) W W') : PutS w0 W' s g1 g2 r b i V am al ad cm cl cd :=
  ⟨cell_mut h.c1 hm h.n1, cell_mut h.c2 hm h.n2, cell_mut h.y0 hm h.nb, cell_mut h.y1 hm h.nb, cell_mut h.y2 hm h.nb, cell_mut h.y3 hm h.nb, h.M.same (hm.block r h.M.lt h.nr), h.n1, h.n2, h.nr, h.nb, h.b0.trans (hm.below h.b0.size (fun _k e => e ▸ h.hs)), h.hs⟩

end Go.Proofs.Ytbpfhclcjedkcaa

namespace Go.Proofs.Ytbpfhclcjedkcaa
open Go.RowKit

/-! ### lists of lists, each in a block of the call's own; boxes of four cells -/
theorem infoPs : (Try.prog.info? 30).map (fun i => (i.zero, i.size, i.bytes)) = some (some (.slice none 0 0), 1, 24) := by kernel_rfl
theorem OwnP.grownN {w w' : World} {base : Nat} {v : Value} {xs : List Pid} {row : Option Nat} (h : OwnP w base v xs) (hg : w.grownBy w' row) (hne : ∀ g, v.ownBlock = some g → row ≠ some g) : OwnP w' base v xs := by
  refine ⟨h.1, ?_⟩
  rcases h.2 with hn | ⟨g, cap, cur, rfl, hbb, hgg, rest⟩
  · exact .inl hn
  · exact .inr ⟨g, cap, cur, rfl, hbb, (hg.block g (Array.getElem?_eq_some_iff.1 hgg).1 (fun e => hne g rfl e.symm)).trans hgg, rest⟩
theorem OwnP.mutN {G : Nat → Prop} {w w' : World} {base : Nat} {v : Value} {xs : List Pid} (h : OwnP w base v xs) (hm : Mut G w w') (hG : ∀ g, v.ownBlock = some g → ¬ G g) : OwnP w' base v xs := by
  refine ⟨h.1, ?_⟩
  rcases h.2 with hn | ⟨g, cap, cur, rfl, hbb, hgg, rest⟩
  · exact .inl hn
  · exact .inr ⟨g, cap, cur, rfl, hbb, (hm.block g (Array.getElem?_eq_some_iff.1 hgg).1 (hG g rfl)).trans hgg, rest⟩
theorem OwnP.blk {w : World} {base : Nat} {v : Value} {xs : List Pid} (h : OwnP w base v xs) {g : Nat} (hg : v.ownBlock = some g) : base ≤ g ∧ g < w.heap.size := World.ownsRow.lt h g hg
def OwnLL (w : World) (base : Nat) (v : Value) (Ls : List (List Pid)) : Prop :=
  ∃ cells : List Value, w.ownsRow base 30 1 v Ls.length cells ∧ ∀ i (h : i < Ls.length), ∃ vi, cells[i]? = some vi ∧ OwnP w base vi Ls[i] ∧ ∀ g, vi.ownBlock = some g → v.ownBlock ≠ some g
theorem OwnLL.nil (w : World) (base : Nat) : OwnLL w base (.slice none 0 0) [] := ⟨[], World.ownsRow_nil _ _ _ _, fun i h => by simp at h⟩
theorem OwnLL.ext {w w' : World} {base : Nat} {v : Value} {Ls : List (List Pid)} (h : OwnLL w base v Ls) (hb : Below w.heap.size w w') : OwnLL w' base v Ls := by
  obtain ⟨cells, ho, he⟩ := h
  refine ⟨cells, ⟨ho.1, ?_⟩, fun i hi => ?_⟩
  · rcases ho.2 with hn | ⟨g, cap, cur, rfl, hbb, hgg, rest⟩
    · exact .inl hn
    · exact .inr ⟨g, cap, cur, rfl, hbb, (hb.block g (Array.getElem?_eq_some_iff.1 hgg).1).trans hgg, rest⟩
  · obtain ⟨vi, h1, h2, h3⟩ := he i hi
    exact ⟨vi, h1, h2.ext hb, h3⟩
theorem OwnLL.mutT {G : Nat → Prop} {w w' : World} {base : Nat} {v : Value} {Ls : List (List Pid)} (h : OwnLL w base v Ls) (hm : Mut G w w') (hG : ∀ k, G k → k < base) : OwnLL w' base v Ls := by
  obtain ⟨cells, ho, he⟩ := h
  refine ⟨cells, ⟨ho.1, ?_⟩, fun i hi => ?_⟩
  · rcases ho.2 with hn | ⟨g, cap, cur, rfl, hbb, hgg, rest⟩
    · exact .inl hn
    · exact .inr ⟨g, cap, cur, rfl, hbb, (hm.block g (Array.getElem?_eq_some_iff.1 hgg).1 (fun hg => by have := hG g hg; omega)).trans hgg, rest⟩
  · obtain ⟨vi, h1, h2, h3⟩ := he i hi
    exact ⟨vi, h1, h2.mutT hm hG, h3⟩
theorem OwnLL.mono {w : World} {b b' : Nat} {v : Value} {Ls : List (List Pid)} (h : OwnLL w b v Ls) (hb : b' ≤ b) : OwnLL w b' v Ls := by
  obtain ⟨cells, ho, he⟩ := h
  refine ⟨cells, ⟨ho.1, ?_⟩, fun i hi => ?_⟩
  · rcases ho.2 with hn | ⟨g, cap, cur, rfl, hbb, rest⟩
    · exact .inl hn
    · exact .inr ⟨g, cap, cur, rfl, by omega, rest⟩
  · obtain ⟨vi, h1, h2, h3⟩ := he i hi
    exact ⟨vi, h1, h2.mono2 hb, h3⟩
theorem OwnLL.row {w : World} {base : Nat} {v : Value} {Ls : List (List Pid)} (h : OwnLL w base v Ls) : ∃ a c, v = .slice a Ls.length c ∧ LeafRow w a Ls := by
  obtain ⟨cells, ho, he⟩ := h
  have hcells := fun g => World.ownsRow.cells (g := g) ho
  rcases ho.2 with ⟨rfl, hn⟩ | ⟨g, cap, cur, rfl, hb, hg, hnc, hcm, hcs, htake⟩
  · exact ⟨none, 0, by rw [hn], .inl (List.length_eq_zero_iff.1 hn)⟩
  · refine ⟨_, cap, rfl, .inr ⟨g, 0, rfl, (Array.getElem?_eq_some_iff.1 hg).1, fun i hi => ?_⟩⟩
    obtain ⟨vi, h1, h2, _⟩ := he i hi
    have := hcells g rfl i _ h1
    rw [addr_add] at this
    obtain ⟨ai, ci, e, hr, _⟩ := h2.row
    exact ⟨ai, ci, by rw [this, e], hr⟩
theorem OwnLL.blk {w : World} {base : Nat} {v : Value} {Ls : List (List Pid)} (h : OwnLL w base v Ls) {g : Nat} (hg : v.ownBlock = some g) : base ≤ g ∧ g < w.heap.size := by
  obtain ⟨cells, ho, _⟩ := h
  exact World.ownsRow.lt ho g hg
theorem off2t {w : World} {b q j : Nat} {x : Value} (hc : j ≠ q) : (w.setCell ⟨b, q, none⟩ x).cell? ⟨b, j, none⟩ = w.cell? ⟨b, j, none⟩ :=
  World.cell?_setCell_other _ _ _ _ (by intro e; injection e with e1 e2; exact hc e2.symm)
/-- a block of four cells that may be written -/
structure BoxV (w : World) (b : Nat) (v0 v1 v2 v3 : Value) : Prop where
  c0 : w.cell? ⟨b, 0, none⟩ = some v0
  c1 : w.cell? ⟨b, 1, none⟩ = some v1
  c2 : w.cell? ⟨b, 2, none⟩ = some v2
  c3 : w.cell? ⟨b, 3, none⟩ = some v3
  f0 : w.frozen? ⟨b, 0, none⟩ = false
  f1 : w.frozen? ⟨b, 1, none⟩ = false
  f2 : w.frozen? ⟨b, 2, none⟩ = false
  f3 : w.frozen? ⟨b, 3, none⟩ = false
section
variable {w w' : World} {b : Nat} {v0 v1 v2 v3 : Value}
theorem BoxV.lt (h : BoxV w b v0 v1 v2 v3) : b < w.heap.size := World.block_lt_of_cell? w _ h.c0
theorem BoxV.ext (h : BoxV w b v0 v1 v2 v3) (hb : Below w.heap.size w w') : BoxV w' b v0 v1 v2 v3 :=
  ⟨cell_toB h.c0 hb, cell_toB h.c1 hb, cell_toB h.c2 hb, cell_toB h.c3 hb, (hb.frozen (by exact h.lt)).trans h.f0, (hb.frozen (by exact h.lt)).trans h.f1, (hb.frozen (by exact h.lt)).trans h.f2, (hb.frozen (by exact h.lt)).trans h.f3⟩
theorem BoxV.made (w : World) (t : TypeId) (v0 v1 v2 v3 : Value) : BoxV (w.alloc (.cells #[v0, v1, v2, v3] t)) w.heap.size v0 v1 v2 v3 := ⟨by simp, by simp, by simp, by simp, by simp, by simp, by simp, by simp⟩
theorem BoxV.mutT {G : Nat → Prop} (h : BoxV w b v0 v1 v2 v3) (hm : Mut G w w') (hG : ¬ G b) : BoxV w' b v0 v1 v2 v3 := by
  have g : ∀ j, w'.frozen? ⟨b, j, none⟩ = w.frozen? ⟨b, j, none⟩ := fun j => World.frozen?_of_block (w := w) (a := ⟨b, j, none⟩) (hm.block b h.lt hG)
  exact ⟨cell_mut h.c0 hm hG, cell_mut h.c1 hm hG, cell_mut h.c2 hm hG, cell_mut h.c3 hm hG, (g 0).trans h.f0, (g 1).trans h.f1, (g 2).trans h.f2, (g 3).trans h.f3⟩
theorem BoxV.set2 (h : BoxV w b v0 v1 v2 v3) (u : Value) : BoxV (w.setCell ⟨b, 2, none⟩ u) b v0 v1 u v3 :=
  ⟨by rw [off2t (by omega)]; exact h.c0, by rw [off2t (by omega)]; exact h.c1, World.cell?_setCell_same _ _ _ h.c2, by rw [off2t (by omega)]; exact h.c3, by simp [h.f0], by simp [h.f1], by simp [h.f2], by simp [h.f3]⟩
theorem BoxV.set3 (h : BoxV w b v0 v1 v2 v3) (u : Value) : BoxV (w.setCell ⟨b, 3, none⟩ u) b v0 v1 v2 u :=
  ⟨by rw [off2t (by omega)]; exact h.c0, by rw [off2t (by omega)]; exact h.c1, by rw [off2t (by omega)]; exact h.c2, World.cell?_setCell_same _ _ _ h.c3, by simp [h.f0], by simp [h.f1], by simp [h.f2], by simp [h.f3]⟩
theorem BoxV.put (h : BoxV w b v0 v1 v2 v3) (u0 u1 u2 u3 : Value) : BoxV ((((w.setCell ⟨b, 0, none⟩ u0).setCell ⟨b, 1, none⟩ u1).setCell ⟨b, 2, none⟩ u2).setCell ⟨b, 3, none⟩ u3) b u0 u1 u2 u3 := by
  obtain ⟨c0, c1, c2, c3, f0, f1, f2, f3⟩ := h
  refine ⟨?_, ?_, ?_, ?_, by simp [f0], by simp [f1], by simp [f2], by simp [f3]⟩
  · rw [off2t (by omega), off2t (by omega), off2t (by omega)]; exact World.cell?_setCell_same _ _ _ c0
  · rw [off2t (by omega), off2t (by omega)]; exact World.cell?_setCell_same _ _ _ (by rw [off2t (by omega)]; exact c1)
  · rw [off2t (by omega)]; exact World.cell?_setCell_same _ _ _ (by rw [off2t (by omega), off2t (by omega)]; exact c2)
  · exact World.cell?_setCell_same _ _ _ (by rw [off2t (by omega), off2t (by omega), off2t (by omega)]; exact c3)
theorem mutV (w : World) (b : Nat) (u0 u1 u2 u3 : Value) : Mut (fun k => k = b) w ((((w.setCell ⟨b, 0, none⟩ u0).setCell ⟨b, 1, none⟩ u1).setCell ⟨b, 2, none⟩ u2).setCell ⟨b, 3, none⟩ u3) :=
  ((mut1.trans mut1).trans mut1).trans mut1
end
/-! ### lengths of what is read -/
end Go.Proofs.Ytbpfhclcjedkcaa

namespace Go.Proofs.Ytbpfhclcjedkcaa
open Go.RowKit

/-! ### slices.Clone -/
theorem PidRow.nilA {w : World} {xs : List Pid} (h : PidRow w none xs) : xs = [] := by
  rcases h with h | ⟨b, off, h, _⟩
  · exact h
  · cases h
set_option maxRecDepth 100000 in
set_option maxHeartbeats 800000 in
theorem clone_any {a : Option Addr} {c : Nat} {xs : List Pid} {w : World} (hn : xs.length ≤ 549755813888) (hrow : PidRow w a xs) :
   Calls Try.prog 80 #[.slice a xs.length c] w fun e w' => ∃ v, e = .returned v ∧ OwnP w' w.heap.size v xs ∧ Below w.heap.size w w' := by
  cases a with
  | none =>
    have hx := hrow.nilA
    subst hx
    have hnil : ∀ W, (binOp .eql 30 (.slice none 0 c) (.slice none 0 0)).run Try.prog W = .ok (.bool true) W := fun W => Lib.run_eql_slice_nil W 30 26 none 0 c 0 0 Try.underlying30
    go_enter Try.func80, Try.ntmps80
    go_wp2
    go_ret
    exact ⟨_, rfl, OwnP.nil _ _, Below.refl _ _⟩
  | some a =>
    have hnil : ∀ W, (binOp .eql 30 (.slice (some a) xs.length c) (.slice none 0 0)).run Try.prog W = .ok (.bool false) W := fun W => Lib.run_eql_slice_nil W 30 26 (some a) xs.length c 0 0 Try.underlying30
    have hown : OwnP (w.alloc (.cells #[] 26)) w.heap.size (.slice (some ⟨w.heap.size, 0, none⟩) 0 0) [] := World.ownsRow_made (w := w) #[] 0 (Nat.le_refl _) (by unfold maxLen; omega) (by simp)
    have hB : Below w.heap.size w (w.alloc (.cells #[] 26)) := (Below.refl _ _).alloc (Nat.le_refl _) _
    have hr1 := hrow.ext hB
    go_enter Try.func80, Try.ntmps80
    go_wp2_with (at_builtin; refine wpList_appendP hown hr1 ?cb ?cz rfl rfl rfl rfl ?_; rotate_right; intro v4 w4 hown4 hg4 hnil4)
    case cb => simp; omega
    case cz => simp
    go_ret
    exact ⟨v4, rfl, hown4, hB.grown hg4 hB.size (fun g hg => (World.ownsRow.lt hown g hg).1)⟩
theorem clone_is {a : Option Addr} {c n : Nat} {xs : List Pid} {w : World} (hn : Hid (xs.length = n)) (hl : n ≤ 549755813888) (hrow : PidRow w a xs) :
   Calls Try.prog 80 #[.slice a n c] w fun e w' => ∃ v, e = .returned v ∧ OwnP w' w.heap.size v xs ∧ Below w.heap.size w w' := by
  have hn := hn.out; subst hn
  exact clone_any hl hrow
end Go.Proofs.Ytbpfhclcjedkcaa

namespace Go.Proofs.Ytbpfhclcjedkcaa
open Go.RowKit

/-! ### view.Copy -/
theorem OwnP.put4 {w : World} {base b : Nat} {v : Value} {xs : List Pid} {u0 u1 u2 u3 : Value} (h : OwnP w base v xs) (hb : ∀ g, v.ownBlock = some g → g ≠ b) : OwnP ((((w.setCell ⟨b, 0, none⟩ u0).setCell ⟨b, 1, none⟩ u1).setCell ⟨b, 2, none⟩ u2).setCell ⟨b, 3, none⟩ u3) base v xs :=
  h.mutN (mutV w b u0 u1 u2 u3) (fun g hg e => hb g hg e)
theorem below_put4 {B : Nat} {w W : World} {b : Nat} {u0 u1 u2 u3 : Value} (h : Below B w W) (hb : B ≤ b) : Below B w ((((W.setCell ⟨b, 0, none⟩ u0).setCell ⟨b, 1, none⟩ u1).setCell ⟨b, 2, none⟩ u2).setCell ⟨b, 3, none⟩ u3) :=
  below_set (below_set (below_set (below_set h hb) hb) hb) hb
/-- the copy in its box, without its leaves -/
structure CopyS (W2 wx : World) (b3 : Nat) (i : Int) (vm vd : Value) (V : View) : Prop where
  bx : BoxV wx b3 (.int .u64 i) vm (.slice none 0 0) vd
  om : OwnP wx W2.heap.size vm V.ms
  od : OwnP wx W2.heap.size vd V.ds
  nm : ∀ g, vm.ownBlock = some g → g ≠ b3
  nd : ∀ g, vd.ownBlock = some g → g ≠ b3
  nn : ∀ g, vm.ownBlock = some g → vd.ownBlock ≠ some g
  le : W2.heap.size ≤ b3
  b : Below W2.heap.size W2 wx
theorem CopyS.of {W2 w7 : World} {b3 : Nat} {i : Int} {vm vd z0 z1 z2 z3 : Value} {V : View} (bx : BoxV w7 b3 z0 z1 z2 z3) (om : OwnP w7 W2.heap.size vm V.ms) (od : OwnP w7 W2.heap.size vd V.ds) (nm : ∀ g, vm.ownBlock = some g → g ≠ b3) (nd : ∀ g, vd.ownBlock = some g → g ≠ b3) (nn : ∀ g, vm.ownBlock = some g → vd.ownBlock ≠ some g) (le : W2.heap.size ≤ b3) (b : Below W2.heap.size W2 w7) :
    CopyS W2 ((((w7.setCell ⟨b3, 0, none⟩ (.int .u64 i)).setCell ⟨b3, 1, none⟩ vm).setCell ⟨b3, 2, none⟩ (.slice none 0 0)).setCell ⟨b3, 3, none⟩ vd) b3 i vm vd V :=
  ⟨bx.put _ _ _ _, om.put4 nm, od.put4 nd, nm, nd, nn, le, below_put4 b le⟩
theorem CopyS.made {W2 w7 : World} {i : Int} {vm vd : Value} {V : View} (om : OwnP w7 W2.heap.size vm V.ms) (od : OwnP w7 W2.heap.size vd V.ds) (nn : ∀ g, vm.ownBlock = some g → vd.ownBlock ≠ some g) (b : Below W2.heap.size W2 w7) :
    CopyS W2 (w7.alloc (.cells #[.int .u64 i, vm, .slice none 0 0, vd] 33)) w7.heap.size i vm vd V :=
  ⟨BoxV.made _ _ _ _ _ _, om.ext ((Below.refl _ _).alloc (Nat.le_refl _) _), od.ext ((Below.refl _ _).alloc (Nat.le_refl _) _), fun g hg e => by have := (om.blk hg).2; omega, fun g hg e => by have := (od.blk hg).2; omega, nn, b.size, b.alloc b.size _⟩

end Go.Proofs.Ytbpfhclcjedkcaa

namespace Go.Proofs.Ytbpfhclcjedkcaa
open Go.RowKit

/-! ### local views -/
theorem atFrom_skip {p : Pid} : ∀ {pre suf : List Pid} {k : Nat}, p ∉ pre → atFrom p (pre ++ p :: suf) k = ((k + pre.length : Nat) : Int)
  | [], suf, k, _ => by simp [atFrom]
  | q :: r, suf, k, h => by
    simp only [List.mem_cons, not_or] at h
    simp only [List.cons_append, atFrom]
    rw [if_neg (fun e => h.1 e.symm), atFrom_skip h.2]
    simp; omega
/-- rows that stay where only blocks below base change -/
def Stab (base : Nat) (w : World) (am al ad : Option Addr) (V : View) : Prop := ∀ G : Nat → Prop, (∀ k, G k → k < base) → ∀ W', Mut G w W' → ViewR W' am al ad V
theorem Stab.r {base : Nat} {w : World} {am al ad : Option Addr} {V : View} (h : Stab base w am al ad V) : ViewR w am al ad V := h (fun _ => False) (fun _ e => e.elim) w (Mut.refl _ _)
theorem Stab.ext {base : Nat} {w w' : World} {am al ad : Option Addr} {V : View} (h : Stab base w am al ad V) (hb : Below w.heap.size w w') : Stab base w' am al ad V := fun G hG W' hm => h G hG W' ((Mut.of_below hb).trans hm)
theorem Stab.zero (base : Nat) (w : World) : Stab base w none none none zeroV := fun _ _ W' _ => ⟨.inl rfl, .inl rfl, .inl rfl, by simp [zeroV], by simp [zeroV], by simp [zeroV], by simp [zeroV]⟩
end Go.Proofs.Ytbpfhclcjedkcaa

namespace Go.Proofs.Ytbpfhclcjedkcaa
open Go.RowKit
/-! ### leaves in the members' order, and the leaders, in plain words -/
def keyL (ms : List Pid) (l : List Pid) : Nat := ms.findIdx fun p => decide (p ∈ l)
def ordR (ms : List Pid) (ls : LL) : LL := (List.range ms.length).flatMap fun i => (ls.filter fun l => decide (keyL ms l = i)).map (commonP ms)
def hdIx (ms : List Pid) (l : List Pid) : Int := atIx ms (l.headD (0, 0))
/-- leaves that part the members -/
structure Parts (ms : List Pid) (ls : LL) : Prop where
  nd : ms.Nodup
  full : Full ls
  perm : ls.flatten.Perm ms
theorem Parts.hit {ms : List Pid} {ls : LL} (h : Parts ms ls) {l : List Pid} (hl : l ∈ ls) : ∃ p ∈ ms, p ∈ l := by
  obtain ⟨p, hp⟩ := List.exists_mem_of_ne_nil l (h.full l hl)
  exact ⟨p, h.perm.mem_iff.1 (List.mem_flatten.2 ⟨l, hl, hp⟩), hp⟩
theorem Parts.key_lt {ms : List Pid} {ls : LL} (h : Parts ms ls) {l : List Pid} (hl : l ∈ ls) : keyL ms l < ms.length := by
  obtain ⟨p, h1, h2⟩ := h.hit hl
  exact List.findIdx_lt_length_of_exists ⟨p, h1, by simpa using h2⟩
theorem Parts.key_mem {ms : List Pid} {ls : LL} (h : Parts ms ls) {l : List Pid} (hl : l ∈ ls) : ms[keyL ms l]'(h.key_lt hl) ∈ l := by
  have := List.findIdx_getElem (w := h.key_lt hl)
  exact of_decide_eq_true this
theorem key_min {ms l : List Pid} {j : Nat} (h : j < keyL ms l) (hj : j < ms.length) : ms[j] ∉ l := by
  have := List.not_of_lt_findIdx h
  simpa using this
theorem Parts.keys {ms : List Pid} {ls : LL} (h : Parts ms ls) : ls.Pairwise fun a b => keyL ms a ≠ keyL ms b := by
  have h1 : ls.flatten.Nodup := h.perm.nodup_iff.2 h.nd
  have h2 := (List.pairwise_flatten.1 h1).2
  refine List.Pairwise.imp_of_mem ?_ h2
  intro a b ha hb hab hk
  have ka := h.key_mem ha
  have kb := h.key_mem hb
  have e : ms[keyL ms a]'(h.key_lt ha) = ms[keyL ms b]'(h.key_lt hb) := by simp only [hk]
  rw [e] at ka
  exact hab _ ka _ kb rfl
theorem pairwise_inj {α β : Type} {f : α → β} : ∀ {l : List α}, l.Pairwise (fun a b => f a ≠ f b) → ∀ a ∈ l, ∀ b ∈ l, f a = f b → a = b
  | [], _, a, ha, _, _, _ => by cases ha
  | x :: r, h, a, ha, b, hb, e => by
    obtain ⟨h1, h2⟩ := List.pairwise_cons.1 h
    rcases List.mem_cons.1 ha with e1 | ha2 <;> rcases List.mem_cons.1 hb with e2 | hb2
    · rw [e1, e2]
    · rw [e1] at e; exact absurd e (h1 b hb2)
    · rw [e2] at e; exact absurd e.symm (h1 a ha2)
    · exact pairwise_inj h2 a ha2 b hb2 e
theorem atIx_nd {ms : List Pid} (h : ms.Nodup) {k : Nat} (hk : k < ms.length) : atIx ms ms[k] = (k : Int) := by
  have e : ms = ms.take k ++ ms[k] :: ms.drop (k + 1) := by rw [List.getElem_cons_drop, List.take_append_drop]
  have hn : ms[k] ∉ ms.take k := by
    intro hm
    rw [e] at h
    have := (List.nodup_append.1 h).2.2 _ hm _ (List.mem_cons_self ..)
    exact this rfl
  unfold atIx
  have := atFrom_skip (p := ms[k]) (pre := ms.take k) (suf := ms.drop (k + 1)) (k := 0) hn
  rw [← e] at this
  rw [this]
  simp; omega
theorem Parts.head {ms : List Pid} {ls : LL} (h : Parts ms ls) {l : List Pid} (hl : l ∈ ls) : (commonP ms l).head? = some (ms[keyL ms l]'(h.key_lt hl)) := by
  unfold commonP
  rw [List.head?_filter, List.find?_eq_some_iff_getElem]
  refine ⟨by simpa using h.key_mem hl, keyL ms l, h.key_lt hl, rfl, fun j hj => ?_⟩
  have := key_min (l := l) hj (by have := h.key_lt hl; omega)
  simpa using this
theorem Parts.hdIx {ms : List Pid} {ls : LL} (h : Parts ms ls) {l : List Pid} (hl : l ∈ ls) : hdIx ms (commonP ms l) = (keyL ms l : Int) := by
  unfold Go.Proofs.Ytbpfhclcjedkcaa.hdIx
  rw [List.headD_eq_head?_getD, h.head hl, Option.getD_some]
  exact atIx_nd h.nd _
theorem sum_ind (k c : Nat) : ∀ n : Nat, ((List.range n).map fun i => if k = i then c else 0).sum = if k < n then c else 0
  | 0 => by simp
  | n + 1 => by
    rw [List.range_succ, List.map_append, List.sum_append, sum_ind k c n]
    simp only [List.map_cons, List.map_nil, List.sum_cons, List.sum_nil]
    by_cases h1 : k < n
    · rw [if_pos h1, if_neg (by omega), if_pos (by omega)]; omega
    · rw [if_neg h1]
      by_cases h2 : k = n
      · rw [if_pos h2, if_pos (by omega)]; omega
      · rw [if_neg h2, if_neg (by omega)]; rfl
theorem flat_filter_perm {α : Type} [DecidableEq α] (f : α → Nat) (n : Nat) (l : List α) (h : ∀ a ∈ l, f a < n) : ((List.range n).flatMap fun i => l.filter fun a => decide (f a = i)).Perm l := by
  rw [List.perm_iff_count]
  intro a
  by_cases ha : a ∈ l
  · rw [List.count_flatMap]
    have e : (List.range n).map (List.count a ∘ fun i => l.filter fun a => decide (f a = i)) = (List.range n).map fun i => if f a = i then l.count a else 0 := by
      refine List.map_congr_left fun i _ => ?_
      simp only [Function.comp]
      by_cases hi : f a = i
      · rw [if_pos hi, List.count_filter (by simpa using hi)]
      · rw [if_neg hi, List.count_eq_zero]
        simp [hi]
    rw [e, sum_ind, if_pos (h a ha)]
  · rw [List.count_eq_zero.2 ha, List.count_eq_zero]
    intro hm
    obtain ⟨i, -, hi⟩ := List.mem_flatMap.1 hm
    exact ha (List.mem_filter.1 hi).1
theorem Parts.ord_perm {ms : List Pid} {ls : LL} (h : Parts ms ls) : (ordR ms ls).Perm (ls.map (commonP ms)) := by
  have := (flat_filter_perm (keyL ms) ms.length ls fun a ha => h.key_lt ha).map (commonP ms)
  unfold ordR
  rwa [List.map_flatMap] at this
theorem Parts.ord_sorted {ms : List Pid} {ls : LL} (h : Parts ms ls) : (ordR ms ls).Pairwise fun a b => Go.Proofs.Ytbpfhclcjedkcaa.hdIx ms a ≤ Go.Proofs.Ytbpfhclcjedkcaa.hdIx ms b := by
  have hk : ∀ i, ∀ a ∈ (ls.filter fun l => decide (keyL ms l = i)).map (commonP ms), Go.Proofs.Ytbpfhclcjedkcaa.hdIx ms a = (i : Int) := by
    intro i a ha
    obtain ⟨l, hl, rfl⟩ := List.mem_map.1 ha
    obtain ⟨h1, h2⟩ := List.mem_filter.1 hl
    rw [h.hdIx h1]
    have : keyL ms l = i := by simpa using h2
    rw [this]
  unfold ordR
  rw [List.pairwise_flatMap]
  refine ⟨fun i _ => ?_, ?_⟩
  · refine List.Pairwise.imp_of_mem (R := fun _ _ => True) ?_ (List.pairwise_of_forall fun _ _ => trivial)
    intro a b ha hb _
    rw [hk i a ha, hk i b hb]; exact Int.le_refl _
  · refine List.Pairwise.imp ?_ List.pairwise_lt_range
    intro i j hij a ha b hb
    rw [hk i a ha, hk j b hb]; omega
/-- what is sorted by the first one's place is the reference's order -/
theorem Parts.ord_eq {ms : List Pid} {ls : LL} (h : Parts ms ls) {cs : LL} (hp : cs.Perm (ls.map (commonP ms))) (hs : cs.Pairwise fun a b => Go.Proofs.Ytbpfhclcjedkcaa.hdIx ms a ≤ Go.Proofs.Ytbpfhclcjedkcaa.hdIx ms b) : cs = ordR ms ls := by
  refine List.Perm.eq_of_pairwise (le := fun a b => Go.Proofs.Ytbpfhclcjedkcaa.hdIx ms a ≤ Go.Proofs.Ytbpfhclcjedkcaa.hdIx ms b) ?_ hs h.ord_sorted (hp.trans h.ord_perm.symm)
  intro a b ha hb h1 h2
  have ha := hp.mem_iff.1 ha
  have hb := h.ord_perm.mem_iff.1 hb
  obtain ⟨l, hl, rfl⟩ := List.mem_map.1 ha
  obtain ⟨m, hm, rfl⟩ := List.mem_map.1 hb
  rw [h.hdIx hl, h.hdIx hm] at h1 h2
  have := pairwise_inj h.keys l hl m hm (by omega)
  rw [this]
/-! the leaders -/
def leadStep (S : List Pid) (p : Pid) : List Pid := if 3 ≤ S.length then S else if p ∈ S then S else S ++ [p]
def leadS (ms : List Pid) (S : List Pid) : List Pid := ms.foldl leadStep S
theorem leadS_full : ∀ (ms : List Pid) {S : List Pid}, 3 ≤ S.length → leadS ms S = S
  | [], _, _ => rfl
  | p :: r, S, h => by
    show leadS r (leadStep S p) = S
    have e : leadStep S p = S := by unfold leadStep; rw [if_pos h]
    rw [e]; exact leadS_full r h
/-- of leaves, the first ones; then members till there are three -/
def leadersL (ms : List Pid) (heads : List Pid) : List Pid := ms.filter fun p => decide (p ∈ leadS ms heads)
end Go.Proofs.Ytbpfhclcjedkcaa

namespace Go.Proofs.Ytbpfhclcjedkcaa
open Go.RowKit
/-! ### building a view, in plain words -/
def addL (ls : LL) (p : Pid) : LL := if fewL ls (-1) < 0 then ls ++ [[p]] else ls.set (fewL ls (-1)).toNat (ls.getD (fewL ls (-1)).toNat [] ++ [p])
def addAll (ls : LL) (come : List Pid) : LL := come.foldl addL ls
theorem few_cases (ls : LL) : (ls = [] ∧ fewL ls (-1) = -1) ∨ ∃ j : Nat, j < ls.length ∧ fewL ls (-1) = (j : Int) := by
  cases ls with
  | nil => exact .inl ⟨rfl, rfl⟩
  | cons l r => exact .inr (fewL_some (by simp))
theorem addL_perm (ls : LL) (p : Pid) : (addL ls p).flatten.Perm (ls.flatten ++ [p]) := by
  unfold addL
  rcases few_cases ls with ⟨rfl, h⟩ | ⟨j, hj, h⟩
  · rw [h, if_pos (by decide)]; simp
  · rw [h, if_neg (by omega), Int.toNat_natCast]
    obtain ⟨A, x, B, rfl, rfl, hx⟩ := split_at (d := ([] : List Pid)) hj
    rw [hx, set_mid]
    simp only [List.flatten_append, List.flatten_cons, List.append_assoc]
    exact List.Perm.append_left _ (List.Perm.append_left _ List.perm_append_comm)
theorem addL_full {ls : LL} (h : Full ls) (p : Pid) : Full (addL ls p) := by
  unfold addL
  rcases few_cases ls with ⟨rfl, e⟩ | ⟨j, hj, e⟩
  · rw [e, if_pos (by decide)]; intro l hl; simp at hl; subst hl; simp
  · rw [e, if_neg (by omega), Int.toNat_natCast]
    intro l hl
    rcases List.mem_or_eq_of_mem_set hl with hl | rfl
    · exact h l hl
    · simp
theorem addAll_ok : ∀ (come : List Pid) {ls : LL}, Full ls → Full (addAll ls come) ∧ (addAll ls come).flatten.Perm (ls.flatten ++ come)
  | [], ls, h => ⟨h, by simp [addAll]⟩
  | p :: r, ls, h => by
    obtain ⟨h1, h2⟩ := addAll_ok r (addL_full h p)
    refine ⟨h1, List.Perm.trans h2 ?_⟩
    have := (addL_perm ls p).append_right r
    simpa using this
def fitV (b : Bnd) (ls : LL) : LL := fitN b 200 ls
theorem fitV_ok {b : Bnd} (hb : bchk b = true) {ls : LL} (hf : Full ls) (ht : total ls ≤ 60) : Full (fitV b ls) ∧ (fitV b ls).flatten.Perm ls.flatten ∧ fitsL b (fitV b ls) = true :=
  fit_ok hb 200 ls hf (by have := phi_le (b := b) hf; omega)
def comeOk : List Int → List Pid → Bool
  | _, [] => true
  | S, p :: r => if p.1 ∈ S then false else comeOk (S ++ [p.1]) r
theorem comeOk_iff : ∀ {come : List Pid} {S : List Int}, comeOk S come = true ↔ (∀ p ∈ come, p.1 ∉ S) ∧ come.Pairwise fun p q => p.1 ≠ q.1
  | [], S => by simp [comeOk]
  | p :: r, S => by
    unfold comeOk
    by_cases h : p.1 ∈ S
    · rw [if_pos h]
      exact ⟨fun e => (by cases e), fun e => absurd h (e.1 p (List.mem_cons_self ..))⟩
    · rw [if_neg h, comeOk_iff]
      simp only [List.mem_append, not_or, List.mem_cons, forall_eq_or_imp, List.pairwise_cons, List.not_mem_nil, not_false_eq_true, and_true, or_false]
      constructor
      · rintro ⟨a, b⟩; exact ⟨⟨h, fun q hq => (a q hq).1⟩, fun q hq e => (a q hq).2 e.symm, b⟩
      · rintro ⟨⟨_, a⟩, c, b⟩; exact ⟨fun q hq => ⟨a q hq, fun e => c q hq e.symm⟩, b⟩
def mayAll (l : List Pid) : Bool := l.all mayB
def buildV (id : Int) (stay : List Pid) (ls : LL) (come : List Pid) (b : Bnd) : View × Int :=
  if comeOk (stay.map (·.1)) come = false then (zeroV, 9)
  else if (stay ++ come).length = 0 then (zeroV, 8)
  else if 24 < (stay ++ come).length then (zeroV, 3)
  else (⟨id, stay ++ come, ordR (stay ++ come) (fitV b (addAll ls come)), leadersL (stay ++ come) (heads (ordR (stay ++ come) (fitV b (addAll ls come))))⟩, 0)
def firstV (l : List Pid) (b : Bnd) : View × Int :=
  if bchk b = false ∨ mayAll l = false then (zeroV, 1) else buildV 1 [] [] l b
/-! ranks -/
theorem ris_pw {ms : List Pid} : ∀ {xs : List Pid} {z : Int}, -1 ≤ z → (∀ x ∈ xs, z < atIx ms x) → xs.Pairwise (fun p q => atIx ms p < atIx ms q) → risFrom (ranksL ms) z xs = true
  | [], _, _, _, _ => rfl
  | p :: r, z, hz, h, hp => by
    obtain ⟨h1, h2⟩ := List.pairwise_cons.1 hp
    have hpz := h p (List.mem_cons_self ..)
    unfold risFrom
    rw [look_ranksL]
    unfold rankO
    rw [if_neg (by omega)]
    simp only
    rw [if_neg (by omega)]
    exact ris_pw (by omega) h1 h2
theorem pw_self {ms : List Pid} (h : ms.Nodup) : ms.Pairwise (fun p q => atIx ms p < atIx ms q) := by
  rw [List.pairwise_iff_getElem]
  intro i j hi hj hij
  rw [atIx_nd h hi, atIx_nd h hj]; omega
theorem atIx_mem {ms : List Pid} (h : ms.Nodup) {p : Pid} (hp : p ∈ ms) : -1 < atIx ms p := by
  obtain ⟨i, hi, rfl⟩ := List.mem_iff_getElem.1 hp
  rw [atIx_nd h hi]; omega
theorem ris_sub {ms xs : List Pid} (h : ms.Nodup) (hs : xs.Sublist ms) : risFrom (ranksL ms) (-1) xs = true :=
  ris_pw (by omega) (fun _ hx => atIx_mem h (hs.subset hx)) ((pw_self h).sublist hs)
theorem count_one {l : List Pid} (h : l.Nodup) {a : Pid} (ha : a ∈ l) : l.count a = 1 := (count_iff h (fun _ hx => hx)).2 ⟨rfl, h⟩ a ha
theorem perm_of {a b : List Pid} (ha : a.Nodup) (hb : b.Nodup) (h : ∀ x, x ∈ a ↔ x ∈ b) : a.Perm b := by
  rw [List.perm_iff_count]; intro x
  by_cases hx : x ∈ a
  · rw [count_one ha hx, count_one hb ((h x).1 hx)]
  · rw [List.count_eq_zero.2 hx, List.count_eq_zero.2 (fun e => hx ((h x).2 e))]
theorem flat_map_perm {f : List Pid → List Pid} : ∀ {ls : LL}, (∀ l ∈ ls, (f l).Perm l) → (ls.map f).flatten.Perm ls.flatten
  | [], _ => List.Perm.refl _
  | l :: r, h => by
    simp only [List.map_cons, List.flatten_cons]
    exact (h l (List.mem_cons_self ..)).append (flat_map_perm fun x hx => h x (List.mem_cons_of_mem _ hx))
section
variable {ms : List Pid} {ls : LL}
theorem Parts.leaf_nd (h : Parts ms ls) {l : List Pid} (hl : l ∈ ls) : l.Nodup := (List.pairwise_flatten.1 (h.perm.nodup_iff.2 h.nd)).1 l hl
theorem Parts.leaf_sub (h : Parts ms ls) {l : List Pid} (hl : l ∈ ls) {p : Pid} (hp : p ∈ l) : p ∈ ms := h.perm.mem_iff.1 (List.mem_flatten.2 ⟨l, hl, hp⟩)
theorem Parts.common_perm (h : Parts ms ls) {l : List Pid} (hl : l ∈ ls) : (commonP ms l).Perm l :=
  perm_of (List.Pairwise.sublist List.filter_sublist h.nd) (h.leaf_nd hl) fun x => by
    unfold commonP
    rw [List.mem_filter]
    exact ⟨fun e => by simpa using e.2, fun e => ⟨h.leaf_sub hl e, by simpa using e⟩⟩
theorem Parts.ord_flat (h : Parts ms ls) : (ordR ms ls).flatten.Perm ms :=
  h.ord_perm.flatten.trans ((flat_map_perm fun _ hl => h.common_perm hl).trans h.perm)
theorem Parts.ord_mem (h : Parts ms ls) {c : List Pid} (hc : c ∈ ordR ms ls) : ∃ l ∈ ls, c = commonP ms l := by
  obtain ⟨l, hl, rfl⟩ := List.mem_map.1 (h.ord_perm.mem_iff.1 hc); exact ⟨l, hl, rfl⟩
theorem Parts.ord_full (h : Parts ms ls) : Full (ordR ms ls) := fun c hc e => by
  obtain ⟨l, hl, rfl⟩ := h.ord_mem hc
  have := h.head hl
  rw [e] at this
  cases this
theorem Parts.ord_parts (h : Parts ms ls) : Parts ms (ordR ms ls) := ⟨h.nd, h.ord_full, h.ord_flat⟩
theorem Parts.ord_strict (h : Parts ms ls) : (ordR ms ls).Pairwise fun a b => Go.Proofs.Ytbpfhclcjedkcaa.hdIx ms a < Go.Proofs.Ytbpfhclcjedkcaa.hdIx ms b := by
  have hk : ∀ i, ∀ a ∈ (ls.filter fun l => decide (keyL ms l = i)).map (commonP ms), Go.Proofs.Ytbpfhclcjedkcaa.hdIx ms a = (i : Int) := by
    intro i a ha
    obtain ⟨l, hl, rfl⟩ := List.mem_map.1 ha
    obtain ⟨h1, h2⟩ := List.mem_filter.1 hl
    rw [h.hdIx h1]
    have : keyL ms l = i := by simpa using h2
    rw [this]
  unfold ordR
  rw [List.pairwise_flatMap]
  refine ⟨fun i _ => ?_, ?_⟩
  · rw [List.pairwise_map]
    refine List.Pairwise.imp_of_mem ?_ (h.keys.sublist List.filter_sublist)
    intro a b ha hb hab
    have e1 : keyL ms a = i := by simpa using (List.mem_filter.1 ha).2
    have e2 : keyL ms b = i := by simpa using (List.mem_filter.1 hb).2
    exact absurd (e1.trans e2.symm) hab
  · refine List.Pairwise.imp ?_ List.pairwise_lt_range
    intro i j hij a ha b hb
    rw [hk i a ha, hk j b hb]; omega
theorem heads_fm : ∀ ls : LL, heads ls = ls.filterMap List.head?
  | [] => rfl
  | l :: r => by cases l <;> simp [heads, heads_fm r, List.filterMap_cons]
theorem Parts.heads_pw (h : Parts ms ls) : (heads (ordR ms ls)).Pairwise fun p q => atIx ms p < atIx ms q := by
  rw [heads_fm, List.pairwise_filterMap]
  refine h.ord_strict.imp ?_
  intro a b hab p hp q hq
  unfold Go.Proofs.Ytbpfhclcjedkcaa.hdIx at hab
  rw [List.headD_eq_head?_getD, hp, List.headD_eq_head?_getD, hq] at hab
  simpa using hab
theorem heads_mem {p : Pid} (h : p ∈ heads ls) : ∃ l ∈ ls, l.head? = some p := by rw [heads_fm, List.mem_filterMap] at h; exact h
theorem Parts.heads_sub (h : Parts ms ls) : ∀ p ∈ heads ls, p ∈ ms := fun p hp => by
  obtain ⟨l, hl, e⟩ := heads_mem hp
  exact h.leaf_sub hl (List.mem_of_head? e)
theorem Parts.heads_nd (h : Parts ms ls) : (heads (ordR ms ls)).Nodup := h.heads_pw.imp fun hlt e => by rw [e] at hlt; omega
end
/-! the leaders -/
theorem leadS_ok : ∀ (r : List Pid) {ms S : List Pid}, (∀ p ∈ r, p ∈ ms) → S.Nodup → (∀ p ∈ S, p ∈ ms) → (leadS r S).Nodup ∧ (∀ p ∈ leadS r S, p ∈ ms) ∧ (∀ p ∈ S, p ∈ leadS r S) ∧ (3 ≤ (leadS r S).length ∨ ∀ p ∈ r, p ∈ leadS r S)
  | [], ms, S, _, hn, hs => ⟨hn, hs, fun _ h => h, .inr (by simp)⟩
  | p :: r, ms, S, hr, hn, hs => by
    by_cases h3 : 3 ≤ S.length
    · rw [leadS_full _ h3]
      exact ⟨hn, hs, fun _ h => h, .inl h3⟩
    · have e0 : leadS (p :: r) S = leadS r (leadStep S p) := rfl
      rw [e0]
      by_cases hp : p ∈ S
      · have e : leadStep S p = S := by unfold leadStep; rw [if_neg h3, if_pos hp]
        rw [e]
        obtain ⟨a, b, c, d⟩ := leadS_ok r (fun q hq => hr q (List.mem_cons_of_mem _ hq)) hn hs
        refine ⟨a, b, c, d.imp id fun d q hq => ?_⟩
        rcases List.mem_cons.1 hq with rfl | hq
        · exact c _ hp
        · exact d q hq
      · have e : leadStep S p = S ++ [p] := by unfold leadStep; rw [if_neg h3, if_neg hp]
        rw [e]
        obtain ⟨a, b, c, d⟩ := leadS_ok (ms := ms) r (fun q hq => hr q (List.mem_cons_of_mem _ hq)) (S := S ++ [p]) (by
          rw [List.nodup_append]
          refine ⟨hn, by simp, fun x hx y hy e => ?_⟩
          rw [List.mem_singleton.1 hy] at e
          exact hp (e ▸ hx)) (fun q hq => by
          rcases List.mem_append.1 hq with hq | hq
          · exact hs q hq
          · rw [List.mem_singleton.1 hq]; exact hr p (List.mem_cons_self ..))
        refine ⟨a, b, fun q hq => c q (List.mem_append_left _ hq), d.imp id fun d q hq => ?_⟩
        rcases List.mem_cons.1 hq with rfl | hq
        · exact c _ (by simp)
        · exact d q hq
theorem leaders_len {ms hs : List Pid} (hn : ms.Nodup) (hh : hs.Nodup) (hsub : ∀ p ∈ hs, p ∈ ms) : min 3 ms.length ≤ (leadersL ms hs).length := by
  obtain ⟨a, b, -, d⟩ := leadS_ok ms (fun _ h => h) hh hsub
  have e : (leadersL ms hs).length = (leadS ms hs).length := by
    refine List.Perm.length_eq (perm_of (List.Pairwise.sublist List.filter_sublist hn) a fun x => ?_)
    unfold leadersL
    rw [List.mem_filter]
    exact ⟨fun e => by simpa using e.2, fun e => ⟨b x e, by simpa using e⟩⟩
  rw [e]
  rcases d with d | d
  · omega
  · have := nodup_len hn d; omega
/-- what is built may be -/
theorem built_check {id : Int} {ms : List Pid} {ls : LL} (h : Parts ms ls) (h1 : 1 ≤ id) (h2 : id ≤ 4611686018427387904) (hm : membersB ms = true) : checkB ⟨id, ms, ordR ms ls, leadersL ms (heads (ordR ms ls))⟩ = true := by
  have h0 : 0 < ms.length := by unfold membersB at hm; rw [memFrom_iff] at hm; exact hm.1.1
  rw [checkB_4 h1 h2 hm, chkFrom_iff]
  refine ⟨fun c hc => ⟨h.ord_full c hc, ?_⟩, ?_⟩
  · obtain ⟨l, hl, rfl⟩ := h.ord_mem hc
    exact ris_sub h.nd List.filter_sublist
  · unfold chkEnd
    have e1 : lens (ordR ms ls) = ms.length := by
      have e1 := lens_flatten (ordR ms ls)
      have e2 := h.ord_flat.length_eq
      exact e1.symm.trans e2
    simp only [List.nil_append, Nat.zero_add, Bool.and_eq_true, decide_eq_true_eq]
    refine ⟨e1, ?_, ?_, ?_, ?_⟩
    · rw [e1, ← h.ord_flat.length_eq, unionL_nodup]; exact h.ord_flat.nodup_iff.2 h.nd
    · exact ris_pw (by omega) (fun x hx => atIx_mem h.nd (h.ord_parts.heads_sub x hx)) h.heads_pw
    · intro e
      have := leaders_len h.nd h.heads_nd h.ord_parts.heads_sub
      rw [e] at this
      simp only [List.length_nil] at this
      omega
    · exact ris_sub h.nd List.filter_sublist
/-! fitting -/
/-! a view that may be -/
/-- what comes behind those who stay -/
theorem built_parts {stay come : List Pid} {ls : LL} (hp : Parts stay ls) (hi : stay.Pairwise fun p q => p.1 ≠ q.1) (hc : comeOk (stay.map (·.1)) come = true) : (stay ++ come).Pairwise (fun p q => p.1 ≠ q.1) ∧ Parts (stay ++ come) (addAll ls come) := by
  obtain ⟨c1, c2⟩ := comeOk_iff.1 hc
  have hids : (stay ++ come).Pairwise (fun p q => p.1 ≠ q.1) := by
    rw [List.pairwise_append]
    refine ⟨hi, c2, fun p hp q hq e => c1 q hq (List.mem_map.2 ⟨p, hp, e⟩)⟩
  obtain ⟨a1, a2⟩ := addAll_ok come hp.full
  exact ⟨hids, nodup_of_ids hids, a1, a2.trans (hp.perm.append_right come)⟩
structure BuiltOk (id : Int) (ms : List Pid) (b : Bnd) (V : View) : Prop where
  ex : ∃ ls, Parts ms ls ∧ fitsL b ls = true ∧ V = ⟨id, ms, ordR ms ls, leadersL ms (heads (ordR ms ls))⟩
  mem : membersB ms = true
theorem BuiltOk.check {id : Int} {ms : List Pid} {b : Bnd} {V : View} (h : BuiltOk id ms b V) (h1 : 1 ≤ id) (h2 : id ≤ 4611686018427387904) : checkB V = true := by
  obtain ⟨ls, hp, -, rfl⟩ := h.ex
  exact built_check hp h1 h2 h.mem
theorem BuiltOk.id {i : Int} {ms : List Pid} {b : Bnd} {V : View} (h : BuiltOk i ms b V) : V.id = i := by
  obtain ⟨ls, hp, -, rfl⟩ := h.ex; rfl
theorem BuiltOk.ms {i : Int} {ms : List Pid} {b : Bnd} {V : View} (h : BuiltOk i ms b V) : V.ms = ms := by
  obtain ⟨ls, hp, -, rfl⟩ := h.ex; rfl
end Go.Proofs.Ytbpfhclcjedkcaa

namespace Go.Proofs.Ytbpfhclcjedkcaa
open Go.RowKit
/-! ### the reference's end of building a view, in plain words -/
structure TS where
  lv : LL
  fl : List Bool
  ct : Nat
def tIn (ms : List Pid) (i : Nat) (s : TS) (l : List Pid) : TS := if keyL ms l = i then ⟨s.lv ++ [commonP ms l], s.fl.set i true, s.ct + 1⟩ else s
def tRow (ms : List Pid) (ls : LL) (s : TS) (i : Nat) : TS := ls.foldl (tIn ms i) s
def tTo (ms : List Pid) (ls : LL) (i : Nat) : TS := (List.range i).foldl (tRow ms ls) ⟨[], List.replicate ms.length false, 0⟩
def fStep (s : List Bool × Nat) (i : Nat) : List Bool × Nat := if s.2 < 3 ∧ s.1.getD i false = false then (s.1.set i true, s.2 + 1) else s
def fTo (s : List Bool × Nat) (i : Nat) : List Bool × Nat := (List.range i).foldl fStep s
def pickL : List Pid → List Bool → List Pid
  | p :: r, b :: s => if b = true then p :: pickL r s else pickL r s
  | _, _ => []
theorem tTo_succ (ms : List Pid) (ls : LL) (i : Nat) : tTo ms ls (i + 1) = tRow ms ls (tTo ms ls i) i := by
  unfold tTo; rw [List.range_succ, List.foldl_append]; rfl
theorem fTo_succ (s : List Bool × Nat) (i : Nat) : fTo s (i + 1) = fStep (fTo s i) i := by
  unfold fTo; rw [List.range_succ, List.foldl_append]; rfl
theorem tRow_take {ms : List Pid} {ls : LL} {s : TS} {i k : Nat} (h : k < ls.length) {l : List Pid} (hl : l = ls[k]) : (ls.take (k + 1)).foldl (tIn ms i) s = tIn ms i ((ls.take k).foldl (tIn ms i) s) l := by
  rw [List.take_succ_eq_append_getElem h, List.foldl_append, ← hl]; rfl
/-- whose first member in the row is at a place -/
theorem key_iff {ms l : List Pid} {i : Nat} (h : i < ms.length) : keyL ms l = i ↔ ms[i] ∈ l ∧ ∀ p ∈ ms.take i, p ∉ l := by
  unfold keyL
  rw [List.findIdx_eq h]
  simp only [decide_eq_true_eq, decide_eq_false_iff_not]
  refine and_congr Iff.rfl ⟨fun e p hp => ?_, fun e j hj => ?_⟩
  · obtain ⟨j, hj, rfl⟩ := List.mem_iff_getElem.1 hp
    rw [List.length_take] at hj
    rw [List.getElem_take]
    exact e j (by omega)
  · refine e _ ?_
    rw [List.mem_iff_getElem]
    exact ⟨j, by rw [List.length_take]; omega, by rw [List.getElem_take]⟩
theorem tRow_eq (ms : List Pid) (i : Nat) : ∀ (ls : LL) (s : TS), ls.foldl (tIn ms i) s = ⟨s.lv ++ (ls.filter fun l => decide (keyL ms l = i)).map (commonP ms), if (∃ l ∈ ls, keyL ms l = i) then s.fl.set i true else s.fl, s.ct + (ls.filter fun l => decide (keyL ms l = i)).length⟩
  | [], s => by simp
  | l :: r, s => by
    rw [List.foldl_cons, tRow_eq ms i r]
    unfold tIn
    by_cases h : keyL ms l = i
    · rw [if_pos h]
      simp only [List.filter_cons, h, decide_true, if_true, List.map_cons, List.append_assoc, List.singleton_append, List.length_cons, List.mem_cons, exists_eq_or_imp, true_or]
      refine congr (congr rfl ?_) (by omega)
      split
      · rw [List.set_set]
      · rfl
    · rw [if_neg h]
      have h' : decide (keyL ms l = i) = false := decide_eq_false h
      simp only [List.filter_cons, h', List.mem_cons, exists_eq_or_imp, h, false_or]
      rfl
structure TOk (ms : List Pid) (ls : LL) (i : Nat) (s : TS) : Prop where
  lv : s.lv = (List.range i).flatMap fun j => (ls.filter fun l => decide (keyL ms l = j)).map (commonP ms)
  ln : s.fl.length = ms.length
  fl : ∀ j, j < ms.length → (s.fl.getD j false = true ↔ j < i ∧ ∃ l ∈ ls, keyL ms l = j)
  ct : s.ct = s.lv.length
theorem tTo_ok (ms : List Pid) (ls : LL) : ∀ i, TOk ms ls i (tTo ms ls i)
  | 0 => ⟨rfl, by simp [tTo], fun j hj => by simp [tTo, List.getD, hj], rfl⟩
  | i + 1 => by
    have ih := tTo_ok ms ls i
    rw [tTo_succ]
    unfold tRow
    rw [tRow_eq]
    refine ⟨?_, ?_, fun j hj => ?_, ?_⟩
    · show _ ++ _ = _
      rw [ih.lv, List.range_succ, List.flatMap_append]
      simp
    · show (if _ then _ else _ : List Bool).length = _
      split
      · rw [List.length_set]; exact ih.ln
      · exact ih.ln
    · show (if _ then _ else _ : List Bool).getD j false = true ↔ _
      split
      · rename_i he
        by_cases hij : i = j
        · subst hij
          have : i < (tTo ms ls i).fl.length := by rw [ih.ln]; exact hj
          rw [List.getD_eq_getElem?_getD, List.getElem?_set_self this]
          simp only [Option.getD_some, true_iff]
          exact ⟨by omega, he⟩
        · have h1 := ih.fl j hj
          rw [List.getD_eq_getElem?_getD] at h1
          rw [List.getD_eq_getElem?_getD, List.getElem?_set_ne hij, h1]
          refine and_congr ⟨fun h => by omega, fun h => by omega⟩ Iff.rfl
      · rename_i he
        rw [ih.fl j hj]
        constructor
        · rintro ⟨a, b⟩; exact ⟨by omega, b⟩
        · rintro ⟨a, b⟩
          refine ⟨?_, b⟩
          by_cases hij : j = i
          · subst hij; exact absurd b he
          · omega
    · show _ + _ = (_ ++ _ : LL).length
      rw [List.length_append, List.length_map, ih.ct]
structure FOk (ms S : List Pid) (s : List Bool × Nat) : Prop where
  ln : s.1.length = ms.length
  fl : ∀ j (h : j < ms.length), (s.1.getD j false = true ↔ ms[j] ∈ S)
  ct : s.2 = S.length
theorem fStep_ok {ms S : List Pid} {s : List Bool × Nat} (hn : ms.Nodup) (h : FOk ms S s) {i : Nat} (hi : i < ms.length) : FOk ms (leadStep S ms[i]) (fStep s i) := by
  unfold leadStep fStep
  by_cases h3 : 3 ≤ S.length
  · rw [if_pos h3, if_neg (by have := h.ct; omega)]; exact h
  · rw [if_neg h3]
    have hf := h.fl i hi
    by_cases hm : ms[i] ∈ S
    · rw [if_pos hm, if_neg (by rw [hf.2 hm]; simp)]; exact h
    · have hff : s.1.getD i false = false := by
        cases hc : s.1.getD i false
        · rfl
        · exact absurd (hf.1 hc) hm
      rw [if_neg hm, if_pos ⟨by have := h.ct; omega, hff⟩]
      refine ⟨by rw [List.length_set]; exact h.ln, fun j hj => ?_, by show s.2 + 1 = _; rw [h.ct]; simp⟩
      by_cases hij : i = j
      · subst hij
        have : i < s.1.length := by rw [h.ln]; exact hi
        rw [List.getD_eq_getElem?_getD, List.getElem?_set_self this]
        simp
      · have h1 := h.fl j hj
        rw [List.getD_eq_getElem?_getD] at h1
        rw [List.getD_eq_getElem?_getD, List.getElem?_set_ne hij, h1, List.mem_append, List.mem_singleton]
        constructor
        · exact .inl
        · rintro (e | e)
          · exact e
          · exact absurd ((List.getElem_inj hn).1 e) (by omega)
theorem fTo_ok {ms S : List Pid} {s : List Bool × Nat} (hn : ms.Nodup) (h : FOk ms S s) : ∀ i, i ≤ ms.length → FOk ms (leadS (ms.take i) S) (fTo s i)
  | 0, _ => h
  | i + 1, hi => by
    have ih := fTo_ok hn h i (by omega)
    rw [fTo_succ]
    have e : leadS (ms.take (i + 1)) S = leadStep (leadS (ms.take i) S) (ms[i]'(by omega)) := by
      unfold leadS
      rw [List.take_succ_eq_append_getElem (by omega), List.foldl_append]; rfl
    rw [e]
    exact fStep_ok hn ih (by omega)
theorem pick_ok {S : List Pid} : ∀ (ms : List Pid) (fl : List Bool), fl.length = ms.length → (∀ j (h : j < ms.length), (fl.getD j false = true ↔ ms[j] ∈ S)) → pickL ms fl = ms.filter fun p => decide (p ∈ S)
  | [], _, _, _ => by simp [pickL]
  | p :: r, [], h, _ => by simp at h
  | p :: r, b :: s, h, hf => by
    have ih := pick_ok r s (by simpa using h) (fun j hj => by have := hf (j + 1) (by simpa using hj); simpa using this)
    have h0 := hf 0 (by simp)
    simp only [List.getD_cons_zero, List.getElem_cons_zero] at h0
    unfold pickL
    rw [ih, List.filter_cons]
    by_cases hm : p ∈ S
    · rw [if_pos (h0.2 hm), if_pos (decide_eq_true hm)]
    · rw [if_neg (fun e => hm (h0.1 e)), if_neg (by simpa using hm)]
/-- the reference's leaves and leaders -/
theorem tail_ok {ms : List Pid} {ls : LL} (h : Parts ms ls) : (tTo ms ls ms.length).lv = ordR ms ls ∧ pickL ms (fTo ((tTo ms ls ms.length).fl, (tTo ms ls ms.length).ct) ms.length).1 = leadersL ms (heads (ordR ms ls)) := by
  have h1 := tTo_ok ms ls ms.length
  have hlv : (tTo ms ls ms.length).lv = ordR ms ls := h1.lv
  refine ⟨hlv, ?_⟩
  have hlen : (heads (ordR ms ls)).length = (ordR ms ls).length := by
    have hf := h.ord_full
    generalize ordR ms ls = L at hf
    induction L with
    | nil => rfl
    | cons l r ih =>
      cases l with
      | nil => exact absurd rfl (hf _ (List.mem_cons_self ..))
      | cons p q => simp [heads, ih fun x hx => hf x (List.mem_cons_of_mem _ hx)]
  have hF : FOk ms (heads (ordR ms ls)) ((tTo ms ls ms.length).fl, (tTo ms ls ms.length).ct) := by
    refine ⟨h1.ln, fun j hj => ?_, by show (tTo ms ls ms.length).ct = _; rw [h1.ct, hlv, hlen]⟩
    refine (h1.fl j hj).trans ?_
    constructor
    · rintro ⟨-, l, hl, hk⟩
      rw [heads_fm, List.mem_filterMap]
      refine ⟨commonP ms l, h.ord_perm.mem_iff.2 (List.mem_map.2 ⟨l, hl, rfl⟩), ?_⟩
      rw [h.head hl]
      simp only [hk]
    · intro hm
      obtain ⟨c, hc, hh⟩ := heads_mem hm
      obtain ⟨l, hl, rfl⟩ := h.ord_mem hc
      rw [h.head hl] at hh
      have := (List.getElem_inj h.nd).1 (Option.some.inj hh)
      exact ⟨hj, l, hl, this⟩
  have h2 := fTo_ok h.nd hF ms.length (Nat.le_refl _)
  rw [List.take_length] at h2
  exact pick_ok ms _ h2.ln h2.fl
end Go.Proofs.Ytbpfhclcjedkcaa

namespace Go.Proofs.Ytbpfhclcjedkcaa
open Go.RowKit
/-! ### layout: Check, great, small, Fits -/
def chkL (b : Bool) : Int := if b then 0 else 1
structure BndOk (b : Bnd) : Prop where
  l : -9223372036854775808 ≤ b.least ∧ b.least ≤ 9223372036854775807
  m : -9223372036854775808 ≤ b.most ∧ b.most ≤ 9223372036854775807
structure BndBox (w : World) (g : Nat) (b : Bnd) : Prop where
  c0 : w.cell? ⟨g, 0, none⟩ = some (.int .i64 b.least)
  c1 : w.cell? ⟨g, 1, none⟩ = some (.int .i64 b.most)
  c2 : w.cell? ⟨g, 2, none⟩ = some (.int .i64 b.tmo)
theorem BndBox.lt {w : World} {g : Nat} {b : Bnd} (h : BndBox w g b) : g < w.heap.size := World.block_lt_of_cell? w _ h.c0
theorem BndBox.ext {w w' : World} {g B : Nat} {b : Bnd} (h : BndBox w g b) (hb : Below B w w') (hB : g < B) : BndBox w' g b :=
  ⟨(hb.cell (by exact hB)).trans h.c0, (hb.cell (by exact hB)).trans h.c1, (hb.cell (by exact hB)).trans h.c2⟩
theorem BndBox.made {b : Bnd} (w : World) : BndBox (w.alloc (.cells #[.int .i64 b.least, .int .i64 b.most, .int .i64 b.tmo] 117)) w.heap.size b := ⟨by simp, by simp, by simp⟩
set_option maxHeartbeats 800000 in
theorem lcheck_any {b : Bnd} {w : World} (hb : BndOk b) :
    Calls Try.prog 163 #[.agg #[.int .i64 b.least, .int .i64 b.most, .int .i64 b.tmo]] w fun e w' => e = .returned (.int .i64 (chkL (bchk b))) ∧ Below w.heap.size w w' := by
  have hB : Below w.heap.size w (w.alloc (.cells #[.int .i64 b.least, .int .i64 b.most, .int .i64 b.tmo] 117)) := (Below.refl _ _).alloc (Nat.le_refl _) _
  by_cases h1 : b.least < 1
  · have t1 : decide (b.least < 1) = true := decide_eq_true h1
    have HN : Hid (chkL (bchk b) = 1) := hid (by unfold bchk; rw [decide_eq_false (show ¬ 1 ≤ b.least by omega)]; rfl)
    clear h1
    go_enter Try.func163, Try.ntmps163
    go_wp2
    go_ret
    exact ⟨by rw [HN.out]; rfl, hB⟩
  have t1 : decide (b.least < 1) = false := decide_eq_false h1
  by_cases h2 : 8 < b.most
  · have t2 : decide (8 < b.most) = true := decide_eq_true h2
    have t3 : decide (b.most > 8) = true := decide_eq_true h2
    have HN : Hid (chkL (bchk b) = 1) := hid (by unfold bchk; rw [decide_eq_false (show ¬ b.most ≤ 8 by omega)]; simp [chkL])
    clear h1 h2
    go_enter Try.func163, Try.ntmps163
    go_wp2
    go_ret
    exact ⟨by rw [HN.out]; rfl, hB⟩
  have t2 : decide (8 < b.most) = false := decide_eq_false h2
  have t3 : decide (b.most > 8) = false := decide_eq_false h2
  have hm := hb.m
  have h0 : ((2 : Int) == 0) = false := rfl
  obtain ⟨q, hq⟩ : ∃ q, b.most.tdiv 2 = q := ⟨_, rfl⟩
  have hq2 : (0 ≤ b.most → b.most = 2 * q ∨ b.most = 2 * q + 1) ∧ (b.most < 0 → q ≤ 0) ∧ -9223372036854775808 ≤ q ∧ q ≤ 4 := by
    have e1 := Int.mul_tdiv_add_tmod b.most 2
    rw [hq] at e1
    have e2 := Int.tmod_lt_of_pos b.most (show (0 : Int) < 2 by decide)
    have e3 : -2 < b.most.tmod 2 := by
      have := Int.tmod_lt_of_pos (-b.most) (show (0 : Int) < 2 by decide)
      rw [Int.neg_tmod] at this; omega
    refine ⟨fun hp => ?_, fun hp => by omega, by omega, by omega⟩
    have := Int.tmod_nonneg 2 hp
    omega
  have hwr : IntKind.i64.wrap (b.most.tdiv 2) = q := by rw [hq, IntKind.wrap_i64] <;> omega
  by_cases h3 : q < b.least
  · have u1 : decide (q < b.least) = true := decide_eq_true h3
    have u2 : decide (b.least > q) = true := decide_eq_true h3
    have HN : Hid (chkL (bchk b) = 1) := hid (by unfold bchk; rw [decide_eq_false (show ¬ 2 * b.least ≤ b.most by omega)]; simp [chkL])
    clear h1 h2 h3 hq hq2 hm
    go_enter Try.func163, Try.ntmps163
    go_wp2
    go_ret
    exact ⟨by rw [HN.out]; rfl, hB⟩
  · have u1 : decide (q < b.least) = false := decide_eq_false h3
    have u2 : decide (b.least > q) = false := decide_eq_false h3
    have HN : Hid (chkL (bchk b) = 0) := hid (by
      unfold bchk
      have a1 : decide (1 ≤ b.least) = true := decide_eq_true (by omega)
      have a2 : decide (b.most ≤ 8) = true := decide_eq_true (by omega)
      have a3 : decide (2 * b.least ≤ b.most) = true := decide_eq_true (by omega)
      rw [a1, a2, a3]; rfl)
    clear h1 h2 h3 hq hq2 hm
    go_enter Try.func163, Try.ntmps163
    go_wp2
    go_ret
    exact ⟨by rw [HN.out]; rfl, hB⟩
set_option maxHeartbeats 800000 in
theorem lcheckR_any {b : Bnd} {w : World} (hb : BndOk b) :
    Calls Try.prog 166 #[.agg #[.int .i64 b.least, .int .i64 b.most, .int .i64 b.tmo]] w fun e w' => e = .returned (.bool (bchk b)) ∧ Below w.heap.size w w' := by
  have hB : Below w.heap.size w (w.alloc (.cells #[.int .i64 b.least, .int .i64 b.most, .int .i64 b.tmo] 117)) := (Below.refl _ _).alloc (Nat.le_refl _) _
  by_cases h1 : 1 ≤ b.least
  case neg =>
    have t1 : decide (1 ≤ b.least) = false := decide_eq_false h1
    have t2 : decide (b.least ≥ 1) = false := decide_eq_false h1
    have HN : Hid (bchk b = false) := hid (by unfold bchk; rw [t1]; rfl)
    clear h1
    go_enter Try.func166, Try.ntmps166
    go_wp2
    go_ret
    exact ⟨by rw [HN.out]; rfl, hB⟩
  have t1 : decide (1 ≤ b.least) = true := decide_eq_true h1
  have t2 : decide (b.least ≥ 1) = true := decide_eq_true h1
  by_cases h2 : b.most ≤ 8
  case neg =>
    have t3 : decide (b.most ≤ 8) = false := decide_eq_false h2
    have HN : Hid (bchk b = false) := hid (by unfold bchk; rw [t3]; simp)
    clear h1 h2
    go_enter Try.func166, Try.ntmps166
    go_wp2
    go_ret
    exact ⟨by rw [HN.out]; rfl, hB⟩
  have t3 : decide (b.most ≤ 8) = true := decide_eq_true h2
  by_cases h3 : b.least ≤ 8
  case neg =>
    have t4 : decide (b.least ≤ 8) = false := decide_eq_false h3
    have HN : Hid (bchk b = false) := hid (by unfold bchk; rw [decide_eq_false (show ¬ 2 * b.least ≤ b.most by omega)]; simp)
    clear h1 h2 h3
    go_enter Try.func166, Try.ntmps166
    go_wp2
    go_ret
    exact ⟨by rw [HN.out]; rfl, hB⟩
  have t4 : decide (b.least ≤ 8) = true := decide_eq_true h3
  have hwr : IntKind.i64.wrap (2 * b.least) = 2 * b.least := by rw [IntKind.wrap_i64] <;> omega
  obtain ⟨r, hr⟩ : ∃ r, decide (2 * b.least ≤ b.most) = r := ⟨_, rfl⟩
  have u2 : decide (b.most ≥ 2 * b.least) = r := hr
  have HN : Hid (bchk b = r) := hid (by unfold bchk; rw [t1, t3, hr]; simp)
  clear h1 h2 h3
  go_enter Try.func166, Try.ntmps166
  go_wp2
  go_ret
  exact ⟨by rw [HN.out]; rfl, hB⟩
theorem great1_any {b : Bnd} {a : Option Addr} {c g : Nat} {l : List Pid} {w : World} {r : Bool} (hr : Hid (gtL b l = r)) (hbx : BndBox w g b) :
    Calls Try.prog 225 #[.slice a l.length c, .pointer (some ⟨g, 0, none⟩)] w fun e w' => e = .returned (.bool r) ∧ w = w' := by
  have hc1 := hbx.c1
  have t1 : decide (b.most < (l.length : Int)) = r := hr.out
  have t2 : decide ((l.length : Int) > b.most) = r := hr.out
  clear hr
  go_enter Try.func225, Try.ntmps225
  go_wp2
  go_ret
  exact ⟨rfl, rfl⟩
set_option maxHeartbeats 800000 in
theorem ixF_great {b : Bnd} {a : Option Addr} {c g : Nat} {ls : LL} {w : World} (hn : ls.length ≤ 70368744177664) (hrow : LeafRow w a ls) (hbx : BndBox w g b) :
    Calls Try.prog 175 #[.slice a ls.length c, .func (.func 225) #[] #[.pointer (some ⟨g, 0, none⟩)]] w fun e w' => e = .returned (.int .i64 (fixFrom (gtL b) ls 0)) ∧ Below w.heap.size w w' := by
  have HBX := hid hbx
  go_enter Try.func175, Try.ntmps175
  go_wp2
  go_loopw [4, 8] (fun r i wr => r = .int .i64 0 ∧ ∃ k : Nat, k ≤ ls.length ∧ i = .int .i64 k ∧ Hid (fixFrom (gtL b) ls 0 = fixFrom (gtL b) (ls.drop k) k) ∧ Below w.heap.size w wr) (fun _ i _ => ls.length - (intOf i).toNat)
  case atStart => exact ⟨rfl, 0, Nat.zero_le _, rfl, rfl, Below.refl _ _⟩
  case round =>
    obtain ⟨rfl, k, hk, rfl, ha, hb⟩ := hrel
    by_cases hlt : k < ls.length
    · obtain ⟨bb, off, ai, ci, l, rfl, hx, d1, d2⟩ := hrow.at hb rfl hlt
      have hbw := HBX.out.ext hb HBX.out.lt
      obtain ⟨r, hr⟩ : ∃ r, gtL b l = r := ⟨_, rfl⟩
      have C1 := hid (great1_any (a := ai) (c := ci) (hid hr) hbw)
      have hd := fixFrom_drop (f := gtL b) hlt hx
      rw [hr] at hd
      have HD := hid hd
      clear hx hrow hr hd hbw d2 hbx
      cases r
      case true =>
        go_wp2_with (go_at_call 225; (with_reducible refine C1.out.mono ?_); rintro e w1 ⟨rfl, rfl⟩)
        go_ret
        exact ⟨ret_int (by rw [ha.out, HD.out]; simp), hb⟩
      case false =>
        go_wp2_with (go_at_call 225; (with_reducible refine C1.out.mono ?_); rintro e w1 ⟨rfl, rfl⟩)
        go_roundw
        case rel => exact ⟨rfl, k + 1, by omega, by go_num, (ha.out.trans (by rw [HD.out]; simp) : _), hb⟩
        case measure => simp [intOf]; omega
    · go_wp2
      go_ret
      exact ⟨ret_int (by rw [ha.out, fixFrom_end (by omega)]), hb⟩
theorem small1_any {b : Bnd} {a : Option Addr} {c g : Nat} {l : List Pid} {w : World} {r : Bool} (hr : Hid (ltL b l = r)) (hbx : BndBox w g b) :
    Calls Try.prog 226 #[.slice a l.length c, .pointer (some ⟨g, 0, none⟩)] w fun e w' => e = .returned (.bool r) ∧ w = w' := by
  have hc0 := hbx.c0
  have t1 : decide ((l.length : Int) < b.least) = r := hr.out
  have t2 : decide ((l.length : Int) < b.least) = r := hr.out
  clear hr
  go_enter Try.func226, Try.ntmps226
  go_wp2
  go_ret
  exact ⟨rfl, rfl⟩
set_option maxHeartbeats 800000 in
theorem ixF_small {b : Bnd} {a : Option Addr} {c g : Nat} {ls : LL} {w : World} (hn : ls.length ≤ 70368744177664) (hrow : LeafRow w a ls) (hbx : BndBox w g b) :
    Calls Try.prog 175 #[.slice a ls.length c, .func (.func 226) #[] #[.pointer (some ⟨g, 0, none⟩)]] w fun e w' => e = .returned (.int .i64 (fixFrom (ltL b) ls 0)) ∧ Below w.heap.size w w' := by
  have HBX := hid hbx
  go_enter Try.func175, Try.ntmps175
  go_wp2
  go_loopw [4, 8] (fun r i wr => r = .int .i64 0 ∧ ∃ k : Nat, k ≤ ls.length ∧ i = .int .i64 k ∧ Hid (fixFrom (ltL b) ls 0 = fixFrom (ltL b) (ls.drop k) k) ∧ Below w.heap.size w wr) (fun _ i _ => ls.length - (intOf i).toNat)
  case atStart => exact ⟨rfl, 0, Nat.zero_le _, rfl, rfl, Below.refl _ _⟩
  case round =>
    obtain ⟨rfl, k, hk, rfl, ha, hb⟩ := hrel
    by_cases hlt : k < ls.length
    · obtain ⟨bb, off, ai, ci, l, rfl, hx, d1, d2⟩ := hrow.at hb rfl hlt
      have hbw := HBX.out.ext hb HBX.out.lt
      obtain ⟨r, hr⟩ : ∃ r, ltL b l = r := ⟨_, rfl⟩
      have C1 := hid (small1_any (a := ai) (c := ci) (hid hr) hbw)
      have hd := fixFrom_drop (f := ltL b) hlt hx
      rw [hr] at hd
      have HD := hid hd
      clear hx hrow hr hd hbw d2 hbx
      cases r
      case true =>
        go_wp2_with (go_at_call 226; (with_reducible refine C1.out.mono ?_); rintro e w1 ⟨rfl, rfl⟩)
        go_ret
        exact ⟨ret_int (by rw [ha.out, HD.out]; simp), hb⟩
      case false =>
        go_wp2_with (go_at_call 226; (with_reducible refine C1.out.mono ?_); rintro e w1 ⟨rfl, rfl⟩)
        go_roundw
        case rel => exact ⟨rfl, k + 1, by omega, by go_num, (ha.out.trans (by rw [HD.out]; simp) : _), hb⟩
        case measure => simp [intOf]; omega
    · go_wp2
      go_ret
      exact ⟨ret_int (by rw [ha.out, fixFrom_end (by omega)]), hb⟩
set_option maxHeartbeats 800000 in
theorem lgreat_any {b : Bnd} {a : Option Addr} {c : Nat} {ls : LL} {w : World} (hn : ls.length ≤ 70368744177664) (hrow : LeafRow w a ls) :
    Calls Try.prog 171 #[.slice a ls.length c, .agg #[.int .i64 b.least, .int .i64 b.most, .int .i64 b.tmo]] w fun e w' => e = .returned (.int .i64 (greatL b ls)) ∧ Below w.heap.size w w' := by
  obtain ⟨W1, hW1⟩ : ∃ W1, w.alloc (.cells #[.int .i64 b.least, .int .i64 b.most, .int .i64 b.tmo] 117) = W1 := ⟨_, rfl⟩
  have hB1 : Below w.heap.size w W1 := by rw [← hW1]; exact (Below.refl _ _).alloc (Nat.le_refl _) _
  have hbx : BndBox W1 w.heap.size b := by rw [← hW1]; exact BndBox.made w
  have C1 := hid (ixF_great (c := c) hn (hrow.ext hB1) hbx)
  have HB1 := hid hB1
  clear hB1 hbx hrow
  go_enter Try.func171, Try.ntmps171
  go_wp2_with (go_at_call 175; (with_reducible refine C1.out.mono ?_); rintro e w1 ⟨rfl, hb1⟩)
  go_ret
  exact ⟨rfl, HB1.out.trans (hb1.mono HB1.out.size)⟩
set_option maxHeartbeats 800000 in
theorem lsmall_any {b : Bnd} {a : Option Addr} {c : Nat} {ls : LL} {w : World} (hn : ls.length ≤ 70368744177664) (hrow : LeafRow w a ls) :
    Calls Try.prog 172 #[.slice a ls.length c, .agg #[.int .i64 b.least, .int .i64 b.most, .int .i64 b.tmo]] w fun e w' => e = .returned (.int .i64 (smallL b ls)) ∧ Below w.heap.size w w' := by
  obtain ⟨W1, hW1⟩ : ∃ W1, w.alloc (.cells #[.int .i64 b.least, .int .i64 b.most, .int .i64 b.tmo] 117) = W1 := ⟨_, rfl⟩
  have hB1 : Below w.heap.size w W1 := by rw [← hW1]; exact (Below.refl _ _).alloc (Nat.le_refl _) _
  have hbx : BndBox W1 w.heap.size b := by rw [← hW1]; exact BndBox.made w
  have C1 := hid (ixF_small (c := c) hn (hrow.ext hB1) hbx)
  have HB1 := hid hB1
  clear hB1 hbx hrow
  by_cases h2 : ls.length < 2
  · have t1 : decide (ls.length < 2) = true := decide_eq_true h2
    have t2 : decide ((ls.length : Int) < 2) = true := decide_eq_true (by omega)
    have HE : Hid (smallL b ls = -1) := hid (by unfold smallL; rw [if_pos h2])
    clear h2
    go_enter Try.func172, Try.ntmps172
    go_wp2
    go_ret
    exact ⟨by rw [HE.out]; rfl, HB1.out⟩
  · have t1 : decide (ls.length < 2) = false := decide_eq_false h2
    have t2 : decide ((ls.length : Int) < 2) = false := decide_eq_false (by omega)
    have HE : Hid (smallL b ls = fixFrom (ltL b) ls 0) := hid (by unfold smallL; rw [if_neg h2])
    clear h2
    go_enter Try.func172, Try.ntmps172
    go_wp2_with (go_at_call 175; (with_reducible refine C1.out.mono ?_); rintro e w1 ⟨rfl, hb1⟩)
    go_ret
    exact ⟨by rw [HE.out]; rfl, HB1.out.trans (hb1.mono HB1.out.size)⟩
end Go.Proofs.Ytbpfhclcjedkcaa

namespace Go.Proofs.Ytbpfhclcjedkcaa
open Go.RowKit
/-! ### the reference's great, small, fewest; layout.fewest -/
theorem LeafRow.at2 {w : World} {b off : Nat} {ls : LL} (h : LeafRow w (some ⟨b, off, none⟩) ls) {k : Nat} (hk : k < ls.length) :
    ∃ ai ci l, l = ls[k] ∧ w.cell? ⟨b, off + k, none⟩ = some (.slice ai l.length ci) ∧ PidRow w ai l := by
  obtain ⟨b', off', ai, ci, l, e, h1, h2, h3⟩ := h.at (Below.refl _ _) rfl hk
  cases e
  exact ⟨ai, ci, l, h1, h2, h3⟩
set_option maxRecDepth 100000 in
set_option maxHeartbeats 3200000 in
theorem greatR_any {b : Bnd} {a : Option Addr} {c : Nat} {ls : LL} {w : World} (hn : ls.length ≤ 70368744177664) (hrow : LeafRow w a ls) :
    Calls Try.prog 221 #[.slice a ls.length c, .agg #[.int .i64 b.least, .int .i64 b.most, .int .i64 b.tmo]] w fun e w' => e = .returned (.int .i64 (greatL b ls)) ∧ Below w.heap.size w w' := by
  obtain ⟨W1, hW1⟩ : ∃ W1, w.alloc (.cells #[.int .i64 b.least, .int .i64 b.most, .int .i64 b.tmo] 117) = W1 := ⟨_, rfl⟩
  have hB1 : Below w.heap.size w W1 := by rw [← hW1]; exact (Below.refl _ _).alloc (Nat.le_refl _) _
  have hbx : BndBox W1 w.heap.size b := by rw [← hW1]; exact BndBox.made w
  have hrow1 := hrow.ext hB1
  have HBX := hid hbx
  have HB1 := hid hB1
  clear hB1 hbx hrow
  go_enter Try.func221, Try.ntmps221
  go_wp2
  go_loopw [4, 5] (fun r i wr => r = .int .i64 0 ∧ ∃ k : Nat, k ≤ ls.length ∧ i = .int .i64 k ∧ Hid (fixFrom (gtL b) ls 0 = fixFrom (gtL b) (ls.drop k) k) ∧ Below W1.heap.size W1 wr) (fun _ i _ => ls.length - (intOf i).toNat)
  case atStart => exact ⟨rfl, 0, Nat.zero_le _, rfl, rfl, Below.refl _ _⟩
  case round =>
    obtain ⟨rfl, k, hk, rfl, ha, hb⟩ := hrel
    by_cases hlt : k < ls.length
    · obtain ⟨bb, off, ai, ci, l, rfl, hx, d1, -⟩ := hrow1.at hb rfl hlt
      have c1 := (HBX.out.ext hb HBX.out.lt).c1
      obtain ⟨r, hr⟩ : ∃ r, gtL b l = r := ⟨_, rfl⟩
      have f1 : decide (b.most < (l.length : Int)) = r := hr
      have f2 : decide ((l.length : Int) > b.most) = r := hr
      have hd := fixFrom_drop (f := gtL b) hlt hx
      rw [hr] at hd
      have HD := hid hd
      have q1 := cell_extw d1
      have q2 := cell_extw c1
      clear hx hr hd d1 c1
      cases r
      case true =>
        go_wp2
        refine wp_region_ext (Below.refl _ _) (by kernel_rfl) (by kernel_rfl) ?_
        repeat (go_big_quiet_step (fail))
        refine wpQuiet_nil ?_
        rintro _ ⟨⟨w9, hb9⟩, rfl⟩
        go_wp2
        go_ret
        exact ⟨ret_int (by show _ = fixFrom (gtL b) ls 0; rw [ha.out, HD.out]; simp), HB1.out.trans ((hb.trans (hb9.mono hb.size)).mono HB1.out.size)⟩
      case false =>
        go_wp2
        refine wp_region_ext (Below.refl _ _) (by kernel_rfl) (by kernel_rfl) ?_
        repeat (go_big_quiet_step (fail))
        refine wpQuiet_nil ?_
        rintro _ ⟨⟨w9, hb9⟩, rfl⟩
        go_wp2
        go_roundw
        case rel => exact ⟨rfl, k + 1, by omega, by go_num, (ha.out.trans (by rw [HD.out]; simp) : _), hb.trans (hb9.mono hb.size)⟩
        case measure => simp [intOf]; omega
    · go_wp2
      go_ret
      exact ⟨ret_int (by show _ = fixFrom (gtL b) ls 0; rw [ha.out, fixFrom_end (by omega)]), HB1.out.trans (hb.mono HB1.out.size)⟩
set_option maxRecDepth 100000 in
set_option maxHeartbeats 3200000 in
theorem smallR_any {b : Bnd} {a : Option Addr} {c : Nat} {ls : LL} {w : World} (hn : ls.length ≤ 70368744177664) (hrow : LeafRow w a ls) :
    Calls Try.prog 222 #[.slice a ls.length c, .agg #[.int .i64 b.least, .int .i64 b.most, .int .i64 b.tmo]] w fun e w' => e = .returned (.int .i64 (smallL b ls)) ∧ Below w.heap.size w w' := by
  obtain ⟨W1, hW1⟩ : ∃ W1, w.alloc (.cells #[.int .i64 b.least, .int .i64 b.most, .int .i64 b.tmo] 117) = W1 := ⟨_, rfl⟩
  have hB1 : Below w.heap.size w W1 := by rw [← hW1]; exact (Below.refl _ _).alloc (Nat.le_refl _) _
  have hbx : BndBox W1 w.heap.size b := by rw [← hW1]; exact BndBox.made w
  have hrow1 := hrow.ext hB1
  have HBX := hid hbx
  have HB1 := hid hB1
  clear hB1 hbx hrow
  by_cases h2 : ls.length < 2
  · have HE : Hid (smallL b ls = -1) := hid (by unfold smallL; rw [if_pos h2])
    have t1 : decide (1 < ls.length) = false := decide_eq_false (by omega)
    have t2 : decide ((1 : Int) < (ls.length : Int)) = false := decide_eq_false (by omega)
    have t3 : decide ((ls.length : Int) > 1) = false := decide_eq_false (by omega)
    go_enter Try.func222, Try.ntmps222
    go_wp2
    go_loopw [4, 5] (fun r i wr => r = .int .i64 0 ∧ i = .int .i64 0 ∧ wr = W1) (fun _ _ _ => 0)
    case atStart => exact ⟨rfl, rfl, rfl⟩
    case round =>
      obtain ⟨rfl, rfl, rfl⟩ := hrel
      by_cases h0 : ls.length = 0
      · have s1 : decide (0 < ls.length) = false := decide_eq_false (by omega)
        have s2 : decide ((0 : Int) < (ls.length : Int)) = false := decide_eq_false (by omega)
        have H2 := hid h2
        have H0 := hid h0
        clear h0 h2
        go_wp2
        go_ret
        exact ⟨by rw [HE.out]; rfl, HB1.out⟩
      · have s1 : decide (0 < ls.length) = true := decide_eq_true (by omega)
        have s2 : decide ((0 : Int) < (ls.length : Int)) = true := decide_eq_true (by omega)
        have H2 := hid h2
        have H0 := hid h0
        clear h0 h2
        go_wp2
        go_ret
        exact ⟨by rw [HE.out]; rfl, HB1.out⟩
  have HE : Hid (smallL b ls = fixFrom (ltL b) ls 0) := hid (by unfold smallL; rw [if_neg h2])
  have t1 : decide (1 < ls.length) = true := decide_eq_true (by omega)
  have t2 : decide ((1 : Int) < (ls.length : Int)) = true := decide_eq_true (by omega)
  have t3 : decide ((ls.length : Int) > 1) = true := decide_eq_true (by omega)
  clear h2
  go_enter Try.func222, Try.ntmps222
  go_wp2
  go_loopw [4, 5] (fun r i wr => r = .int .i64 0 ∧ ∃ k : Nat, k ≤ ls.length ∧ i = .int .i64 k ∧ Hid (fixFrom (ltL b) ls 0 = fixFrom (ltL b) (ls.drop k) k) ∧ Below W1.heap.size W1 wr) (fun _ i _ => ls.length - (intOf i).toNat)
  case atStart => exact ⟨rfl, 0, Nat.zero_le _, rfl, rfl, Below.refl _ _⟩
  case round =>
    obtain ⟨rfl, k, hk, rfl, ha, hb⟩ := hrel
    by_cases hlt : k < ls.length
    · obtain ⟨bb, off, ai, ci, l, rfl, hx, d1, -⟩ := hrow1.at hb rfl hlt
      have c0 := (HBX.out.ext hb HBX.out.lt).c0
      obtain ⟨r, hr⟩ : ∃ r, ltL b l = r := ⟨_, rfl⟩
      have f1 : decide ((l.length : Int) < b.least) = r := hr
      have f2 : decide ((l.length : Int) < b.least) = r := hr
      have hd := fixFrom_drop (f := ltL b) hlt hx
      rw [hr] at hd
      have HD := hid hd
      have q1 := cell_extw d1
      have q2 := cell_extw c0
      clear hx hr hd d1 c0
      cases r
      case true =>
        go_wp2
        refine wp_region_ext (Below.refl _ _) (by kernel_rfl) (by kernel_rfl) ?_
        repeat (go_big_quiet_step (fail))
        refine wpQuiet_nil ?_
        rintro _ ⟨⟨w9, hb9⟩, rfl⟩
        go_wp2
        go_ret
        exact ⟨ret_int (by rw [HE.out]; rw [ha.out, HD.out]; simp), HB1.out.trans ((hb.trans (hb9.mono hb.size)).mono HB1.out.size)⟩
      case false =>
        go_wp2
        refine wp_region_ext (Below.refl _ _) (by kernel_rfl) (by kernel_rfl) ?_
        repeat (go_big_quiet_step (fail))
        refine wpQuiet_nil ?_
        rintro _ ⟨⟨w9, hb9⟩, rfl⟩
        go_wp2
        go_roundw
        case rel => exact ⟨rfl, k + 1, by omega, by go_num, (ha.out.trans (by rw [HD.out]; simp) : _), hb.trans (hb9.mono hb.size)⟩
        case measure => simp [intOf]; omega
    · go_wp2
      go_ret
      exact ⟨ret_int (by rw [HE.out]; rw [ha.out, fixFrom_end (by omega)]), HB1.out.trans (hb.mono HB1.out.size)⟩
set_option maxRecDepth 100000 in
set_option maxHeartbeats 6400000 in
theorem fewestR_any {a : Option Addr} {c : Nat} {ls : LL} {but : Int} {w : World} (hn : ls.length ≤ 70368744177664) (hrow : LeafRow w a ls) :
    Calls Try.prog 220 #[.slice a ls.length c, .int .i64 but] w fun e w' => e = .returned (.int .i64 (fewL ls but)) ∧ Below w.heap.size w w' := by
  go_enter Try.func220, Try.ntmps220
  go_wp2
  go_loopw [5, 6] (fun z i wr => ∃ k : Nat, k ≤ ls.length ∧ z = .int .i64 (fewTo ls but k) ∧ i = .int .i64 k ∧ Below w.heap.size w wr) (fun _ i _ => ls.length - (intOf i).toNat)
  case atStart => exact ⟨0, Nat.zero_le _, rfl, rfl, Below.refl _ _⟩
  case round =>
    obtain ⟨k, hk, rfl, rfl, hb⟩ := hrel
    by_cases hlt : k < ls.length
    · obtain ⟨bb, off, ai, ci, l, rfl, hx, d1, -⟩ := hrow.at hb rfl hlt
      have hlk : lenAt ls k = l.length := by unfold lenAt; rw [hx]; simp [List.getD, hlt]
      have hrw := hrow.ext hb
      have hstep : fewTo ls but (k + 1) = fewStep ls but (fewTo ls but k) k := rfl
      have hcase := fewTo_is ls but k
      obtain ⟨z, hz⟩ : ∃ z, fewTo ls but k = z := ⟨_, rfl⟩
      rw [hz] at hstep hcase
      rw [hz]
      have q1 := cell_extw d1
      by_cases hkb : (k : Int) = but
      · have e1 : ((k : Int) != but) = false := by rw [hkb]; exact bne_self_eq_false _
        have HV : Hid (fewTo ls but (k + 1) = z) := hid (by rw [hstep]; unfold fewStep; rw [if_neg (fun h => h.1 hkb)])
        clear hkb hstep hcase hz hx d1 hlk hrw
        go_wp2
        refine wp_region_ext (Below.refl _ _) (by kernel_rfl) (by kernel_rfl) ?_
        repeat (go_big_quiet_step (fail))
        refine wpQuiet_nil ?_
        rintro _ ⟨⟨w9, hb9⟩, rfl⟩
        go_wp2
        go_roundw
        case rel => exact ⟨k + 1, by omega, by rw [HV.out], by go_num, hb.trans (hb9.mono hb.size)⟩
        case measure => simp [intOf]; omega
      have e1 : ((k : Int) != but) = true := by simpa using hkb
      by_cases hz0 : z < 0
      · have z1 : decide (z < 0) = true := decide_eq_true hz0
        have HV : Hid (fewTo ls but (k + 1) = (k : Int)) := hid (by rw [hstep]; unfold fewStep; rw [if_pos ⟨hkb, .inl hz0⟩])
        clear hkb hstep hcase hz hx d1 hlk hrw hz0
        go_wp2
        refine wp_region_ext (Below.refl _ _) (by kernel_rfl) (by kernel_rfl) ?_
        repeat (go_big_quiet_step (fail))
        refine wpQuiet_nil ?_
        rintro _ ⟨⟨w9, hb9⟩, rfl⟩
        go_wp2
        go_roundw
        case rel => exact ⟨k + 1, by omega, by rw [HV.out], by go_num, hb.trans (hb9.mono hb.size)⟩
        case measure => simp [intOf]; omega
      have z1 : decide (z < 0) = false := decide_eq_false hz0
      obtain ⟨j, hj1, hj2⟩ : ∃ j : Nat, j < k ∧ z = (j : Int) := by
        rcases hcase with ⟨h1, -⟩ | ⟨j, h1, h2, -⟩
        · omega
        · exact ⟨j, h1, h2⟩
      subst hj2
      obtain ⟨aj, cj, lj, hxj, dj, -⟩ := hrw.at2 (k := j) (by omega)
      have hlj : lenAt ls j = lj.length := by unfold lenAt; rw [hxj]; simp [List.getD, show j < ls.length by omega]
      have q2 := cell_extw dj
      have hjl : j < ls.length := by omega
      by_cases hc : l.length < lj.length
      · have s1 : decide (l.length < lj.length) = true := decide_eq_true hc
        have s2 : decide ((l.length : Int) < (lj.length : Int)) = true := decide_eq_true (by omega)
        have HV : Hid (fewTo ls but (k + 1) = (k : Int)) := hid (by rw [hstep]; unfold fewStep; rw [if_pos ⟨hkb, .inr (by rw [Int.toNat_natCast, hlk, hlj]; exact hc)⟩])
        clear hkb hstep hcase hz hx d1 hlk hrw hz0 hc hxj dj hlj
        go_wp2
        refine wp_region_ext (Below.refl _ _) (by kernel_rfl) (by kernel_rfl) ?_
        repeat (go_big_quiet_step (fail))
        refine wpQuiet_nil ?_
        rintro _ ⟨⟨w9, hb9⟩, rfl⟩
        go_wp2
        go_roundw
        case rel => exact ⟨k + 1, by omega, by rw [HV.out], by go_num, hb.trans (hb9.mono hb.size)⟩
        case measure => simp [intOf]; omega
      · have s1 : decide (l.length < lj.length) = false := decide_eq_false hc
        have s2 : decide ((l.length : Int) < (lj.length : Int)) = false := decide_eq_false (by omega)
        have HV : Hid (fewTo ls but (k + 1) = (j : Int)) := hid (by
          rw [hstep]; unfold fewStep
          rw [if_neg]
          rintro ⟨-, h⟩
          rw [Int.toNat_natCast, hlk, hlj] at h
          rcases h with h | h <;> omega)
        clear hkb hstep hcase hz hx d1 hlk hrw hz0 hc hxj dj hlj
        go_wp2
        refine wp_region_ext (Below.refl _ _) (by kernel_rfl) (by kernel_rfl) ?_
        repeat (go_big_quiet_step (fail))
        refine wpQuiet_nil ?_
        rintro _ ⟨⟨w9, hb9⟩, rfl⟩
        go_wp2
        go_roundw
        case rel => exact ⟨k + 1, by omega, by rw [HV.out], by go_num, hb.trans (hb9.mono hb.size)⟩
        case measure => simp [intOf]; omega
    · go_wp2
      go_ret
      have : k = ls.length := by omega
      exact ⟨ret_int (by rw [this]; rfl), hb⟩
theorem fewest1_any {a b : Option Addr} {c d n m : Nat} {w : World} {r : Bool} (hr : Hid (decide (n < m) = r)) :
    Calls Try.prog 238 #[.slice a n c, .slice b m d] w fun e w' => e = .returned (.bool r) ∧ w = w' := by
  have t1 : decide ((n : Int) < (m : Int)) = r := by rw [← hr.out]; congr 1; simp
  have t2 : decide (n < m) = r := hr.out
  clear hr
  go_enter Try.func238, Try.ntmps238
  go_wp2
  go_ret
  exact ⟨rfl, rfl⟩
set_option maxRecDepth 100000 in
set_option maxHeartbeats 6400000 in
theorem best_any {a : Option Addr} {c : Nat} {ls : LL} {w : World} (hn : ls.length ≤ 70368744177664) (hrow : LeafRow w a ls) :
    Calls Try.prog 237 #[.slice a ls.length c, .func (.func 238) #[] #[]] w fun e w' => e = .returned (.int .i64 (fewL ls (-1))) ∧ w = w' := by
  go_enter Try.func237, Try.ntmps237
  go_wp2
  go_loopw [5, 10] (fun z i wr => ∃ k : Nat, k ≤ ls.length ∧ z = .int .i64 (fewTo ls (-1) k) ∧ i = .int .i64 k ∧ wr = w) (fun _ i _ => ls.length - (intOf i).toNat)
  case atStart => exact ⟨0, Nat.zero_le _, rfl, rfl, rfl⟩
  case round =>
    obtain ⟨k, hk, rfl, rfl, rfl⟩ := hrel
    by_cases hlt : k < ls.length
    · obtain ⟨bb, off, ai, ci, l, rfl, hx, d1, -⟩ := hrow.at (Below.refl _ _) rfl hlt
      have hlk : lenAt ls k = l.length := by unfold lenAt; rw [hx]; simp [List.getD, hlt]
      have hstep : fewTo ls (-1) (k + 1) = fewStep ls (-1) (fewTo ls (-1) k) k := rfl
      have hcase := fewTo_is ls (-1) k
      obtain ⟨z, hz⟩ : ∃ z, fewTo ls (-1) k = z := ⟨_, rfl⟩
      rw [hz] at hstep hcase
      rw [hz]
      have hkb : ¬ (k : Int) = -1 := by omega
      by_cases hz0 : z < 0
      · have z1 : decide (z < 0) = true := decide_eq_true hz0
        have HV : Hid (fewTo ls (-1) (k + 1) = (k : Int)) := hid (by rw [hstep]; unfold fewStep; rw [if_pos ⟨hkb, .inl hz0⟩])
        clear hkb hstep hcase hz hx hlk hz0
        go_wp2
        go_roundw
        case rel => exact ⟨k + 1, by omega, by rw [HV.out], by go_num, trivial⟩
        case measure => simp [intOf]; omega
      have z1 : decide (z < 0) = false := decide_eq_false hz0
      obtain ⟨j, hj1, hj2⟩ : ∃ j : Nat, j < k ∧ z = (j : Int) := by
        rcases hcase with ⟨h1, -⟩ | ⟨j, h1, h2, -⟩
        · omega
        · exact ⟨j, h1, h2⟩
      subst hj2
      obtain ⟨aj, cj, lj, hxj, dj, -⟩ := hrow.at2 (k := j) (by omega)
      have hlj : lenAt ls j = lj.length := by unfold lenAt; rw [hxj]; simp [List.getD, show j < ls.length by omega]
      have hjl : j < ls.length := by omega
      obtain ⟨r, hr⟩ : ∃ r, decide (l.length < lj.length) = r := ⟨_, rfl⟩
      have HV : Hid (fewTo ls (-1) (k + 1) = if r = true then (k : Int) else (j : Int)) := hid (by
        rw [hstep]; unfold fewStep
        rw [Int.toNat_natCast, hlk, hlj, ← hr]
        by_cases hc : l.length < lj.length
        · rw [if_pos ⟨hkb, .inr hc⟩, if_pos (decide_eq_true hc)]
        · rw [if_neg (by rintro ⟨-, h | h⟩ <;> omega), if_neg (by simpa using hc)])
      have C1 := fun (W : World) => fewest1_any (a := ai) (b := aj) (c := ci) (d := cj) (w := W) (hid hr)
      have HC := hid C1
      clear C1 hkb hstep hcase hz hx hlk hz0 hr hxj hlj
      cases r
      case true =>
        go_wp2_with (go_at_call 238; (with_reducible refine (HC.out _).mono ?_); rintro e wz ⟨rfl, rfl⟩)
        go_roundw
        case rel => exact ⟨k + 1, by omega, by rw [HV.out]; rfl, by go_num, trivial⟩
        case measure => simp [intOf]; omega
      case false =>
        go_wp2_with (go_at_call 238; (with_reducible refine (HC.out _).mono ?_); rintro e wz ⟨rfl, rfl⟩)
        go_roundw
        case rel => exact ⟨k + 1, by omega, by rw [HV.out]; rfl, by go_num, trivial⟩
        case measure => simp [intOf]; omega
    · go_wp2
      go_ret
      have : k = ls.length := by omega
      exact ⟨ret_int (by rw [this]; rfl), rfl⟩
theorem fewest_any {a : Option Addr} {c : Nat} {ls : LL} {w : World} (hn : ls.length ≤ 70368744177664) (hrow : LeafRow w a ls) :
    Calls Try.prog 216 #[.slice a ls.length c] w fun e w' => e = .returned (.int .i64 (fewL ls (-1))) ∧ w = w' := by
  have C1 := hid (best_any (c := c) hn hrow)
  clear hrow
  go_enter Try.func216, Try.ntmps216
  go_wp2_with (go_at_call 237; (with_reducible refine C1.out.mono ?_); rintro e w1 ⟨rfl, rfl⟩)
  go_ret
  exact ⟨rfl, rfl⟩
end Go.Proofs.Ytbpfhclcjedkcaa

/- The contract of the library at this program: the numbers, and a field a fact. Printed by the kit. -/
namespace Go.Proofs
open Go.Shelf
def Try.delLeaf_ren : Go.Shelf.Ren := ⟨fun | 45 => 256 | n => n, fun | 22 => 31 | 23 => 30 | 3 => 3 | 4 => 4 | 0 => 0 | n => n, fun | n => n⟩
theorem Try.delLeaf : Go.Proofs.SlLaysE.n45 Try.prog Try.delLeaf_ren := {
  mixed := by kernel_rfl
  f45 := ⟨Try.f256.name, by decide, Try.func256.trans (congrArg some (by kernel_rfl))⟩
  t0 := Try.underlying0
  a0 := Try.isAgg0
  z0 := Try.sizeOf0
  v0 := Try.zeroValue0
  t3 := Try.underlying3
  a3 := Try.isAgg3
  z3 := Try.sizeOf3
  v3 := Try.zeroValue3
  t4 := Try.underlying4
  a4 := Try.isAgg4
  z4 := Try.sizeOf4
  v4 := Try.zeroValue4
  t22 := Try.underlying31
  a22 := Try.isAgg31
  z22 := Try.sizeOf31
  v22 := Try.zeroValue31
  a23 := Try.isAgg30
  z23 := Try.sizeOf30 }
end Go.Proofs

namespace Go.Proofs.Ytbpfhclcjedkcaa
open Go.RowKit
/-! ### leaves: an own row of slices, each an own row of processes, each in a block of its own -/
abbrev Sl := Option Addr × Nat × Nat
def encS (s : Sl) : Value := .slice s.1 s.2.1 s.2.2
theorem encS_one {cs : List Sl} : ∀ u ∈ cs.map encS, u.oneCell' = true := by
  intro u hu
  obtain ⟨s, -, rfl⟩ := List.mem_map.1 hu
  rfl
def blkS (s : Sl) : Option Nat := s.1.map (·.block)
theorem own_encS (s : Sl) : (encS s).ownBlock = blkS s := by
  obtain ⟨a, n, c⟩ := s
  cases a <;> rfl
structure LLs (w : World) (base : Nat) (v : Value) (cs : List Sl) (ls : LL) : Prop where
  own : w.ownsRow base 30 1 v ls.length (cs.map encS)
  el : ∀ i (h : i < ls.length), ∃ s, cs[i]? = some s ∧ OwnP w base (encS s) ls[i]
  out : ∀ s ∈ cs, ∀ g, blkS s = some g → v.ownBlock ≠ some g
  apart : cs.Pairwise fun a b => ∀ g, blkS a = some g → blkS b ≠ some g
theorem LLs.len {w : World} {base : Nat} {v : Value} {cs : List Sl} {ls : LL} (h : LLs w base v cs ls) : cs.length = ls.length := by
  have := h.own.1
  simpa using this
theorem LLs.nil (w : World) (base : Nat) : LLs w base (.slice none 0 0) [] [] := ⟨World.ownsRow_nil _ _ _ _, fun i h => by simp at h, by simp, List.Pairwise.nil⟩
theorem LLs.toOwnLL {w : World} {base : Nat} {v : Value} {cs : List Sl} {ls : LL} (h : LLs w base v cs ls) : OwnLL w base v ls := by
  refine ⟨cs.map encS, h.own, fun i hi => ?_⟩
  obtain ⟨s, h1, h2⟩ := h.el i hi
  refine ⟨encS s, by rw [List.getElem?_map, h1]; rfl, h2, fun g hg => ?_⟩
  rw [own_encS] at hg
  exact h.out s (List.mem_of_getElem? h1) g hg
theorem LLs.row {w : World} {base : Nat} {v : Value} {cs : List Sl} {ls : LL} (h : LLs w base v cs ls) : ∃ a c, v = .slice a ls.length c ∧ LeafRow w a ls := h.toOwnLL.row
theorem LLs.blk {w : World} {base : Nat} {v : Value} {cs : List Sl} {ls : LL} (h : LLs w base v cs ls) {g : Nat} (hg : v.ownBlock = some g) : base ≤ g ∧ g < w.heap.size := h.toOwnLL.blk hg
theorem ownsRow_mut {G : Nat → Prop} {w w' : World} {base n k : Nat} {e : TypeId} {v : Value} {xs : List Value} (h : w.ownsRow base e k v n xs) (hm : Mut G w w') (hG : ∀ g, v.ownBlock = some g → ¬ G g) : w'.ownsRow base e k v n xs := by
  refine ⟨h.1, ?_⟩
  rcases h.2 with hn | ⟨g, cap, cur, rfl, hbb, hgg, rest⟩
  · exact .inl hn
  · exact .inr ⟨g, cap, cur, rfl, hbb, (hm.block g (Array.getElem?_eq_some_iff.1 hgg).1 (hG g rfl)).trans hgg, rest⟩
theorem LLs.mutN {G : Nat → Prop} {w w' : World} {base : Nat} {v : Value} {cs : List Sl} {ls : LL} (h : LLs w base v cs ls) (hm : Mut G w w') (hv : ∀ g, v.ownBlock = some g → ¬ G g) (hc : ∀ s ∈ cs, ∀ g, blkS s = some g → ¬ G g) : LLs w' base v cs ls :=
  ⟨ownsRow_mut h.own hm hv, fun i hi => by
    obtain ⟨s, h1, h2⟩ := h.el i hi
    exact ⟨s, h1, h2.mutN hm (fun g hg => hc s (List.mem_of_getElem? h1) g (by rw [← own_encS]; exact hg))⟩, h.out, h.apart⟩
theorem LLs.elB {w : World} {base : Nat} {v : Value} {cs : List Sl} {ls : LL} (h : LLs w base v cs ls) {s : Sl} (hs : s ∈ cs) {g : Nat} (hg : blkS s = some g) : base ≤ g ∧ g < w.heap.size := by
  obtain ⟨i, hi, e⟩ := List.mem_iff_getElem.1 hs
  obtain ⟨s', h1, h2⟩ := h.el i (by rw [← h.len]; exact hi)
  have : s' = s := by rw [List.getElem?_eq_getElem hi] at h1; cases h1; exact e
  subst this
  exact h2.blk (by rw [own_encS]; exact hg)
theorem LLs.mutT {G : Nat → Prop} {w w' : World} {base : Nat} {v : Value} {cs : List Sl} {ls : LL} (h : LLs w base v cs ls) (hm : Mut G w w') (hG : ∀ k, G k → k < base) : LLs w' base v cs ls :=
  h.mutN hm (fun g hg hk => by have := (h.blk hg).1; have := hG g hk; omega) (fun s hs g hg hk => by have := (h.elB hs hg).1; have := hG g hk; omega)
theorem LLs.ext {w w' : World} {base : Nat} {v : Value} {cs : List Sl} {ls : LL} (h : LLs w base v cs ls) (hb : Below w.heap.size w w') : LLs w' base v cs ls :=
  h.mutN (G := fun _ => False) (Mut.of_below hb) (fun _ _ e => e) (fun _ _ _ _ e => e)
theorem LLs.mono {w : World} {b b' : Nat} {v : Value} {cs : List Sl} {ls : LL} (h : LLs w b v cs ls) (hb : b' ≤ b) : LLs w b' v cs ls := by
  refine ⟨⟨h.own.1, ?_⟩, fun i hi => ?_, h.out, h.apart⟩
  · rcases h.own.2 with hn | ⟨g, cap, cur, rfl, hbb, rest⟩
    · exact .inl hn
    · exact .inr ⟨g, cap, cur, rfl, by omega, rest⟩
  · obtain ⟨s, h1, h2⟩ := h.el i hi
    exact ⟨s, h1, h2.mono2 hb⟩
/-- the k-th leaf -/
theorem LLs.get {w : World} {base : Nat} {v : Value} {cs : List Sl} {ls : LL} (h : LLs w base v cs ls) {k : Nat} (hk : k < ls.length) :
    ∃ g cap s, v = .slice (some ⟨g, 0, none⟩) ls.length cap ∧ ls.length ≤ cap ∧ base ≤ g ∧ g < w.heap.size ∧ cs[k]? = some s ∧ w.cell? ⟨g, k, none⟩ = some (encS s) ∧ w.frozen? ⟨g, k, none⟩ = false ∧ OwnP w base (encS s) ls[k] ∧ blkS s ≠ some g := by
  obtain ⟨s, h1, h2⟩ := h.el k hk
  have hcells := fun g => World.ownsRow.cells (g := g) h.own
  rcases h.own.2 with ⟨rfl, hn⟩ | ⟨g, cap, cur, rfl, hb, hg, hnc, hcm, hcs, htake⟩
  · omega
  · have hlt : g < w.heap.size := (Array.getElem?_eq_some_iff.1 hg).1
    refine ⟨g, cap, s, rfl, hnc, hb, hlt, h1, ?_, by simp [World.frozen?, hg], h2, fun e => h.out s (List.mem_of_getElem? h1) g e rfl⟩
    have := hcells g rfl k (encS s) (by rw [List.getElem?_map, h1]; rfl)
    rw [addr_add] at this
    simpa using this
/-- a leaf is put anew: its row lies in its old block, or in a new one -/
theorem LLs.put {w w1 : World} {base g k cap : Nat} {cs : List Sl} {ls : LL} {s s' : Sl} {l' : List Pid} (h : LLs w base (.slice (some ⟨g, 0, none⟩) ls.length cap) cs ls) (hk : k < ls.length) (hs : cs[k]? = some s) (hm : Mut (fun b => blkS s = some b) w w1) (hnew : OwnP w1 base (encS s') l') (hb : ∀ q, blkS s' = some q → blkS s = some q ∨ w.heap.size ≤ q) :
    LLs (w1.setCell ⟨g, k, none⟩ (encS s')) base (.slice (some ⟨g, 0, none⟩) ls.length cap) (cs.set k s') (ls.set k l') := by
  have hkc : k < cs.length := by rw [h.len]; exact hk
  have hsk : cs[k] = s := by rw [List.getElem?_eq_getElem hkc] at hs; cases hs; rfl
  have hsm : s ∈ cs := List.mem_of_getElem? hs
  have hgs : blkS s ≠ some g := fun e => h.out s hsm g e rfl
  have hglt := (h.blk (g := g) rfl).2
  have hset : Mut (fun b => b = g) w1 (w1.setCell ⟨g, k, none⟩ (encS s')) := mut1
  have hapart : ∀ i (hi : i < cs.length), i ≠ k → ∀ q, blkS cs[i] = some q → blkS s ≠ some q := by
    intro i hi hik q hq e
    rcases Nat.lt_or_gt_of_ne hik with hlt | hlt
    · have := List.pairwise_iff_getElem.1 h.apart i k hi hkc hlt q hq
      rw [hsk] at this; exact this e
    · have := List.pairwise_iff_getElem.1 h.apart k i hkc hi hlt q (by rw [hsk]; exact e)
      exact this hq
  have hapart' : ∀ i (hi : i < cs.length), i ≠ k → ∀ q, blkS cs[i] = some q → blkS s' ≠ some q := by
    intro i hi hik q hq e
    rcases hb q e with h1 | h1
    · exact hapart i hi hik q hq h1
    · have := (h.elB (List.getElem_mem hi) hq).2; omega
  have hown := ownsRow_mut h.own hm (fun q hq e => hgs (by simp [Value.ownBlock] at hq; rw [hq]; exact e))
  refine ⟨⟨by simp; exact h.len, ?_⟩, fun i hi => ?_, fun u hu q hq => ?_, ?_⟩
  · rcases hown.2 with ⟨e, -⟩ | ⟨g', cap', cur, e, hbb, hgg, hnc, hcm, hcs, htake⟩
    · cases e
    · cases e
      refine .inr ⟨g, cap, cur.setIfInBounds k (encS s'), by rw [List.length_set], hbb, ?_, by rw [List.length_set]; exact hnc, hcm, by simpa using hcs, ?_⟩
      · simp only [World.setCell, Array.getElem?_modify, if_pos, hgg, Option.map_some]
        rfl
      · rw [List.length_set, List.map_set, ← htake, Array.toList_setIfInBounds]
        rw [List.take_set]
  · have hi' : i < ls.length := by simpa using hi
    by_cases hik : i = k
    · subst hik
      refine ⟨s', by simp [hkc], ?_⟩
      rw [List.getElem_set_self]
      exact hnew.mutN hset (fun q hq e => by
        rw [own_encS] at hq
        rcases hb q hq with h1 | h1
        · have e : q = g := e
          exact hgs (by rw [h1, e])
        · have e : q = g := e
          omega)
    · obtain ⟨u, h1, h2⟩ := h.el i hi'
      refine ⟨u, by rw [List.getElem?_set_ne (Ne.symm hik)]; exact h1, ?_⟩
      rw [List.getElem_set_ne (Ne.symm hik)]
      have hic : i < cs.length := by rw [h.len]; exact hi'
      have hui : cs[i] = u := by rw [List.getElem?_eq_getElem hic] at h1; cases h1; rfl
      refine (h2.mutN hm (fun q hq e => ?_)).mutN hset (fun q hq e => ?_)
      · rw [own_encS, ← hui] at hq
        exact hapart i hic hik q hq e
      · rw [own_encS] at hq
        have e : q = g := e
        exact h.out u (List.mem_of_getElem? h1) q hq (by rw [e]; rfl)
  · rcases List.mem_or_eq_of_mem_set hu with hu | rfl
    · have := h.out u hu q hq
      simpa [Value.ownBlock] using this
    · intro e
      simp [Value.ownBlock] at e
      rcases hb q hq with h1 | h1
      · exact hgs (by rw [h1, e])
      · omega
  · rw [List.pairwise_iff_getElem]
    intro i j hi hj hij q hq e
    have hi' : i < cs.length := by simpa using hi
    have hj' : j < cs.length := by simpa using hj
    rw [List.getElem_set] at hq e
    by_cases h1 : k = i
    · subst h1
      rw [if_pos rfl] at hq
      rw [if_neg (by omega)] at e
      exact hapart' j hj' (by omega) q e hq
    · rw [if_neg h1] at hq
      by_cases h2 : k = j
      · subst h2
        rw [if_pos rfl] at e
        exact hapart' i hi' (by omega) q hq e
      · rw [if_neg h2] at e
        exact List.pairwise_iff_getElem.1 h.apart i j hi' hj' hij q hq e
end Go.Proofs.Ytbpfhclcjedkcaa

namespace Go.Proofs.Ytbpfhclcjedkcaa
open Go.RowKit
/-! ### leaves: append, delete -/
theorem run_appendLs {w : World} {base : Nat} {v : Value} {cs : List Sl} {ls : LL} {s : Sl} {l : List Pid} {b c : Nat} (h : LLs w base v cs ls) (h0 : w.cell? ⟨b, 0, none⟩ = some (encS s)) (hs : OwnP w base (encS s) l) (hv : ∀ g, blkS s = some g → v.ownBlock ≠ some g) (hc : ∀ u ∈ cs, ∀ g, blkS u = some g → blkS s ≠ some g)
    (hlen : ls.length + 1 ≤ 1099511627776) (hbase : base ≤ w.heap.size) (ty : TypeId) :
    ∃ v' w', (Builtin.append_ #[31, 31] ty #[v, .slice (some ⟨b, 0, none⟩) 1 c]).run Try.prog w = .ok v' w' ∧ LLs w' base v' (cs ++ [s]) (ls ++ [l]) ∧ w.grownBy w' v.ownBlock ∧ (v'.ownBlock = v.ownBlock ∨ v'.ownBlock = some w.heap.size) := by
  obtain ⟨i0, hi, hz0, hz1, hz2⟩ := info_parts infoPs
  obtain ⟨v', w', hrun, h2, h3, h4, h5⟩ := run_append_own_at (P := Try.prog) w base 31 ty 30 i0 _ 1 24 Try.underlying31 hi hz0 hz1 hz2 rfl (by decide) v ls.length (cs.map encS) h.own ⟨b, 0, none⟩ 1 c [encS s] rfl (fun j u hu => by
    have hj : j = 0 := by have := (List.getElem?_eq_some_iff.1 hu).1; simpa using this
    subst hj
    rw [addr_add]
    simp at hu; subst hu
    exact h0) (fun u hu => by simp at hu; subst hu; rfl) (by unfold maxLen; omega) (by omega) hbase
  have hcl := h.len
  have far : ∀ (u : Sl), (∀ g, blkS u = some g → g < w.heap.size) → (∀ g, blkS u = some g → v.ownBlock ≠ some g) → ∀ g, blkS u = some g → v'.ownBlock ≠ some g := by
    intro u hm hno g hg
    rcases h5 with h5 | h5
    · rw [h5]; exact hno g hg
    · rw [h5]
      have := hm g hg
      intro e2; simp at e2; omega
  have hsb : ∀ g, blkS s = some g → g < w.heap.size := fun g hg => (hs.blk (by rw [own_encS]; exact hg)).2
  refine ⟨v', w', hrun, ⟨?_, fun i hi => ?_, fun u hu => ?_, ?_⟩, h3, h5⟩
  · rw [List.length_append, List.map_append]; exact h2
  · by_cases hlt : i < ls.length
    · obtain ⟨u, g1, g2⟩ := h.el i hlt
      rw [List.getElem?_append_left (by omega), List.getElem_append_left hlt]
      exact ⟨u, g1, g2.grownN h3 (fun g hg => by rw [own_encS] at hg; exact h.out u (List.mem_of_getElem? g1) g hg)⟩
    · have hi' : i = ls.length := by simp at hi; omega
      subst hi'
      rw [List.getElem?_append_right (by omega), List.getElem_append_right (by omega)]
      simp only [hcl, Nat.sub_self, List.getElem?_cons_zero, List.getElem_cons_zero]
      exact ⟨s, rfl, hs.grownN h3 (fun g hg => by rw [own_encS] at hg; exact hv g hg)⟩
  · rcases List.mem_append.1 hu with hu | hu
    · exact far u (fun g hg => (h.elB hu hg).2) (h.out u hu)
    · rw [List.mem_singleton.1 hu]; exact far s hsb hv
  · rw [List.pairwise_append]
    refine ⟨h.apart, List.pairwise_singleton _ _, fun a ha b' hb' => ?_⟩
    rw [List.mem_singleton.1 hb']
    exact hc a ha
/-- 'append(l, x)' at the operation -/
theorem wpList_appendLs {w : World} {ops : Array Oper} {rest : List Oper} {o : Oper} {a : Act} {Q : Exit → Act → World → Prop} {sx x : Operand} {base : Nat} {v : Value} {cs : List Sl} {ls : LL} {s : Sl} {l : List Pid} {b c : Nat} (h : LLs w base v cs ls) (h0 : w.cell? ⟨b, 0, none⟩ = some (encS s)) (hs : OwnP w base (encS s) l) (hv : ∀ g, blkS s = some g → v.ownBlock ≠ some g) (hc : ∀ u ∈ cs, ∀ g, blkS u = some g → blkS s ≠ some g)
    (hlen : ls.length + 1 ≤ 1099511627776) (hbase : base ≤ w.heap.size)
    (hg : o.guard = none) (ho : o.op = .call { callee := .builtin .append, args := #[sx, x], argTypes := #[31, 31] }) (hsx : a.eval sx = v) (hx : a.eval x = .slice (some ⟨b, 0, none⟩) 1 c)
    (hk : ∀ v' w', LLs w' base v' (cs ++ [s]) (ls ++ [l]) → w.grownBy w' v.ownBlock → (v'.ownBlock = v.ownBlock ∨ v'.ownBlock = some w.heap.size) → wpList Try.prog ops Q rest (a.put o.dst v') w') : wpList Try.prog ops Q (o :: rest) a w := by
  obtain ⟨v', w', hr, h2, h3, h4⟩ := run_appendLs h h0 hs hv hc hlen hbase (c := c) o.type
  exact Lib.wpList_append_run w hg sx x 31 31 ho _ _ hsx hx v' w' hr (hk v' w' h2 h3 h4)
/-! slices.Delete -/
instance : Inhabited Sl := ⟨(none, 0, 0)⟩
theorem oneS : OneCell encS := fun _ => rfl
theorem zeroS (w : World) : (zeroValue 30).run Try.prog w = .ok (encS (none, 0, 0)) w := Try.zeroValue30 w
theorem put_list {g : Nat} {w : World} {q : Nat} {cur : Array Value} {e : TypeId} {D : Array Sl} (hg : w.heap[g]? = some (.cells cur e (0, 0))) : (Go.Sort.putRow encS (Go.Sort.ahead w q) g 0 D).heap[g]? = some (.cells (Go.Sort.putCells encS 0 D cur) e (0, 0)) := by
  simp [Go.Sort.putRow, Go.Sort.mapBlock, Go.Sort.ahead, Array.getElem?_modify, hg, Go.Sort.onCells]
theorem put_mut {g : Nat} {w : World} {q : Nat} {D : Array Sl} : Mut (fun b => b = g) w (Go.Sort.putRow encS (Go.Sort.ahead w q) g 0 D) := by
  refine ⟨rfl, rfl, rfl, by simp, fun k hk hne => ?_⟩
  have : g ≠ k := fun e => hne e.symm
  simp [Go.Sort.putRow, Go.Sort.mapBlock, Go.Sort.ahead, Array.getElem?_modify, this]
theorem take_putS (cur : Array Value) (D : Array Sl) (n : Nat) (h : D.size ≤ cur.size) (hn : n ≤ D.size) : (Go.Sort.putCells encS 0 D cur).toList.take n = (D.toList.take n).map encS := by
  apply List.ext_getElem?
  intro j
  by_cases hj : j < n
  · rw [List.getElem?_take_of_lt hj, Array.getElem?_toList, List.getElem?_map, List.getElem?_take_of_lt hj, Array.getElem?_toList]
    simp [Go.Sort.putCells, show j < D.size by omega, show j < cur.size by omega]
  · rw [List.getElem?_take_eq_none (by omega), List.getElem?_eq_none (by simp; omega)]
theorem holdsS {w : World} {base g cap : Nat} {cs : List Sl} {ls : LL} (h : LLs w base (.slice (some ⟨g, 0, none⟩) ls.length cap) cs ls) : Go.Sort.Holds encS w g 0 cs.toArray := by
  intro j hj
  have hj' : j < ls.length := by rw [← h.len]; simpa using hj
  obtain ⟨g', cap', s, e, -, -, -, h1, h2, h3, -, -⟩ := h.get hj'
  cases e
  have hjc : j < cs.length := by rw [h.len]; exact hj'
  have hs : cs.toArray[j]! = s := by
    rw [getElem!_pos cs.toArray j (by simpa using hjc)]
    rw [List.getElem?_eq_getElem hjc] at h1; cases h1; simp
  rw [Nat.zero_add, hs]
  exact ⟨h2, h3⟩
theorem delete_any {w : World} {base g cap k : Nat} {cs : List Sl} {ls : LL} {z : Int} (hz : z = (k : Int) + 1) (h : LLs w base (.slice (some ⟨g, 0, none⟩) ls.length cap) cs ls) (hk : k < ls.length) (hcap : ls.length ≤ cap) (hm : cap ≤ 9223372036854775807) :
    Calls Try.prog 256 #[.slice (some ⟨g, 0, none⟩) ls.length cap, .int .i64 k, .int .i64 z] w fun e w' => e = .returned (.slice (some ⟨g, 0, none⟩) (ls.eraseIdx k).length cap) ∧ LLs w' base (.slice (some ⟨g, 0, none⟩) (ls.eraseIdx k).length cap) (cs.eraseIdx k) (ls.eraseIdx k) ∧ Mut (fun b => b = g) w w' := by
  have hcl := h.len
  obtain ⟨i0, hi, hz0, hz1, hz2⟩ := info_parts infoPs
  have hcon := AnyE.slices_Delete Try.delLeaf encS oneS (none, 0, 0) zeroS i0 hi hz1 g 0 cap k (k + 1) cs.toArray w (holdsS h) (by simpa [hcl] using hcap) hm (by omega) (by simp; omega)
  change Calls Try.prog 256 _ _ _ at hcon
  have e1 : cs.toArray.size = ls.length := by simpa using hcl
  have e2 : ((k + 1 : Nat) : Int) = z := by omega
  have e3 : ls.length - (k + 1 - k) = (ls.eraseIdx k).length := by rw [List.length_eraseIdx]; simp [hk]
  rw [e1, e2, e3] at hcon
  refine hcon.mono ?_
  rintro e w' ⟨rfl, q, rfl⟩
  obtain ⟨D, hD⟩ : ∃ D, (cs.toArray.toList.take k ++ cs.toArray.toList.drop (k + 1) ++ List.replicate (k + 1 - k) ((none, 0, 0) : Sl)).toArray = D := ⟨_, rfl⟩
  rw [hD]
  have hDl : D.toList = cs.eraseIdx k ++ [(none, 0, 0)] := by
    rw [← hD, List.eraseIdx_eq_take_drop_succ]
    have : k + 1 - k = 1 := by omega
    rw [this]; simp
  have hDs : D.size = ls.length := by
    have : D.size = D.toList.length := by simp
    rw [this, hDl, List.length_append, List.length_eraseIdx]
    simp [hcl, hk]; omega
  have hel : (ls.eraseIdx k).length = ls.length - 1 := by rw [List.length_eraseIdx]; simp [hk]
  have hec : (cs.eraseIdx k).length = ls.length - 1 := by rw [List.length_eraseIdx]; simp [hk, hcl]
  have hmut : Mut (fun b => b = g) w (Go.Sort.putRow encS (Go.Sort.ahead w q) g 0 D) := put_mut
  refine ⟨rfl, ⟨⟨by simp [hel, hec], ?_⟩, fun i hi => ?_, fun u hu => h.out u (List.mem_of_mem_eraseIdx hu), ?_⟩, hmut⟩
  · rcases h.own.2 with ⟨e, -⟩ | ⟨g', cap', cur, e, hbb, hgg, hnc, hcm, hcs, htake⟩
    · cases e
    · cases e
      refine .inr ⟨g, cap, _, rfl, hbb, put_list hgg, by omega, hcm, by simp [Go.Sort.putCells, hcs], ?_⟩
      rw [take_putS cur D _ (by rw [hDs, hcs]; omega) (by rw [hDs]; omega), hDl, List.take_append_of_le_length (by omega), List.take_of_length_le (by omega)]
  · have hil : i < ls.length - 1 := by omega
    by_cases hik : i < k
    · obtain ⟨u, h1, h2⟩ := h.el i (by omega)
      refine ⟨u, by rw [List.getElem?_eraseIdx_of_lt hik]; exact h1, ?_⟩
      rw [List.getElem_eraseIdx_of_lt _ hik]
      exact h2.mutN hmut (fun p hp e => by
        rw [own_encS] at hp
        have e : p = g := e
        exact h.out u (List.mem_of_getElem? h1) p hp (by rw [e]; rfl))
    · obtain ⟨u, h1, h2⟩ := h.el (i + 1) (by omega)
      refine ⟨u, by rw [List.getElem?_eraseIdx_of_ge (by omega)]; exact h1, ?_⟩
      rw [List.getElem_eraseIdx_of_ge _ (by omega)]
      exact h2.mutN hmut (fun p hp e => by
        rw [own_encS] at hp
        have e : p = g := e
        exact h.out u (List.mem_of_getElem? h1) p hp (by rw [e]; rfl))
  · exact h.apart.sublist (List.eraseIdx_sublist cs k)
end Go.Proofs.Ytbpfhclcjedkcaa

namespace Go.Proofs.Ytbpfhclcjedkcaa
open Go.RowKit
/-! ### layout: part -/
theorem grown_mutS {w w' : World} {v : Value} (hg : w.grownBy w' v.ownBlock) : Mut (fun b => v.ownBlock = some b) w w' :=
  ⟨hg.os, hg.tape, hg.output, hg.size, fun k hk hf => hg.block k hk (fun e => hf e.symm)⟩
theorem Mut.frozen {F : Nat → Prop} {w w' : World} (h : Mut F w w') {p : Addr} (hp : p.block < w.heap.size) (hf : ¬ F p.block) : w'.frozen? p = w.frozen? p := by
  simp only [World.frozen?, h.block p.block hp hf]
/-- the blocks of leaves -/
def inLL (v : Value) (cs : List Sl) (b : Nat) : Prop := v.ownBlock = some b ∨ ∃ s ∈ cs, blkS s = some b
/-- what a step leaves: only the leaves' blocks are written, and the new leaves lie in theirs or in new ones -/
structure Keeps (w : World) (v : Value) (cs : List Sl) (w' : World) (v' : Value) (cs' : List Sl) : Prop where
  mt : Mut (inLL v cs) w w'
  blk : ∀ b, inLL v' cs' b → inLL v cs b ∨ w.heap.size ≤ b
theorem Keeps.refl (w : World) (v : Value) (cs : List Sl) : Keeps w v cs w v cs := ⟨Mut.refl _ _, fun _ h => .inl h⟩
theorem Keeps.trans {w w1 w2 : World} {v v1 v2 : Value} {cs cs1 cs2 : List Sl} (h1 : Keeps w v cs w1 v1 cs1) (h2 : Keeps w1 v1 cs1 w2 v2 cs2) : Keeps w v cs w2 v2 cs2 := by
  have hs := h1.mt.size
  refine ⟨⟨h2.mt.os.trans h1.mt.os, h2.mt.tape.trans h1.mt.tape, h2.mt.output.trans h1.mt.output, Nat.le_trans hs h2.mt.size, fun k hk hn => ?_⟩, fun b hb => ?_⟩
  · refine (h2.mt.block k (by omega) fun e => ?_).trans (h1.mt.block k hk hn)
    rcases h1.blk k e with e | e
    · exact hn e
    · omega
  · rcases h2.blk b hb with e | e
    · exact h1.blk b e
    · exact .inr (by omega)
theorem Keeps.ext {w w1 w2 : World} {v v1 : Value} {cs cs1 : List Sl} (h1 : Keeps w v cs w1 v1 cs1) (hb : Below w1.heap.size w1 w2) : Keeps w v cs w2 v1 cs1 := ⟨h1.mt.trans (Mut.of_below hb), h1.blk⟩
theorem LLs.inB {w : World} {base : Nat} {v : Value} {cs : List Sl} {ls : LL} (h : LLs w base v cs ls) {b : Nat} (hb : inLL v cs b) : base ≤ b ∧ b < w.heap.size := by
  rcases hb with e | ⟨s, hs, e⟩
  · exact h.blk e
  · exact h.elB hs e
theorem Keeps.low {w w' : World} {base : Nat} {v v' : Value} {cs cs' : List Sl} {ls : LL} (hk : Keeps w v cs w' v' cs') (h : LLs w base v cs ls) : Mut (fun b => base ≤ b) w w' := hk.mt.mono fun _ _ e => (h.inB e).1
theorem run_uptoP {a : Option Addr} {n c k : Nat} (h : k ≤ c) (W : World) : (Instr.slice 30 (.slice a n c) none (some (.int .i64 k)) none).run Try.prog W = .ok (.slice (if c = 0 then a else a.map (·.add (0 * 2))) (k - 0) (c - 0)) W := by
  have hs : ∀ W, (sizeOf 26).run Try.prog W = .ok 2 W := fun W => Try.sizeOf26 W
  simp [Instr.slice, run_underlying Try.underlying30, Instr.sliceBounds, run_sliceBound, hs, Result.andThen, h]
theorem run_fromP {a : Option Addr} {n c k : Nat} (h : k ≤ n) (W : World) : (Instr.slice 30 (.slice a n c) (some (.int .i64 k)) none none).run Try.prog W = .ok (.slice (if c = k then a else a.map (·.add (k * 2))) (n - k) (c - k)) W := by
  have hs : ∀ W, (sizeOf 26).run Try.prog W = .ok 2 W := fun W => Try.sizeOf26 W
  simp [Instr.slice, run_underlying Try.underlying30, Instr.sliceBounds, run_sliceBound, hs, Result.andThen, h]
theorem PidRow.from {w : World} {a : Option Addr} {xs : List Pid} (h : PidRow w a xs) {k c : Nat} (hc : xs.length ≤ c) : PidRow w (if c = k then a else a.map (·.add (k * 2))) (xs.drop k) := by
  by_cases hk : k < xs.length
  · rw [if_neg (by omega)]
    obtain ⟨b, off, rfl, hb, hcell⟩ := h.get (by omega)
    refine .inr ⟨b, off + k * 2, by simp [addr_add], hb, fun i hi => ?_⟩
    simp only [List.length_drop] at hi
    have := hcell (k + i) (by omega)
    rw [List.getElem_drop, show off + k * 2 + i * 2 = off + (k + i) * 2 by omega]
    exact this
  · rw [List.drop_eq_nil_of_le (by omega)]; exact .inl rfl
theorem PidRow.uptoC {w : World} {a : Option Addr} {xs : List Pid} (h : PidRow w a xs) (k c : Nat) : PidRow w (if c = 0 then a else a.map (·.add (0 * 2))) (xs.take k) := by
  have up : ∀ {a : Option Addr}, PidRow w a xs → PidRow w a (xs.take k) := by
    intro a h
    rcases h with rfl | ⟨b, off, rfl, hb, hcell⟩
    · exact .inl (by simp)
    · refine .inr ⟨b, off, rfl, hb, fun i hi => ?_⟩
      simp only [List.length_take] at hi
      have := hcell i (by omega)
      simpa using this
  split
  · exact up h
  · rcases h with rfl | ⟨b, off, rfl, hb, hcell⟩
    · exact .inl (by simp)
    · have e : (some (⟨b, off, none⟩ : Addr)).map (·.add (0 * 2)) = some ⟨b, off, none⟩ := by simp [addr_add]
      rw [e]; exact up (.inr ⟨b, off, rfl, hb, hcell⟩)
theorem OwnP.rowc {w : World} {base : Nat} {v : Value} {xs : List Pid} (h : OwnP w base v xs) : ∃ a c, v = .slice a xs.length c ∧ PidRow w a xs ∧ xs.length ≤ c := by
  obtain ⟨a, c, rfl, hr, -⟩ := h.row
  refine ⟨a, c, rfl, hr, ?_⟩
  rcases h.2 with ⟨h1, h2⟩ | ⟨g, cap, cur, h1, _, _, h2, _⟩
  · omega
  · injection h1 with _ _ h1; omega
/-- an own row as its three words -/
theorem OwnP.sl {w : World} {base : Nat} {v : Value} {xs : List Pid} (h : OwnP w base v xs) : ∃ a c, v = .slice a xs.length c ∧ v = encS (a, xs.length, c) ∧ PidRow w a xs ∧ xs.length ≤ c ∧ ∀ q, blkS (a, xs.length, c) = some q → base ≤ q ∧ q < w.heap.size := by
  obtain ⟨a, c, e, hr, hc⟩ := h.rowc
  refine ⟨a, c, e, e, hr, hc, fun q hq => ?_⟩
  have e2 : v.ownBlock = blkS (a, xs.length, c) := by rw [e]; exact own_encS (a, xs.length, c)
  exact h.blk (by rw [e2]; exact hq)
theorem run_appendPat {w : World} {base : Nat} {v : Value} {xs ys : List Pid} (hown : OwnP w base v xs) {a : Option Addr} {c : Nat} (hy : PidRow w a ys) (hlen : xs.length + ys.length ≤ 1099511627776) (hbase : base ≤ w.heap.size) (ty : TypeId) :
    ∃ v' w', (Builtin.append_ #[30, 30] ty #[v, .slice a ys.length c]).run Try.prog w = .ok v' w' ∧ OwnP w' base v' (xs ++ ys) ∧ w.grownBy w' v.ownBlock ∧ (v'.ownBlock = v.ownBlock ∨ v'.ownBlock = some w.heap.size) := by
  obtain ⟨i0, hi, hz0, hz1, hz2⟩ := info_parts info36
  rcases hy with rfl | ⟨b, off, rfl, hlt, hc⟩
  · refine ⟨v, w, ?_, by simpa using hown, ⟨rfl, rfl, rfl, Nat.le_refl _, fun _ _ _ => rfl⟩, .inl rfl⟩
    rcases hown.2 with ⟨rfl, hn⟩ | ⟨g, cap, cur, rfl, hb, hg, hnc, hcm, hcs, htake⟩
    · cases a <;> simp [Builtin.append_, run_underlying Try.underlying30, sizeOf, typeInfo, hi, Builtin.lenOf, Builtin.firstCells, loadCells, loadCellsFrom]
    · cases a <;> simp [Builtin.append_, run_underlying Try.underlying30, sizeOf, typeInfo, hi, Builtin.lenOf, Builtin.firstCells, loadCells, loadCellsFrom, hnc, storeCells]
  · obtain ⟨v', w', hr, h2, h3, h4, h5⟩ := run_append_own_at (P := Try.prog) w base 30 ty 26 i0 _ 2 8 Try.underlying30 hi hz0 hz1 hz2 rfl (by decide) v xs.length (pidCells xs) hown ⟨b, off, none⟩ ys.length c (pidCells ys) (pidCells_length ys) (PidRow.cells hc) (pidCells_one ys) (by unfold maxLen; omega) (by omega) hbase
    refine ⟨v', w', hr, ?_, h3, h5⟩
    unfold OwnP; rw [List.length_append, pidCells_append]; exact h2
theorem wpList_appendPat {w : World} {ops : Array Oper} {rest : List Oper} {o : Oper} {a : Act} {Q : Exit → Act → World → Prop} {s x : Operand} {base : Nat} {v : Value} {xs ys : List Pid} (hown : OwnP w base v xs) {ad : Option Addr} {c n : Nat} (hy : PidRow w ad ys) (hn : Hid (ys.length = n))
    (hlen : xs.length + n ≤ 1099511627776) (hbase : base ≤ w.heap.size)
    (hg : o.guard = none) (ho : o.op = .call { callee := .builtin .append, args := #[s, x], argTypes := #[30, 30] }) (hs : a.eval s = v) (hx : a.eval x = .slice ad n c)
    (h : ∀ v' w', OwnP w' base v' (xs ++ ys) → w.grownBy w' v.ownBlock → (v'.ownBlock = v.ownBlock ∨ v'.ownBlock = some w.heap.size) → wpList Try.prog ops Q rest (a.put o.dst v') w') : wpList Try.prog ops Q (o :: rest) a w := by
  have hn := hn.out; subst hn
  obtain ⟨v', w', hr, h2, h3, h4⟩ := run_appendPat hown (c := c) hy hlen hbase o.type
  exact Lib.wpList_append_run w hg s x 30 30 ho _ _ hs hx v' w' hr (h v' w' h2 h3 h4)
theorem half_run (n : Nat) (h : n ≤ 70368744177664) : IntKind.i64.wrap (((n : Int) + 1).tdiv 2) = (((n + 1) / 2 : Nat) : Int) := by
  have e : ((n : Int) + 1).tdiv 2 = (((n + 1) / 2 : Nat) : Int) := by
    rw [Int.tdiv_eq_ediv_of_nonneg (by omega)]; omega
  rw [e, IntKind.wrap_i64] <;> omega
set_option maxRecDepth 100000 in
set_option maxHeartbeats 6400000 in
theorem part_any {w : World} {base g cap k : Nat} {cs : List Sl} {ls : LL} {N : Nat} (hN : Hid (ls.length = N)) (h : LLs w base (.slice (some ⟨g, 0, none⟩) N cap) cs ls) (hbase : base ≤ w.heap.size) (hk : k < N) (hl : (ls.getD k []).length ≤ 1000000) (hNl : N ≤ 1000000) :
    Calls Try.prog 242 #[.slice (some ⟨g, 0, none⟩) N cap, .int .i64 k] w fun e w' => ∃ v' cs', e = .returned v' ∧ LLs w' base v' cs' (partL ls k) ∧ Keeps w (.slice (some ⟨g, 0, none⟩) N cap) cs w' v' cs' := by
  have hN' := hN.out
  subst hN'
  obtain ⟨g', cap', s, e0, hcap, hbg, hgw, hcs, hcell, hfr, hown, hsg⟩ := h.get hk
  cases e0
  have hgd : ls.getD k [] = ls[k] := by simp [List.getD, hk]
  obtain ⟨l, hl'⟩ : ∃ l, ls[k] = l := ⟨_, rfl⟩
  rw [hgd, hl'] at hl
  rw [hl'] at hown
  obtain ⟨a, c, he, he2, hrow, hlc, hblk⟩ := hown.sl
  rw [he] at hcell
  have hsS : s = (a, l.length, c) := by
    obtain ⟨x, y, z⟩ := s
    have : Value.slice x y z = Value.slice a l.length c := he
    injection this with e1 e2 e3
    rw [e1, e2, e3]
  obtain ⟨n, hn⟩ : ∃ n, l.length = n := ⟨_, rfl⟩
  obtain ⟨q, hq⟩ : ∃ q, half l = q := ⟨_, rfl⟩
  have hqn : q = (n + 1) / 2 := by rw [← hq, ← hn]; rfl
  have hw2 := half_run n (by omega)
  rw [← hqn] at hw2
  have hw1 : IntKind.i64.wrap ((n : Int) + 1) = (n : Int) + 1 := by rw [IntKind.wrap_i64] <;> omega
  have h20 : ((2 : Int) == 0) = false := rfl
  rw [hn] at hcell hlc hsS
  obtain ⟨a1, ha1⟩ : ∃ a1, (if c = 0 then a else a.map (·.add (0 * 2))) = a1 := ⟨_, rfl⟩
  obtain ⟨a2, ha2⟩ : ∃ a2, (if c = q then a else a.map (·.add (q * 2))) = a2 := ⟨_, rfl⟩
  obtain ⟨n2, hn2⟩ : ∃ n2, n - q = n2 := ⟨_, rfl⟩
  obtain ⟨c2, hc2⟩ : ∃ c2, c - q = c2 := ⟨_, rfl⟩
  have hqle : q ≤ n := by omega
  have U1 : ∀ W, (Instr.slice 30 (.slice a n c) none (some (.int .i64 q)) none).run Try.prog W = .ok (.slice a1 q c) W := fun W => by rw [run_uptoP (by omega) W, ha1]; rfl
  have U2 : ∀ W, (Instr.slice 30 (.slice a n c) (some (.int .i64 q)) none none).run Try.prog W = .ok (.slice a2 n2 c2) W := fun W => by rw [run_fromP hqle W, ha2, hn2, hc2]
  have r1 : PidRow w a1 (l.take q) := by rw [← ha1]; exact hrow.uptoC q c
  have C1 := hid (clone_is (c := c) (hid (show (l.take q).length = q by rw [List.length_take]; omega)) (by omega) r1)
  have HROW := hid hrow
  have HH := hid h
  have HQ := hid hq
  have HL := hid hl'
  have HLN := hid hn
  have HS := hid hsS
  have HGW := hid hgw
  have HBG := hid hbg
  have HHW := hid (And.intro hqn hw2)
  have HCS := hid hcs
  have HSG := hid hsg
  have HCAP := hid hcap
  have HA2 := hid ha2
  have HN2 := hid hn2
  have HLC := hid hlc
  have HGD := hid hgd
  have HBLK := hid hblk
  clear hrow h hq hl' hn hsS hbg hqn hcs hsg hcap ha1 ha2 hn2 hc2 hlc r1 hgd he he2 hown hblk
  go_enter Try.func242, Try.ntmps242
  go_wp2_with fail
  (with_reducible refine C1.out.mono ?_)
  rintro e w2 ⟨v2, rfl, hown2, hb2⟩
  obtain ⟨b2, k2, e2, e2s, -, -, hblk2⟩ := hown2.sl
  have hl2 : (l.take q).length = q := by rw [List.length_take, HLN.out]; omega
  rw [hl2] at e2 e2s hblk2
  have hs2 : LLs (w2.setCell ⟨g, k, none⟩ (encS (b2, q, k2))) base (.slice (some ⟨g, 0, none⟩) ls.length cap) (cs.set k (b2, q, k2)) (ls.set k (l.take q)) :=
    HH.out.put hk HCS.out (Mut.of_below hb2) (by rw [← e2s]; exact hown2.mono2 hbase) (fun p hp => .inr (hblk2 p hp).1)
  subst e2
  obtain ⟨w3, hw3⟩ : ∃ w3, w2.setCell ⟨g, k, none⟩ (.slice b2 q k2) = w3 := ⟨_, rfl⟩
  have hs3 : LLs w3 base (.slice (some ⟨g, 0, none⟩) ls.length cap) (cs.set k (b2, q, k2)) (ls.set k (l.take q)) := by rw [← hw3]; exact hs2
  have hm23 : Mut (fun b => b = g) w2 w3 := by rw [← hw3]; exact mut1
  have hrow3 : PidRow w3 a l := (HROW.out.ext hb2).mutT hm23 (fun b off e _ hk => HSG.out (by have hk : b = g := hk; rw [HS.out, e, hk]; rfl))
  have r2 : PidRow w3 a2 (l.drop q) := by rw [← HA2.out]; exact hrow3.from (by rw [HLN.out]; exact HLC.out)
  have C2 := hid (clone_is (c := c2) (hid (show (l.drop q).length = n2 by rw [List.length_drop, HLN.out]; exact HN2.out)) (by have := HN2.out; have := HLN.out; omega) r2)
  have hcell2 : ∃ u, w2.cell? ⟨g, k, none⟩ = some u := ⟨_, (hb2.cell (by exact HGW.out)).trans hcell⟩
  obtain ⟨u2, hu2⟩ := hcell2
  have hfr2 : w2.frozen? ⟨g, k, none⟩ = false := (hb2.frozen (by exact HGW.out)).trans hfr
  have hm2 : Mut (fun b => b = g) w w3 := (Mut.of_below hb2).trans hm23
  have HK2 : Hid (∀ p, blkS (b2, q, k2) = some p → w.heap.size ≤ p) := hid fun p hp => (hblk2 p hp).1
  have HS3 := hid hs3
  have HM2 := hid hm2
  have HZ3 : Hid (w.heap.size ≤ w3.heap.size ∧ g < w3.heap.size) := hid ⟨hm2.size, by have := HGW.out; have := hm2.size; omega⟩
  have HB2 : Hid (∀ p, blkS (b2, q, k2) = some p → p < w3.heap.size) := hid fun p hp => by have := (hblk2 p hp).2; have := hm23.size; omega
  clear hs2 hs3 hm23 hrow3 r2 hb2 hown2 hm2 C1 e2s hblk2 HROW hcell hfr
  go_wp2_with fail
  (with_reducible refine C2.out.mono ?_)
  rintro e w4 ⟨v4, rfl, hown4, hb4⟩
  obtain ⟨b4, k4, e4, e4s, -, -, hblk4⟩ := hown4.sl
  have hl4 : (l.drop q).length = n2 := by rw [List.length_drop, HLN.out]; exact HN2.out
  rw [hl4] at e4 e4s hblk4
  subst e4
  have hq5 : Below w4.heap.size w4 (w4.alloc (.cells #[.slice b4 n2 k4] 30)) := (Below.refl _ _).alloc (Nat.le_refl _) _
  have hs5 := (HS3.out.ext hb4).ext hq5
  have ho5 : OwnP (w4.alloc (.cells #[.slice b4 n2 k4] 30)) base (encS (b4, n2, k4)) (l.drop q) := (hown4.ext hq5).mono2 (by have := HZ3.out; omega)
  have hc5 : (w4.alloc (.cells #[.slice b4 n2 k4] 30)).cell? ⟨w4.heap.size, 0, none⟩ = some (encS (b4, n2, k4)) := by simp [encS]
  have hv5 : ∀ p, blkS (b4, n2, k4) = some p → (Value.slice (some ⟨g, 0, none⟩) ls.length cap).ownBlock ≠ some p := fun p hp e => by
    have := (hblk4 p hp).1; have := HZ3.out.2; simp [Value.ownBlock] at e; omega
  have hu5 : ∀ u ∈ cs.set k (b2, q, k2), ∀ p, blkS u = some p → blkS (b4, n2, k4) ≠ some p := fun u hu p hp e => by
    have h1 := (hblk4 p e).1
    have h2 := (HS3.out.elB hu hp).2
    omega
  have HK4 : Hid (∀ p, blkS (b4, n2, k4) = some p → w.heap.size ≤ p) := hid fun p hp => by have := (hblk4 p hp).1; have := HZ3.out.1; omega
  have HO5 := hid ho5
  have HS5 := hid hs5
  have HC5 := hid hc5
  have HV5 := hid hv5
  have HU5 := hid hu5
  have HM4 := hid (HM2.out.trans (Mut.of_below (hb4.trans (hq5.mono hb4.size))))
  have HZ5 : Hid (base ≤ (w4.alloc (.cells #[.slice b4 n2 k4] 30)).heap.size) := hid (by have := HM4.out.size; omega)
  have HZ6 : Hid (w.heap.size ≤ (w4.alloc (.cells #[.slice b4 n2 k4] 30)).heap.size) := hid HM4.out.size
  clear hq5 hs5 ho5 hc5 hv5 hu5 hown4 hb4 e4s hblk4 hw3 hu2 hfr2
  go_wp2_with (at_builtin; go_loud (refine wpList_appendLs HS5.out HC5.out HO5.out HV5.out HU5.out (by simp; omega) HZ5.out rfl rfl (by simp [Act.eval, Act.put]; try rfl) rfl ?_; intro v6 w6 hls6 hg6 hat6; have hmg := (grown_mutS hg6).mono (G := fun b => b = g) (fun b _ e => by simp [Value.ownBlock] at e; exact e.symm); have HL6 := hid hls6; have HM6 := hid (HM4.out.trans hmg); have HAT6 := hid hat6; clear hls6 hg6 hat6 hmg))
  go_ret
  refine ⟨v6, cs.set k (b2, q, k2) ++ [(b4, n2, k4)], rfl, ?_, HM6.out.mono fun b _ e => .inl (by rw [e]; rfl), ?_⟩
  · unfold partL
    rw [HGD.out, HL.out, HQ.out]
    exact HL6.out
  · rintro b (hb | ⟨s', hs', hb⟩)
    · rcases HAT6.out with e | e
      · exact .inl (.inl (by rw [← e]; exact hb))
      · rw [hb] at e; cases e; exact .inr HZ6.out
    · rcases List.mem_append.1 hs' with hs' | hs'
      · rcases List.mem_or_eq_of_mem_set hs' with hs' | rfl
        · exact .inl (.inr ⟨s', hs', hb⟩)
        · exact .inr (HK2.out b hb)
      · rw [List.mem_singleton.1 hs'] at hb; exact .inr (HK4.out b hb)
end Go.Proofs.Ytbpfhclcjedkcaa

