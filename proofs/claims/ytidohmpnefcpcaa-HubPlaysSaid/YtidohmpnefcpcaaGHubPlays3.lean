/- Parts of the proof: KT KU K0 K8. -/
import Derived.Test.YtidohmpnefcpcaaK7
namespace Go.Proofs.Ytidohmpnefcpcaa
open Go.RowKit
/-! ### the reference's sender, in the heap -/
/-- a block of 5 cells that may be written -/
structure Bx5 (w : World) (b : Nat) (v0 v1 v2 v3 v4 : Value) : Prop where
  c0 : w.cell? ⟨b, 0, none⟩ = some v0
  c1 : w.cell? ⟨b, 1, none⟩ = some v1
  c2 : w.cell? ⟨b, 2, none⟩ = some v2
  c3 : w.cell? ⟨b, 3, none⟩ = some v3
  c4 : w.cell? ⟨b, 4, none⟩ = some v4
  f : ∀ j, w.frozen? ⟨b, j, none⟩ = false
section
variable {w w' : World} {b : Nat} {v0 v1 v2 v3 v4 : Value}
theorem Bx5.lt (h : Bx5 w b v0 v1 v2 v3 v4) : b < w.heap.size := World.block_lt_of_cell? w _ h.c0
theorem Bx5.mut {G : Nat → Prop} (h : Bx5 w b v0 v1 v2 v3 v4) (hm : Mut G w w') (hG : ¬ G b) : Bx5 w' b v0 v1 v2 v3 v4 :=
  ⟨(hm.cell h.lt hG).trans h.c0, (hm.cell h.lt hG).trans h.c1, (hm.cell h.lt hG).trans h.c2, (hm.cell h.lt hG).trans h.c3, (hm.cell h.lt hG).trans h.c4, fun j => (World.frozen?_of_block (w := w) (a := ⟨b, j, none⟩) (hm.block b h.lt hG)).trans (h.f j)⟩
theorem Bx5.made (w : World) (t : TypeId) (v0 v1 v2 v3 v4 : Value) : Bx5 (w.alloc (.cells #[v0, v1, v2, v3, v4] t)) w.heap.size v0 v1 v2 v3 v4 := ⟨by simp, by simp, by simp, by simp, by simp, fun j => by simp⟩
theorem Bx5.set0 (h : Bx5 w b v0 v1 v2 v3 v4) (u : Value) : Bx5 (w.setCell ⟨b, 0, none⟩ u) b u v1 v2 v3 v4 :=
  ⟨World.cell?_setCell_same _ _ _ h.c0, by rw [cellOff (by omega)]; exact h.c1, by rw [cellOff (by omega)]; exact h.c2, by rw [cellOff (by omega)]; exact h.c3, by rw [cellOff (by omega)]; exact h.c4, fun j => by simp [h.f j]⟩
theorem Bx5.set1 (h : Bx5 w b v0 v1 v2 v3 v4) (u : Value) : Bx5 (w.setCell ⟨b, 1, none⟩ u) b v0 u v2 v3 v4 :=
  ⟨by rw [cellOff (by omega)]; exact h.c0, World.cell?_setCell_same _ _ _ h.c1, by rw [cellOff (by omega)]; exact h.c2, by rw [cellOff (by omega)]; exact h.c3, by rw [cellOff (by omega)]; exact h.c4, fun j => by simp [h.f j]⟩
theorem Bx5.set2 (h : Bx5 w b v0 v1 v2 v3 v4) (u : Value) : Bx5 (w.setCell ⟨b, 2, none⟩ u) b v0 v1 u v3 v4 :=
  ⟨by rw [cellOff (by omega)]; exact h.c0, by rw [cellOff (by omega)]; exact h.c1, World.cell?_setCell_same _ _ _ h.c2, by rw [cellOff (by omega)]; exact h.c3, by rw [cellOff (by omega)]; exact h.c4, fun j => by simp [h.f j]⟩
theorem Bx5.set3 (h : Bx5 w b v0 v1 v2 v3 v4) (u : Value) : Bx5 (w.setCell ⟨b, 3, none⟩ u) b v0 v1 v2 u v4 :=
  ⟨by rw [cellOff (by omega)]; exact h.c0, by rw [cellOff (by omega)]; exact h.c1, by rw [cellOff (by omega)]; exact h.c2, World.cell?_setCell_same _ _ _ h.c3, by rw [cellOff (by omega)]; exact h.c4, fun j => by simp [h.f j]⟩
theorem Bx5.set4 (h : Bx5 w b v0 v1 v2 v3 v4) (u : Value) : Bx5 (w.setCell ⟨b, 4, none⟩ u) b v0 v1 v2 v3 u :=
  ⟨by rw [cellOff (by omega)]; exact h.c0, by rw [cellOff (by omega)]; exact h.c1, by rw [cellOff (by omega)]; exact h.c2, by rw [cellOff (by omega)]; exact h.c3, World.cell?_setCell_same _ _ _ h.c4, fun j => by simp [h.f j]⟩
end
/-- a block of 3 cells that may be written -/
structure Bx3 (w : World) (b : Nat) (v0 v1 v2 : Value) : Prop where
  c0 : w.cell? ⟨b, 0, none⟩ = some v0
  c1 : w.cell? ⟨b, 1, none⟩ = some v1
  c2 : w.cell? ⟨b, 2, none⟩ = some v2
  f : ∀ j, w.frozen? ⟨b, j, none⟩ = false
section
variable {w w' : World} {b : Nat} {v0 v1 v2 : Value}
theorem Bx3.lt (h : Bx3 w b v0 v1 v2) : b < w.heap.size := World.block_lt_of_cell? w _ h.c0
theorem Bx3.mut {G : Nat → Prop} (h : Bx3 w b v0 v1 v2) (hm : Mut G w w') (hG : ¬ G b) : Bx3 w' b v0 v1 v2 :=
  ⟨(hm.cell h.lt hG).trans h.c0, (hm.cell h.lt hG).trans h.c1, (hm.cell h.lt hG).trans h.c2, fun j => (World.frozen?_of_block (w := w) (a := ⟨b, j, none⟩) (hm.block b h.lt hG)).trans (h.f j)⟩
theorem Bx3.made (w : World) (t : TypeId) (v0 v1 v2 : Value) : Bx3 (w.alloc (.cells #[v0, v1, v2] t)) w.heap.size v0 v1 v2 := ⟨by simp, by simp, by simp, fun j => by simp⟩
theorem Bx3.set0 (h : Bx3 w b v0 v1 v2) (u : Value) : Bx3 (w.setCell ⟨b, 0, none⟩ u) b u v1 v2 :=
  ⟨World.cell?_setCell_same _ _ _ h.c0, by rw [cellOff (by omega)]; exact h.c1, by rw [cellOff (by omega)]; exact h.c2, fun j => by simp [h.f j]⟩
theorem Bx3.set1 (h : Bx3 w b v0 v1 v2) (u : Value) : Bx3 (w.setCell ⟨b, 1, none⟩ u) b v0 u v2 :=
  ⟨by rw [cellOff (by omega)]; exact h.c0, World.cell?_setCell_same _ _ _ h.c1, by rw [cellOff (by omega)]; exact h.c2, fun j => by simp [h.f j]⟩
theorem Bx3.set2 (h : Bx3 w b v0 v1 v2) (u : Value) : Bx3 (w.setCell ⟨b, 2, none⟩ u) b v0 v1 u :=
  ⟨by rw [cellOff (by omega)]; exact h.c0, by rw [cellOff (by omega)]; exact h.c1, World.cell?_setCell_same _ _ _ h.c2, fun j => by simp [h.f j]⟩
end
structure RSnd where
  items : List (Nat × List Nat)
  told : List Bool
  puts : Nat
  once : Nat
  more : Nat
def toldC (l : List Bool) : List (List Value) := l.map fun b => [.bool b]
set_option maxRecDepth 100000 in
/-- the reference's sender: its box s, its row iv of items, its row tv of truths; all among the blocks N that are written -/
structure RSndIs (w : World) (N : Nat → Prop) (s : Nat) (iv tv : Value) (d : RSnd) : Prop where
  box : Bx5 w s iv tv (.int .u64 d.puts) (.int .u64 d.once) (.int .u64 d.more)
  it : ∃ xs, RowP w 0 2 iv xs ∧ ElsAt w N xs (d.items.map itemC)
  tl : RowP w 0 1 tv (toldC d.told)
  ns : N s
  ni : ∀ g, iv.ownBlock = some g → N g ∧ g ≠ s
  nt : ∀ g, tv.ownBlock = some g → N g ∧ g ≠ s
  nit : ∀ g, iv.ownBlock = some g → tv.ownBlock ≠ some g
  bl : d.items.length ≤ 128
  b3 : d.once < 18446744073709551616
  b4 : d.more < 18446744073709551616
  bq : ∀ p ∈ d.items, p.1 < 18446744073709551616
def fpT (s : Nat) (iv tv : Value) (b : Nat) : Prop := b = s ∨ iv.ownBlock = some b ∨ tv.ownBlock = some b
section
variable {w w' w4 : World} {N N' : Nat → Prop} {s : Nat} {iv tv iv' tv' : Value} {d : RSnd}
theorem RSndIs.fp (h : RSndIs w N s iv tv d) : ∀ b, fpT s iv tv b → N b := fun b e => by
  rcases e with e | e | e
  · rw [e]; exact h.ns
  · exact (h.ni b e).1
  · exact (h.nt b e).1
theorem RSndIs.fplt (h : RSndIs w N s iv tv d) : ∀ b, fpT s iv tv b → b < w.heap.size := fun b e => by
  rcases e with e | e | e
  · rw [e]; exact h.box.lt
  · obtain ⟨xs, hx, -⟩ := h.it; exact (hx.blk e).2
  · exact (h.tl.blk e).2
theorem RSndIs.mut {G : Nat → Prop} (h : RSndIs w N s iv tv d) (hm : Mut G w w') (hG : ∀ b, b < w.heap.size → G b → N b) (hf : ∀ b, fpT s iv tv b → ¬ G b) : RSndIs w' N s iv tv d := by
  obtain ⟨xs, h1, h2⟩ := h.it
  exact ⟨h.box.mut hm (hf s (.inl rfl)), ⟨xs, h1.mut hm fun g e => hf g (.inr (.inl e)), h2.mut hm hG⟩, h.tl.mut hm fun g e => hf g (.inr (.inr e)), h.ns, h.ni, h.nt, h.nit, h.bl, h.b3, h.b4, h.bq⟩
theorem RSndIs.ext (h : RSndIs w N s iv tv d) (hb : Below w.heap.size w w') : RSndIs w' N s iv tv d :=
  h.mut (Mut.of_below (F := fun _ => False) hb) (fun _ _ e => e.elim) fun _ _ e => e
theorem RSndIs.less (h : RSndIs w N s iv tv d) (hf : ∀ b, fpT s iv tv b → N' b) (h2 : ∀ b, N' b → N b ∨ w.heap.size ≤ b) : RSndIs w N' s iv tv d := by
  obtain ⟨xs, g1, g2⟩ := h.it
  exact ⟨h.box, ⟨xs, g1, g2.grow h2⟩, h.tl, hf _ (.inl rfl), fun g e => ⟨hf _ (.inr (.inl e)), (h.ni g e).2⟩, fun g e => ⟨hf _ (.inr (.inr e)), (h.nt g e).2⟩, h.nit, h.bl, h.b3, h.b4, h.bq⟩
/-- a cell of the box that holds a number -/
theorem RSndIs.put2 (h : RSndIs w N s iv tv d) (q : Nat) : RSndIs (w.setCell ⟨s, 2, none⟩ (.int .u64 q)) N s iv tv { d with puts := q } ∧ Mut (fun b => b = s) w (w.setCell ⟨s, 2, none⟩ (.int .u64 q)) := by
  have hm : Mut (fun b => b = s) w (w.setCell ⟨s, 2, none⟩ (.int .u64 q)) := mut1
  obtain ⟨xs, h1, h2⟩ := h.it
  exact ⟨⟨h.box.set2 _, ⟨xs, h1.mut hm fun g e => (h.ni g e).2, h2.mut hm fun b _ e => by rw [show b = s from e]; exact h.ns⟩, h.tl.mut hm fun g e => (h.nt g e).2, h.ns, h.ni, h.nt, h.nit, h.bl, h.b3, h.b4, h.bq⟩, hm⟩
set_option maxRecDepth 100000 in
theorem RSndIs.put3 (h : RSndIs w N s iv tv d) (q : Nat) (hq : q < 18446744073709551616) : RSndIs (w.setCell ⟨s, 3, none⟩ (.int .u64 q)) N s iv tv { d with once := q } ∧ Mut (fun b => b = s) w (w.setCell ⟨s, 3, none⟩ (.int .u64 q)) := by
  have hm : Mut (fun b => b = s) w (w.setCell ⟨s, 3, none⟩ (.int .u64 q)) := mut1
  obtain ⟨xs, h1, h2⟩ := h.it
  exact ⟨⟨h.box.set3 _, ⟨xs, h1.mut hm fun g e => (h.ni g e).2, h2.mut hm fun b _ e => by rw [show b = s from e]; exact h.ns⟩, h.tl.mut hm fun g e => (h.nt g e).2, h.ns, h.ni, h.nt, h.nit, h.bl, hq, h.b4, h.bq⟩, hm⟩
set_option maxRecDepth 100000 in
theorem RSndIs.put4 (h : RSndIs w N s iv tv d) (q : Nat) (hq : q < 18446744073709551616) : RSndIs (w.setCell ⟨s, 4, none⟩ (.int .u64 q)) N s iv tv { d with more := q } ∧ Mut (fun b => b = s) w (w.setCell ⟨s, 4, none⟩ (.int .u64 q)) := by
  have hm : Mut (fun b => b = s) w (w.setCell ⟨s, 4, none⟩ (.int .u64 q)) := mut1
  obtain ⟨xs, h1, h2⟩ := h.it
  exact ⟨⟨h.box.set4 _, ⟨xs, h1.mut hm fun g e => (h.ni g e).2, h2.mut hm fun b _ e => by rw [show b = s from e]; exact h.ns⟩, h.tl.mut hm fun g e => (h.nt g e).2, h.ns, h.ni, h.nt, h.nit, h.bl, h.b3, hq, h.bq⟩, hm⟩
set_option maxRecDepth 100000 in
/-- other items -/
theorem RSndIs.items' (h : RSndIs w N s iv tv d) (_hN : ∀ b, N b → b < w.heap.size) (hm : Mut (fun g => iv.ownBlock = some g) w w4) {xs' : List (List Value)} {its : List (Nat × List Nat)} (hrow : RowP w4 0 2 iv' xs') (hels : ElsAt w4 (fun b => N b ∨ iv'.ownBlock = some b) xs' (its.map itemC)) (hnew : ∀ g, iv'.ownBlock = some g → iv.ownBlock = some g ∨ w.heap.size ≤ g) (hbl : its.length ≤ 128) (hbq : ∀ p ∈ its, p.1 < 18446744073709551616) :
    RSndIs (w4.setCell ⟨s, 0, none⟩ iv') (fun b => N b ∨ iv'.ownBlock = some b) s iv' tv { d with items := its } ∧ Mut (fpT s iv tv) w (w4.setCell ⟨s, 0, none⟩ iv') ∧ w4.cell? ⟨s, 0, none⟩ = some iv ∧ w4.frozen? ⟨s, 0, none⟩ = false := by
  have hsn : ¬ (iv.ownBlock = some s) := fun e => (h.ni s e).2 rfl
  have hbox := h.box.mut hm hsn
  have hms : Mut (fun k => k = s) w4 (w4.setCell ⟨s, 0, none⟩ iv') := mut1
  have hsl := h.box.lt
  have hns : ∀ g, iv'.ownBlock = some g → g ≠ s := fun g e => by
    rcases hnew g e with e | e
    · exact (h.ni g e).2
    · omega
  refine ⟨⟨hbox.set0 _, ⟨xs', hrow.mut hms hns, hels.mut hms fun b _ e => .inl (by rw [show b = s from e]; exact h.ns)⟩, (h.tl.mut hm fun g e e2 => h.nit g e2 e).mut hms fun g e => (h.nt g e).2, .inl h.ns, fun g e => ⟨.inr e, hns g e⟩, fun g e => ⟨.inl (h.nt g e).1, (h.nt g e).2⟩, fun g e e2 => ?_, hbl, h.b3, h.b4, hbq⟩, (hm.mono fun k _ e => .inr (.inl e)).trans (hms.mono fun k _ e => .inl e), hbox.c0, hbox.f 0⟩
  rcases hnew g e with e | e
  · exact h.nit g e e2
  · have := (h.tl.blk e2).2; omega
set_option maxRecDepth 100000 in
/-- other truths -/
theorem RSndIs.told' (h : RSndIs w N s iv tv d) (hm : Mut (fun g => tv.ownBlock = some g) w w4) {tl' : List Bool} (hrow : RowP w4 0 1 tv' (toldC tl')) (hnew : ∀ g, tv'.ownBlock = some g → tv.ownBlock = some g ∨ w.heap.size ≤ g) :
    RSndIs (w4.setCell ⟨s, 1, none⟩ tv') (fun b => N b ∨ tv'.ownBlock = some b) s iv tv' { d with told := tl' } ∧ Mut (fpT s iv tv) w (w4.setCell ⟨s, 1, none⟩ tv') ∧ w4.cell? ⟨s, 1, none⟩ = some tv ∧ w4.frozen? ⟨s, 1, none⟩ = false := by
  have hsn : ¬ (tv.ownBlock = some s) := fun e => (h.nt s e).2 rfl
  have hbox := h.box.mut hm hsn
  have hms : Mut (fun k => k = s) w4 (w4.setCell ⟨s, 1, none⟩ tv') := mut1
  have hsl := h.box.lt
  have hns : ∀ g, tv'.ownBlock = some g → g ≠ s := fun g e => by
    rcases hnew g e with e | e
    · exact (h.nt g e).2
    · omega
  obtain ⟨xs, h1, h2⟩ := h.it
  have h2' : ElsAt w4 (fun b => N b ∨ tv'.ownBlock = some b) xs (d.items.map itemC) := (h2.grow (N' := fun b => N b ∨ tv'.ownBlock = some b) fun b e => by
    rcases e with e | e
    · exact .inl e
    · rcases hnew b e with e | e
      · exact .inl (h.nt b e).1
      · exact .inr e).mut hm fun b _ e => .inl (h.nt b e).1
  refine ⟨⟨hbox.set1 _, ⟨xs, (h1.mut hm fun g e e2 => h.nit g e e2).mut hms fun g e => (h.ni g e).2, h2'.mut hms fun b _ e => .inl (by rw [show b = s from e]; exact h.ns)⟩, hrow.mut hms hns, .inl h.ns, fun g e => ⟨.inl (h.ni g e).1, (h.ni g e).2⟩, fun g e => ⟨.inr e, hns g e⟩, fun g e e2 => ?_, h.bl, h.b3, h.b4, h.bq⟩, (hm.mono fun k _ e => .inr (.inr e)).trans (hms.mono fun k _ e => .inl e), hbox.c1, hbox.f 1⟩
  rcases hnew g e2 with e2 | e2
  · exact h.nit g e e2
  · have := (h1.blk e).2; omega
set_option maxRecDepth 100000 in
/-- a truth is set -/
theorem RSndIs.tset (h : RSndIs w N s iv tv d) {i : Nat} (hi : i < d.told.length) (b : Bool) : ∃ g off cap, tv = .slice (some ⟨g, off, none⟩) d.told.length cap ∧ w.frozen? ⟨g, off + i, none⟩ = false ∧ w.cell? ⟨g, off + i, none⟩ = some (.bool d.told[i]) ∧
    RSndIs (w.setCell ⟨g, off + i, none⟩ (.bool b)) N s iv tv { d with told := d.told.set i b } ∧ Mut (fun k => tv.ownBlock = some k) w (w.setCell ⟨g, off + i, none⟩ (.bool b)) := by
  have hl : (toldC d.told).length = d.told.length := by simp [toldC]
  obtain ⟨g, off, cap, e, h1, h2, h3, hm⟩ := h.tl.set (i := i) (u := .bool b) (by rw [hl]; exact hi) rfl
  obtain ⟨g', off', cap', e', h4, h5⟩ := h.tl.at (i := i) (x := [.bool d.told[i]]) (by simp [toldC, hi])
  rw [e] at e'
  injection e' with e1 e2 e3
  injection e1 with e1
  injection e1 with e1 e1'
  subst e1; subst e1'
  have hc := h5 0 _ rfl
  rw [Nat.mul_one, Nat.add_zero] at hc
  have hset : (toldC d.told).set i [.bool b] = toldC (d.told.set i b) := by unfold toldC; rw [List.map_set]
  rw [hset] at h3
  obtain ⟨xs, g1, g2⟩ := h.it
  refine ⟨g, off, cap, by rw [← hl]; exact e, h1, hc, ⟨h.box.mut hm fun e => (h.nt s e).2 rfl, ⟨xs, g1.mut hm fun g e e2 => h.nit g e e2, g2.mut hm fun b _ e => (h.nt b e).1⟩, h3, h.ns, h.ni, h.nt, h.nit, h.bl, h.b3, h.b4, h.bq⟩, hm⟩
end
theorem infoBo : (Try.prog.info? 4).map (fun i => (i.zero, i.size, i.bytes)) = some (some (.bool false), 1, 1) := by kernel_rfl
end Go.Proofs.Ytidohmpnefcpcaa

namespace Go.Proofs.Ytidohmpnefcpcaa
open Go.RowKit
/-! ### the reference's sender: Tick, Ack -/
theorem RSndIs.told_lit {w : World} {N : Nat → Prop} {s : Nat} {iv tv : Value} {d : RSnd} (h : RSndIs w N s iv tv d) : ∃ a c, tv = .slice a d.told.length c ∧ d.told.length ≤ c := by
  obtain ⟨a, c, e, hc⟩ := h.tl.sli
  rw [show (toldC d.told).length = d.told.length by simp [toldC]] at e hc
  exact ⟨a, c, e, hc⟩
theorem RSndIs.it_lit {w : World} {N : Nat → Prop} {s : Nat} {iv tv : Value} {d : RSnd} (h : RSndIs w N s iv tv d) : ∃ a c, iv = .slice a d.items.length c ∧ d.items.length ≤ c := by
  obtain ⟨xs, h1, h2⟩ := h.it
  obtain ⟨a, c, e, hc⟩ := h1.sli
  rw [h2.1, List.length_map] at e hc
  exact ⟨a, c, e, hc⟩
/-- an item of a sender -/
theorem RSndIs.item {w : World} {N : Nat → Prop} {s : Nat} {iv tv : Value} {d : RSnd} (h : RSndIs w N s iv tv d) {i : Nat} {p : Nat × List Nat} (hi : d.items[i]? = some p) :
    ∃ g off cap u, iv = .slice (some ⟨g, off, none⟩) d.items.length cap ∧ g < w.heap.size ∧ w.cell? ⟨g, off + i * 2, none⟩ = some (.int .u64 p.1) ∧ w.cell? ⟨g, off + i * 2 + 1, none⟩ = some u ∧ ItemAt w N u p.2 := by
  obtain ⟨xs, h1, h2⟩ := h.it
  have hlt := (List.getElem?_eq_some_iff.1 hi).1
  have hge : d.items[i] = p := (List.getElem?_eq_some_iff.1 hi).2
  obtain ⟨u, hu, h3⟩ := h2.2 i (by rw [List.length_map]; exact hlt)
  rw [List.getElem_map, hge] at hu h3
  obtain ⟨g, off, cap, e, hg, hc⟩ := h1.at hu
  rw [h2.1, List.length_map] at e
  exact ⟨g, off, cap, u, e, hg, hc 0 _ rfl, hc 1 _ rfl, h3⟩
set_option maxRecDepth 100000 in
set_option maxHeartbeats 1600000 in
theorem rtick_any {w : World} {N : Nat → Prop} {s : Nat} {iv tv : Value} {d : RSnd} (h : RSndIs w N s iv tv d) (hl : d.told.length ≤ 1000) :
    Calls Try.prog 41 #[.pointer (some ⟨s, 0, none⟩)] w fun e w' => e = .returned (.tuple #[]) ∧ RSndIs w' N s iv tv { d with told := List.replicate d.told.length false } ∧ Mut (fun b => tv.ownBlock = some b) w w' := by
  obtain ⟨a, c, hlit, -⟩ := h.told_lit
  obtain ⟨n, hn⟩ : ∃ n, d.told.length = n := ⟨_, rfl⟩
  rw [hn] at hlit hl
  subst hlit
  have HI0 : Hid (RSndIs w N s iv (.slice a n c) { d with told := List.replicate 0 false ++ d.told.drop 0 }) := hid (by simpa using h)
  have HN := hid hn
  clear h hn
  go_enter Try.func41, Try.ntmps41
  go_wp2_with fail
  go_loopw [2] (fun kv wr => ∃ k, kv = .int .i64 (k : Nat) ∧ k ≤ n ∧ Hid (RSndIs wr N s iv (.slice a n c) { d with told := List.replicate k false ++ d.told.drop k }) ∧ Hid (Mut (fun b => (Value.slice a n c).ownBlock = some b) w wr)) (fun kv _ => n - (intOf kv).toNat)
  case atStart => exact ⟨0, rfl, Nat.zero_le _, HI0, hid (Mut.refl _ _)⟩
  case round =>
    obtain ⟨k, rfl, hk, HI, HM⟩ := hrel
    rename World => wr
    have c1 := HI.out.box.c1
    by_cases hlt : k < n
    · have t1 : decide ((k : Int) < (n : Int)) = true := decide_eq_true (by omega)
      have t2 : decide (k < n) = true := decide_eq_true hlt
      obtain ⟨g, off, cap, e, hf, hc, hI2, hm2⟩ := HI.out.tset (i := k) (by have := HN.out; simp; omega) false
      injection e with e1 e2 e3
      subst e1
      clear e2 e3
      have hset : (List.replicate k false ++ d.told.drop k).set k false = List.replicate (k + 1) false ++ d.told.drop (k + 1) := by
        have h1 : k < d.told.length := by rw [HN.out]; exact hlt
        rw [List.set_append, List.length_replicate, if_neg (Nat.lt_irrefl k), Nat.sub_self, List.drop_eq_getElem_cons h1, List.set_cons_zero, List.replicate_succ', List.append_assoc]; rfl
      simp only [hset] at hI2
      have HI2 := hid hI2
      have HM2 := hid hm2
      obtain ⟨bo, hbo⟩ : ∃ bo, (List.replicate k false ++ d.told.drop k)[k]'(by have := HN.out; simp; omega) = bo := ⟨_, rfl⟩
      simp only [hbo] at hc
      clear hI2 hm2 hset hbo
      go_wp2_with fail
      refine ⟨⟨k + 1, by go_num, by omega, HI2, hid (HM.out.trans HM2.out)⟩, ?_⟩
      simp [intOf]; omega
    · have hkn : k = n := by omega
      have t1 : decide ((k : Int) < (n : Int)) = false := decide_eq_false (by omega)
      have t2 : decide (k < n) = false := decide_eq_false hlt
      subst hkn
      have hd : List.replicate k false ++ d.told.drop k = List.replicate d.told.length false := by rw [HN.out, List.drop_eq_nil_of_le (by rw [HN.out]; exact Nat.le_refl _), List.append_nil]
      go_wp2_with fail
      go_end0
      exact ⟨rfl, by rw [← hd]; exact HI.out, HM.out⟩
/-- how many go at an Ack -/
def rackN (upto : Nat) : List (Nat × List Nat) → Nat
  | [] => 0
  | p :: l => if p.1 ≤ upto then rackN upto l + 1 else 0
def rackD (upto : Nat) (d : RSnd) : RSnd := if d.puts < upto then d else { d with items := d.items.drop (rackN upto d.items), told := d.told.drop (rackN upto d.items) }
theorem ownBlock_map {a : Option Addr} {n m c n' c' k : Nat} (g : Nat) : (Value.slice (if c = k then a else a.map (·.add n)) n' c').ownBlock = some g → (Value.slice a m c).ownBlock = some g := by
  intro e
  split at e
  · cases a <;> exact e
  · cases a with
    | none => cases e
    | some ad =>
      have e : some (ad.add n).block = some g := e
      show some ad.block = some g
      rw [← e]
      unfold Addr.add
      split <;> rfl
theorem rackN_drop {upto : Nat} {l : List (Nat × List Nat)} {k : Nat} {p : Nat × List Nat} (hp : l[k]? = some p) : rackN upto (l.drop k) = if p.1 ≤ upto then rackN upto (l.drop (k + 1)) + 1 else 0 := by
  have hlt := (List.getElem?_eq_some_iff.1 hp).1
  rw [List.drop_eq_getElem_cons hlt, (List.getElem?_eq_some_iff.1 hp).2]
  rfl
theorem sizeItem (W : World) : (sizeOf 85).run Try.prog W = .ok 2 W := by kernel_rfl
theorem sizeBool (W : World) : (sizeOf 4).run Try.prog W = .ok 1 W := by kernel_rfl
/-- both rows are cut -/
theorem RSndIs.cut {w : World} {N : Nat → Prop} {s : Nat} {a b : Option Addr} {ca cb : Nat} {d : RSnd} (h : RSndIs w N s (.slice a d.items.length ca) (.slice b d.told.length cb) d) (hN : ∀ q, N q → q < w.heap.size) (h1 : 1 ≤ d.items.length) (h2 : 1 ≤ d.told.length) :
    ∃ w', w' = (w.setCell ⟨s, 0, none⟩ (.slice (if ca = 1 then a else a.map (·.add (1 * 2))) (d.items.length - 1) (ca - 1))) ∧ w'.cell? ⟨s, 1, none⟩ = some (.slice b d.told.length cb) ∧ w'.frozen? ⟨s, 1, none⟩ = false ∧
      RSndIs (w'.setCell ⟨s, 1, none⟩ (.slice (if cb = 1 then b else b.map (·.add (1 * 1))) (d.told.length - 1) (cb - 1))) N s (.slice (if ca = 1 then a else a.map (·.add (1 * 2))) (d.items.length - 1) (ca - 1)) (.slice (if cb = 1 then b else b.map (·.add (1 * 1))) (d.told.length - 1) (cb - 1)) { d with items := d.items.drop 1, told := d.told.drop 1 } ∧
      Mut (fun q => q = s) w (w'.setCell ⟨s, 1, none⟩ (.slice (if cb = 1 then b else b.map (·.add (1 * 1))) (d.told.length - 1) (cb - 1))) := by
  obtain ⟨xs, g1, g2⟩ := h.it
  have hxl : xs.length = d.items.length := by have := g2.1; simpa using this
  have hd := g1.drop (n := 1) (by rw [hxl]) (by omega)
  rw [hxl] at hd
  have hels : ElsAt w (fun b' => N b' ∨ (Value.slice (if ca = 1 then a else a.map (·.add (1 * 2))) (d.items.length - 1) (ca - 1)).ownBlock = some b') (xs.drop 1) ((d.items.drop 1).map itemC) := by
    have g3 : ElsAt w N (xs.drop 1) ((d.items.drop 1).map itemC) := by
      refine ⟨by rw [List.length_drop, List.length_map, List.length_drop, hxl], fun k hk => ?_⟩
      rw [List.length_map, List.length_drop] at hk
      obtain ⟨u, hu1, hu2⟩ := g2.2 (k + 1) (by rw [List.length_map]; omega)
      refine ⟨u, ?_, ?_⟩
      · rw [List.getElem?_drop, Nat.add_comm 1 k, hu1]; simp
      · simpa using hu2
    exact g3.grow fun q e => by
      rcases e with e | e
      · exact .inl e
      · exact .inl (h.ni q (ownBlock_map q e)).1
  have hA := h.items' hN (Mut.refl _ _) hd hels (fun q e => .inl (ownBlock_map q e)) (by rw [List.length_drop]; have := h.bl; omega) (fun p hp => h.bq p (List.mem_of_mem_drop hp))
  have hA1 := hA.1.less (N' := N) (fun q e => by
    rcases e with e | e | e
    · rw [e]; exact h.ns
    · exact (h.ni q (ownBlock_map q e)).1
    · exact (h.nt q e).1) (fun q e => .inl (.inl e))
  have ht := hA1.tl.drop (n := 1) (a := b) (c := cb) (by simp [toldC]) (by simp [toldC]; omega)
  have htl : (toldC d.told).drop 1 = toldC (d.told.drop 1) := by unfold toldC; rw [List.map_drop]
  have hll : (toldC d.told).length = d.told.length := by simp [toldC]
  have ht' : RowP (w.setCell ⟨s, 0, none⟩ (.slice (if ca = 1 then a else a.map (·.add (1 * 2))) (d.items.length - 1) (ca - 1))) 0 1 (.slice (if cb = 1 then b else b.map (·.add (1 * 1))) (d.told.length - 1) (cb - 1)) (toldC (d.told.drop 1)) := by
    have := ht
    simp only [htl, hll] at this
    exact this
  have hB := hA1.told' (Mut.refl _ _) ht' (fun q e => .inl (ownBlock_map q e))
  refine ⟨_, rfl, hA1.box.c1, hA1.box.f 1, ?_, ?_⟩
  · exact hB.1.less (N' := N) (fun q e => by
      rcases e with e | e | e
      · rw [e]; exact h.ns
      · exact (h.ni q (ownBlock_map q e)).1
      · exact (h.nt q (ownBlock_map q e)).1) (fun q e => .inl (.inl e))
  · exact (mut1 (w := w) (s := s) (i := 0)).trans mut1
set_option maxRecDepth 100000 in
set_option maxHeartbeats 3200000 in
theorem rack_any {w : World} {N : Nat → Prop} {s upto : Nat} {iv tv : Value} {d : RSnd} (h : RSndIs w N s iv tv d) (hN : ∀ b, N b → b < w.heap.size) (hl : d.told.length = d.items.length) (_hup : upto < 18446744073709551616) (_hpu : d.puts < 18446744073709551616) :
    Calls Try.prog 45 #[.pointer (some ⟨s, 0, none⟩), .int .u64 upto] w fun e w' => ∃ n : Nat, e = .returned (.int .i64 n) ∧ ∃ iv' tv', RSndIs w' N s iv' tv' (rackD upto d) ∧ (∀ g, iv'.ownBlock = some g → iv.ownBlock = some g) ∧ (∀ g, tv'.ownBlock = some g → tv.ownBlock = some g) ∧ Mut (fun b => b = s) w w' := by
  have c2 := h.box.c2
  by_cases hp : d.puts < upto
  · have t1 : decide ((upto : Int) > (d.puts : Int)) = true := decide_eq_true (by omega)
    have t2 : decide (d.puts < upto) = true := decide_eq_true hp
    have HD : Hid (rackD upto d = d) := hid (by unfold rackD; rw [if_pos hp])
    have HI := hid h
    clear h
    go_enter Try.func45, Try.ntmps45
    go_wp2_with fail
    go_ret
    exact ⟨0, rfl, iv, tv, by rw [HD.out]; exact HI.out, fun g e => e, fun g e => e, Mut.refl _ _⟩
  · have t1 : decide ((upto : Int) > (d.puts : Int)) = false := decide_eq_false (by omega)
    have t2 : decide (d.puts < upto) = false := decide_eq_false hp
    have HD : Hid (rackD upto d = { d with items := d.items.drop (rackN upto d.items), told := d.told.drop (rackN upto d.items) }) := hid (by unfold rackD; rw [if_neg hp])
    have HI0 : Hid (RSndIs w N s iv tv { d with items := d.items.drop 0, told := d.told.drop 0 }) := hid h
    have HL := hid hl
    have HNN := hid hN
    have HBL := hid h.bl
    have HBQ := hid h.bq
    clear h hl hN
    go_enter Try.func45, Try.ntmps45
    go_wp2_with fail
    go_loopw [5] (fun kv wr => ∃ k iv' tv', kv = .int .i64 (k : Nat) ∧ k ≤ d.items.length ∧ Hid (RSndIs wr N s iv' tv' { d with items := d.items.drop k, told := d.told.drop k }) ∧ Hid (rackN upto d.items = k + rackN upto (d.items.drop k)) ∧ Hid (∀ g, iv'.ownBlock = some g → iv.ownBlock = some g) ∧ Hid (∀ g, tv'.ownBlock = some g → tv.ownBlock = some g) ∧ Hid (Mut (fun b => b = s) w wr)) (fun kv _ => d.items.length - (intOf kv).toNat)
    case atStart => exact ⟨0, iv, tv, rfl, Nat.zero_le _, HI0, hid (by simp), hid (fun g e => e), hid (fun g e => e), hid (Mut.refl _ _)⟩
    case round =>
      obtain ⟨k, iv', tv', rfl, hk, HI, HK, HIV, HTV, HM⟩ := hrel
      rename World => wr
      obtain ⟨a, ca, hia, hca⟩ := HI.out.it_lit
      obtain ⟨b, cb, htb, hcb⟩ := HI.out.told_lit
      have hil : (d.items.drop k).length = d.items.length - k := List.length_drop
      have htl : (d.told.drop k).length = d.items.length - k := by rw [List.length_drop, HL.out]
      simp only [hil] at hia
      simp only [htl] at htb
      subst hia
      subst htb
      obtain ⟨m, hm⟩ : ∃ m, d.items.length - k = m := ⟨_, rfl⟩
      rw [hm] at HI HIV HTV
      have c0 := HI.out.box.c0
      have c1 := HI.out.box.c1
      have f0 := HI.out.box.f 0
      have hil' : (d.items.drop k).length = m := by rw [hil, hm]
      have htl' : (d.told.drop k).length = m := by rw [htl, hm]
      simp only [hil'] at hca
      simp only [htl'] at hcb
      by_cases hm0 : 0 < m
      · obtain ⟨p, hp'⟩ : ∃ p, d.items[k]? = some p := ⟨_, List.getElem?_eq_getElem (by omega)⟩
        have hpd : (d.items.drop k)[0]? = some p := by rw [List.getElem?_drop]; exact hp'
        obtain ⟨g, off, cap, u, e, hg, q0, q1, -⟩ := HI.out.item hpd
        injection e with e1 e2 e3
        subst e1
        clear e2 e3
        rw [Nat.zero_mul, Nat.add_zero] at q0
        have t1' : decide ((m : Int) > 0) = true := decide_eq_true (by omega)
        have t2' : decide (0 < m) = true := decide_eq_true hm0
        have hrk := rackN_drop (upto := upto) hp'
        by_cases hpu' : p.1 ≤ upto
        · have t3' : decide ((p.1 : Int) ≤ (upto : Int)) = true := decide_eq_true (by omega)
          have t4' : decide (p.1 ≤ upto) = true := decide_eq_true hpu'
          rw [if_pos hpu'] at hrk
          have HRK : Hid (rackN upto d.items = (k + 1) + rackN upto (d.items.drop (k + 1))) := hid (by rw [HK.out, hrk]; omega)
          have hI2 := HI.out
          have hI3 : RSndIs wr N s (.slice (some ⟨g, off, none⟩) (d.items.drop k).length ca) (.slice b (d.told.drop k).length cb) { d with items := d.items.drop k, told := d.told.drop k } := by rw [hil', htl']; exact hI2
          obtain ⟨w5, hw5, k1, f1, hcut, hmt⟩ := RSndIs.cut (d := { d with items := d.items.drop k, told := d.told.drop k }) hI3 (fun q hq => Nat.lt_of_lt_of_le (HNN.out q hq) HM.out.size) (by show 1 ≤ (d.items.drop k).length; omega) (by show 1 ≤ (d.told.drop k).length; omega)
          simp only [hil', htl', List.drop_drop] at hw5 k1 hcut hmt
          have r1 : ∀ W, (Instr.slice 65 (.slice (some ⟨g, off, none⟩) m ca) (some (.int .i64 1)) none none).run Try.prog W = .ok (.slice (if ca = 1 then some ⟨g, off, none⟩ else (some (⟨g, off, none⟩ : Addr)).map (·.add (1 * 2))) (m - 1) (ca - 1)) W := fun W => run_fromP Try.underlying65 sizeItem (a := some ⟨g, off, none⟩) (n := m) (c := ca) (k := 1) (by omega) W
          have r2 : ∀ W, (Instr.slice 23 (.slice b m cb) (some (.int .i64 1)) none none).run Try.prog W = .ok (.slice (if cb = 1 then b else b.map (·.add (1 * 1))) (m - 1) (cb - 1)) W := fun W => run_fromP Try.underlying23 sizeBool (a := b) (n := m) (c := cb) (k := 1) (by omega) W
          have f1' := HI.out.box.f 1
          have hbl := HBL.out
          have hkl : k < d.items.length := by omega
          have HIV2 : Hid (∀ g', (Value.slice (if ca = 1 then some ⟨g, off, none⟩ else (some (⟨g, off, none⟩ : Addr)).map (·.add (1 * 2))) (m - 1) (ca - 1)).ownBlock = some g' → iv.ownBlock = some g') := hid fun g' e => HIV.out g' (ownBlock_map g' e)
          have HTV2 : Hid (∀ g', (Value.slice (if cb = 1 then b else b.map (·.add (1 * 1))) (m - 1) (cb - 1)).ownBlock = some g' → tv.ownBlock = some g') := hid fun g' e => HTV.out g' (ownBlock_map g' e)
          obtain ⟨x1, hx1⟩ : ∃ x1, (if ca = 1 then some ⟨g, off, none⟩ else (some (⟨g, off, none⟩ : Addr)).map (·.add (1 * 2))) = x1 := ⟨_, rfl⟩
          obtain ⟨x2, hx2⟩ : ∃ x2, (if cb = 1 then b else b.map (·.add (1 * 1))) = x2 := ⟨_, rfl⟩
          rw [hx1] at HIV2 hw5 hcut
          rw [hx2] at HTV2 hcut hmt
          simp only [hx1] at r1
          simp only [hx2] at r2
          have HC := hid hcut
          have HMT := hid hmt
          have hm1 : (m : Int) - 1 = ((m - 1 : Nat) : Int) := by omega
          clear hI2 hI3 hcut hmt hp' hpd hrk hil htl hil' htl' q1 hx1 hx2 HI HIV HTV
          go_wp2_with fail
          subst hw5
          refine ⟨⟨k + 1, _, _, by go_num, by omega, HC, HRK, HIV2, HTV2, hid (HM.out.trans HMT.out)⟩, ?_⟩
          simp [intOf]; omega
        · have t3' : decide ((p.1 : Int) ≤ (upto : Int)) = false := decide_eq_false (by omega)
          have t4' : decide (p.1 ≤ upto) = false := decide_eq_false hpu'
          rw [if_neg hpu'] at hrk
          have HRK : Hid (rackN upto d.items = k) := hid (by rw [HK.out, hrk]; omega)
          clear hp' hpd hrk hil htl hil' htl' q1
          go_wp2_with fail
          go_ret
          exact ⟨k, rfl, _, _, by rw [HD.out, HRK.out]; exact HI.out, HIV.out, HTV.out, HM.out⟩
      · have hm00 : m = 0 := by omega
        subst hm00
        have HRK : Hid (rackN upto d.items = k) := hid (by rw [HK.out, List.drop_eq_nil_of_le (by omega)]; rfl)
        clear hil htl hil' htl'
        go_wp2_with fail
        go_ret
        exact ⟨k, rfl, _, _, by rw [HD.out, HRK.out]; exact HI.out, HIV.out, HTV.out, HM.out⟩
end Go.Proofs.Ytidohmpnefcpcaa

namespace Go.Proofs.Ytidohmpnefcpcaa
open Go.RowKit
/-! ### delete (as in B3) -/
theorem del_eq {α β : Type} [DecidableEq α] {x : α} : ∀ {L : List (α × β)} {i j : Nat} {v : β}, lookI x L i = some (j, v) → del x L = L.eraseIdx (j - i)
  | [], _, _, _, h => by simp [lookI] at h
  | p :: l, i, j, v, h => by
    simp only [lookI] at h
    split at h
    · next hx =>
      simp only [Option.some.injEq, Prod.mk.injEq] at h
      obtain ⟨rfl, _⟩ := h
      simp [del, hx]
    · next hx =>
      have h1 := lookI_some h
      have e : j - i = (j - (i + 1)) + 1 := by omega
      rw [e]
      simp only [del, if_neg hx, List.eraseIdx_cons_succ, del_eq h]
theorem del_none {α β : Type} [DecidableEq α] {x : α} : ∀ {L : List (α × β)} {i : Nat}, lookI x L i = none → del x L = L
  | [], _, _ => rfl
  | p :: l, i, h => by
    simp only [lookI] at h
    split at h
    · simp at h
    · next hx => simp [del, if_neg hx, del_none h]
theorem map_eraseIdx' {α β : Type} (f : α → β) : ∀ (l : List α) (j : Nat), (l.eraseIdx j).map f = (l.map f).eraseIdx j
  | [], _ => rfl
  | _ :: _, 0 => rfl
  | a :: l, j + 1 => by simp [map_eraseIdx' f l j]
theorem MapIs.delete {α β : Type} [DecidableEq α] {ke : α → Value} {ve : β → Value} {P : Program} {K : TypeId} {w : World} {r : Nat} {L : List (α × β)} (h : MapIs w r ke ve L) (kk : KeyOk P K ke) {t e : TypeId} (ht : P.underlying t = some (.map K e)) (x : α) :
    ∃ w', (∀ ty, (Builtin.delete_ #[t, K] ty #[.map (some r), ke x]).run P w = .ok (.tuple #[]) w') ∧ MapIs w' r ke ve (del x L) ∧ But r w w' := by
  obtain ⟨es, clock, hb, he, hbn⟩ := h
  have hf := find_run (w := w) kk he x
  cases hq : lookI x L 0 with
  | none =>
    rw [hq] at hf
    refine ⟨{ w with heap := w.heap.setIfInBounds r (.map es clock) }, fun ty => by simp [Builtin.delete_, run_underlying ht, MapKept.run_getObj_map hb, kk.check, hf, MapKept.run_setObj_map _ hb, Result.andThen], ⟨_, _, (MapKept.heap_set hb).1, by rw [del_none hq]; exact he, hbn⟩, But.of_set _ _ _⟩
  | some q =>
    obtain ⟨j, u⟩ := q
    rw [hq] at hf
    have hlen : es.toList.length = L.length := by simpa using congrArg List.length he
    have hj : j < es.size := by have := (lookI_some hq).2.1; simp at hlen; omega
    refine ⟨{ w with heap := w.heap.setIfInBounds r (.map (es.eraseIdxIfInBounds j) clock) }, fun ty => by simp [Builtin.delete_, run_underlying ht, MapKept.run_getObj_map hb, kk.check, hf, MapKept.run_setObj_map _ hb, Result.andThen], ⟨_, _, (MapKept.heap_set hb).1, ?_, ?_⟩, But.of_set _ _ _⟩
    · rw [del_eq hq, Nat.sub_zero]
      have : (es.eraseIdxIfInBounds j).toList = es.toList.eraseIdx j := by simp [Array.eraseIdxIfInBounds, hj, Array.toList_eraseIdx]
      rw [this, map_eraseIdx', he, map_eraseIdx']
    · have : (es.eraseIdxIfInBounds j).toList = es.toList.eraseIdx j := by simp [Array.eraseIdxIfInBounds, hj, Array.toList_eraseIdx]
      have hs : (es.toList.eraseIdx j).Sublist es.toList := List.eraseIdx_sublist _ _
      exact ⟨by rw [this]; exact hbn.1.sublist (hs.map _), fun e he' => hbn.2 e (hs.subset (by rw [← this]; exact he'))⟩
end Go.Proofs.Ytidohmpnefcpcaa

namespace Go.Proofs.Ytidohmpnefcpcaa
open Go.RowKit
open Go.Instr Go.MapKept
/-! ### a link in the heap -/
abbrev ke64 : Nat → Value := fun x => .int .u64 (x : Int)
theorem key64 (K : TypeId) (hK : Try.prog.underlying K = some (.int .u64)) : KeyOk Try.prog K ke64 where
  find := by
    intro x L es w h
    simp only [findKey, Sem.run_bind, run_underlying hK, Result.andThen]
    have : ∀ (es : List MapEntry) (L : List (Nat × Value)) (i : Nat), es.map (fun e => (e.key, e.val)) = L.map (fun p => (ke64 p.1, p.2)) → findNow (.int .u64) (ke64 x) es i = some (lookI x L i) := by
      intro es
      induction es with
      | nil => intro L i h; cases L with | nil => rfl | cons _ _ => simp at h
      | cons e es ih =>
        intro L i h
        cases L with
        | nil => simp at h
        | cons p L =>
          simp only [List.map_cons, List.cons.injEq, Prod.mk.injEq] at h
          obtain ⟨⟨h1, h2⟩, h3⟩ := h
          simp only [findNow, h1, sameNow, lookI, if_true]
          by_cases hx : x = p.1
          · simp [hx, h2]
          · have hb : ((x : Int) == (p.1 : Int)) = false := by simp; omega
            simp [hx, hb, ih L (i + 1) h3]
    rw [this es L 0 h]
    simp
  check := by intro b x w; exact run_checkKey (n := 9999) hK (by simp [IsKey]) b
  same := by intro x; simp [sameBits]
theorem key64_t : KeyOk Try.prog 39 ke64 := key64 39 Try.underlying39
/-- four cells that may be written -/
structure Box4 (w : World) (b : Nat) (v0 v1 v2 v3 : Value) : Prop where
  c0 : w.cell? ⟨b, 0, none⟩ = some v0
  c1 : w.cell? ⟨b, 1, none⟩ = some v1
  c2 : w.cell? ⟨b, 2, none⟩ = some v2
  c3 : w.cell? ⟨b, 3, none⟩ = some v3
  f : ∀ j, w.frozen? ⟨b, j, none⟩ = false
section
variable {w w' : World} {b : Nat} {v0 v1 v2 v3 : Value}
theorem Box4.lt (h : Box4 w b v0 v1 v2 v3) : b < w.heap.size := World.block_lt_of_cell? w _ h.c0
theorem Box4.mut {G : Nat → Prop} (h : Box4 w b v0 v1 v2 v3) (hm : Mut G w w') (hG : ¬ G b) : Box4 w' b v0 v1 v2 v3 :=
  ⟨(hm.cell h.lt hG).trans h.c0, (hm.cell h.lt hG).trans h.c1, (hm.cell h.lt hG).trans h.c2, (hm.cell h.lt hG).trans h.c3, fun j => (World.frozen?_of_block (w := w) (a := ⟨b, j, none⟩) (hm.block b h.lt hG)).trans (h.f j)⟩
theorem Box4.made (w : World) (t : TypeId) (v0 v1 v2 v3 : Value) : Box4 (w.alloc (.cells #[v0, v1, v2, v3] t)) w.heap.size v0 v1 v2 v3 := ⟨by simp, by simp, by simp, by simp, fun j => by simp⟩
theorem Box4.set1 (h : Box4 w b v0 v1 v2 v3) (u : Value) : Box4 (w.setCell ⟨b, 1, none⟩ u) b v0 u v2 v3 :=
  ⟨by rw [cellOff (by omega)]; exact h.c0, World.cell?_setCell_same _ _ _ h.c1, by rw [cellOff (by omega)]; exact h.c2, by rw [cellOff (by omega)]; exact h.c3, fun j => by simp [h.f j]⟩
theorem Box4.set3 (h : Box4 w b v0 v1 v2 v3) (u : Value) : Box4 (w.setCell ⟨b, 3, none⟩ u) b v0 v1 v2 u :=
  ⟨by rw [cellOff (by omega)]; exact h.c0, by rw [cellOff (by omega)]; exact h.c1, by rw [cellOff (by omega)]; exact h.c2, World.cell?_setCell_same _ _ _ h.c3, fun j => by simp [h.f j]⟩
end
/-- what a link holds -/
structure LnkD where
  snd : SndD
  upto : Nat
  held : List (Nat × List Nat)
  owes : Bool
/-- where its parts lie -/
structure LnkP where
  lb : Nat
  sb : Nat
  hm : Nat
  wv : Value
def fpL (p : LnkP) (b : Nat) : Prop := b = p.lb ∨ b = p.sb ∨ b = p.hm ∨ p.wv.ownBlock = some b
def HeldL (w : World) (N : Nat → Prop) : List (Nat × Value) → List (Nat × List Nat) → Prop
  | [], [] => True
  | (q, u) :: l, (q', b) :: m => q = q' ∧ ItemAt w N u b ∧ HeldL w N l m
  | _, _ => False
theorem HeldL.mono {w w' : World} {N N' : Nat → Prop} (h : ∀ u b, ItemAt w N u b → ItemAt w' N' u b) : ∀ {l : List (Nat × Value)} {m : List (Nat × List Nat)}, HeldL w N l m → HeldL w' N' l m
  | [], [], _ => trivial
  | (q, u) :: l, (q', b) :: m, hl => ⟨hl.1, h u b hl.2.1, HeldL.mono h hl.2.2⟩
  | [], _ :: _, hl => hl.elim
  | _ :: _, [], hl => hl.elim
theorem HeldL.look {w : World} {N : Nat → Prop} (x : Nat) : ∀ {l : List (Nat × Value)} {m : List (Nat × List Nat)}, HeldL w N l m → (look x l = none ∧ look x m = none) ∨ ∃ u b, look x l = some u ∧ look x m = some b ∧ ItemAt w N u b
  | [], [], _ => .inl ⟨rfl, rfl⟩
  | (q, u) :: l, (q', b) :: m, hl => by
    obtain ⟨e, h1, h2⟩ := hl
    subst e
    simp only [Proofs.Ytidohmpnefcpcaa.look]
    by_cases hx : x = q
    · exact .inr ⟨u, b, by rw [if_pos hx], by rw [if_pos hx], h1⟩
    · rw [if_neg hx, if_neg hx]; exact HeldL.look x h2
  | [], _ :: _, hl => hl.elim
  | _ :: _, [], hl => hl.elim
theorem HeldL.del {w : World} {N : Nat → Prop} (x : Nat) : ∀ {l : List (Nat × Value)} {m : List (Nat × List Nat)}, HeldL w N l m → HeldL w N (del x l) (del x m)
  | [], [], _ => trivial
  | (q, u) :: l, (q', b) :: m, hl => by
    obtain ⟨e, h1, h2⟩ := hl
    subst e
    simp only [Proofs.Ytidohmpnefcpcaa.del]
    by_cases hx : x = q
    · rw [if_pos hx, if_pos hx]; exact h2
    · rw [if_neg hx, if_neg hx]; exact ⟨rfl, h1, HeldL.del x h2⟩
  | [], _ :: _, hl => hl.elim
  | _ :: _, [], hl => hl.elim
theorem HeldL.ins {w : World} {N : Nat → Prop} (x : Nat) {v : Value} {c : List Nat} (hv : ItemAt w N v c) : ∀ {l : List (Nat × Value)} {m : List (Nat × List Nat)}, HeldL w N l m → HeldL w N (ins x v l) (ins x c m)
  | [], [], _ => ⟨rfl, hv, trivial⟩
  | (q, u) :: l, (q', b) :: m, hl => by
    obtain ⟨e, h1, h2⟩ := hl
    subst e
    simp only [Proofs.Ytidohmpnefcpcaa.ins]
    by_cases hx : x = q
    · rw [if_pos hx, if_pos hx]; exact ⟨rfl, hv, h2⟩
    · rw [if_neg hx, if_neg hx]; exact ⟨rfl, h1, HeldL.ins x hv h2⟩
  | [], _ :: _, hl => hl.elim
  | _ :: _, [], hl => hl.elim
/-- what is held: the map's values are texts that stay -/
def HeldIs (w : World) (N : Nat → Prop) (hm : Nat) (held : List (Nat × List Nat)) : Prop :=
  ∃ hvs : List (Nat × Value), MapIs w hm ke64 (fun v => v) hvs ∧ HeldL w N hvs held
theorem HeldIs.mut {w w' : World} {N G : Nat → Prop} {hm : Nat} {held : List (Nat × List Nat)} (h : HeldIs w N hm held) (hmu : Mut G w w') (hG : ∀ b, b < w.heap.size → G b → N b) (hf : ¬ G hm) : HeldIs w' N hm held := by
  obtain ⟨hvs, h1, h2⟩ := h
  exact ⟨hvs, h1.same (hmu.block _ h1.lt hf), h2.mono fun u b e => e.mut hmu hG⟩
theorem HeldIs.grow {w : World} {N N' : Nat → Prop} {hm : Nat} {held : List (Nat × List Nat)} (h : HeldIs w N hm held) (hN : ∀ b, N' b → N b ∨ w.heap.size ≤ b) : HeldIs w N' hm held := by
  obtain ⟨hvs, h1, h2⟩ := h
  exact ⟨hvs, h1, h2.mono fun u b e => e.grow hN⟩
structure LnkIs (w : World) (N : Nat → Prop) (p : LnkP) (d : LnkD) : Prop where
  box : Box4 w p.lb (.pointer (some ⟨p.sb, 0, none⟩)) (.int .u64 d.upto) (.map (some p.hm)) (.bool d.owes)
  snd : ∃ us, SndIs w N p.sb p.wv us d.snd
  held : HeldIs w N p.hm d.held
  hlt : p.hm < w.heap.size
  nl : N p.lb
  nh : N p.hm
  d1 : p.lb ≠ p.sb
  d2 : p.lb ≠ p.hm
  d3 : p.sb ≠ p.hm
  d4 : ∀ g, p.wv.ownBlock = some g → g ≠ p.lb ∧ g ≠ p.hm
  u0 : d.upto < 18446744073709551616
section
variable {w w' : World} {N N' G : Nat → Prop} {p : LnkP} {d : LnkD}
theorem LnkIs.ns (h : LnkIs w N p d) : N p.sb := by obtain ⟨us, hs⟩ := h.snd; exact hs.ns
theorem LnkIs.nw (h : LnkIs w N p d) : ∀ g, p.wv.ownBlock = some g → N g ∧ g ≠ p.sb := by obtain ⟨us, hs⟩ := h.snd; exact hs.nw
theorem LnkIs.fp (h : LnkIs w N p d) : ∀ b, fpL p b → N b := fun b e => by
  rcases e with e | e | e | e
  · rw [e]; exact h.nl
  · rw [e]; exact h.ns
  · rw [e]; exact h.nh
  · exact (h.nw b e).1
theorem LnkIs.fplt (h : LnkIs w N p d) : ∀ b, fpL p b → b < w.heap.size := fun b e => by
  obtain ⟨us, hs⟩ := h.snd
  rcases e with e | e | e | e
  · rw [e]; exact h.box.lt
  · rw [e]; exact hs.box.lt
  · rw [e]; exact h.hlt
  · exact (hs.row.blk e).2
theorem LnkIs.mut (h : LnkIs w N p d) (hm : Mut G w w') (hG : ∀ b, b < w.heap.size → G b → N b) (hf : ∀ b, fpL p b → ¬ G b) : LnkIs w' N p d := by
  obtain ⟨us, hs⟩ := h.snd
  refine ⟨h.box.mut hm (hf _ (.inl rfl)), ⟨us, hs.mut hm hG fun b e => hf b (e.elim (fun e => .inr (.inl e)) fun e => .inr (.inr (.inr e)))⟩, h.held.mut hm hG (hf _ (.inr (.inr (.inl rfl)))), ?_, h.nl, h.nh, h.d1, h.d2, h.d3, h.d4, h.u0⟩
  have := h.hlt; have := hm.size; omega
theorem LnkIs.ext (h : LnkIs w N p d) (hb : Below w.heap.size w w') : LnkIs w' N p d :=
  h.mut (Mut.of_below (F := fun _ => False) hb) (fun _ _ e => e.elim) fun _ _ e => e
theorem LnkIs.less (h : LnkIs w N p d) (hf : ∀ b, fpL p b → N' b) (hN : ∀ b, N' b → N b ∨ w.heap.size ≤ b) : LnkIs w N' p d := by
  obtain ⟨us, hs⟩ := h.snd
  exact ⟨h.box, ⟨us, hs.less (hf _ (.inr (.inl rfl))) (fun g e => hf _ (.inr (.inr (.inr e)))) hN⟩, h.held.grow hN, h.hlt, hf _ (.inl rfl), hf _ (.inr (.inr (.inl rfl))), h.d1, h.d2, h.d3, h.d4, h.u0⟩
/-- a call that wrote nothing but the sender's blocks -/
theorem LnkIs.sent {wv' : Value} {us' : List Value} {sd : SndD} (h : LnkIs w N p d) (hm : Mut (fpS p.sb p.wv) w w') (hNN : ∀ b, N b → N' b) (hN : ∀ b, N' b → N b ∨ w.heap.size ≤ b) (hs : SndIs w' N' p.sb wv' us' sd) (hnew : ∀ g, wv'.ownBlock = some g → p.wv.ownBlock = some g ∨ w.heap.size ≤ g) : LnkIs w' N' { p with wv := wv' } { d with snd := sd } := by
  have n1 : ∀ b, fpS p.sb p.wv b → b ≠ p.lb ∧ b ≠ p.hm := fun b e => by
    rcases e with e | e
    · rw [e]; exact ⟨fun e => h.d1 e.symm, h.d3⟩
    · exact h.d4 b e
  have hG : ∀ b, b < w.heap.size → fpS p.sb p.wv b → N' b := fun b _ e => hNN b (h.fp b (e.elim (fun e => .inr (.inl e)) fun e => .inr (.inr (.inr e))))
  refine ⟨h.box.mut hm fun e => (n1 _ e).1 rfl, ⟨us', hs⟩, (h.held.grow hN).mut hm hG fun e => (n1 _ e).2 rfl, ?_, hNN _ h.nl, hNN _ h.nh, h.d1, h.d2, h.d3, fun g e => ?_, h.u0⟩
  · exact Nat.lt_of_lt_of_le h.hlt hm.size
  · rcases hnew g e with e | e
    · exact h.d4 g e
    · have h1 := h.box.lt
      have h2 := h.hlt
      exact ⟨fun e2 => absurd (show g = p.lb from e2) (by omega), fun e2 => absurd (show g = p.hm from e2) (by omega)⟩
end
def lnkNew : LnkD := ⟨sndNew, 0, [], false⟩
set_option maxRecDepth 100000 in
set_option maxHeartbeats 1600000 in
theorem lnew_any (w : World) (N : Nat → Prop) (hN : ∀ b, N b → b < w.heap.size) : Calls Try.prog 50 #[] w fun e w' => ∃ p : LnkP, e = .returned (.pointer (some ⟨p.lb, 0, none⟩)) ∧ Below w.heap.size w w' ∧ LnkIs w' (fun b => N b ∨ fpL p b) p lnkNew ∧ ∀ b, fpL p b → w.heap.size ≤ b := by
  have hmm := @run_makeMap Try.prog
  have CW := wnew_any w
  have HN := hid hN
  go_enter Try.func50, Try.ntmps50
  go_wp2_with (go_at_call 60; refine CW.mono ?_; rintro e w1 ⟨rfl, hw1⟩; subst hw1)
  go_ret
  have hS := SndIs.made w 100 (fun b => N b ∨ fpL ⟨w.heap.size + 1 + 1, w.heap.size, w.heap.size + 1, .slice none 0 0⟩ b) (.inr (.inr (.inl rfl)))
  refine ⟨⟨w.heap.size + 1 + 1, w.heap.size, w.heap.size + 1, .slice none 0 0⟩, by simp, (((Below.refl _ _).alloc (Nat.le_refl _) _).alloc (by simp) _).alloc (by simp; omega) _, ?_, fun b e => ?_⟩
  · refine ⟨?_, ⟨[], (hS.ext ((Below.refl _ _).alloc (Nat.le_refl _) _)).ext ((Below.refl _ _).alloc (Nat.le_refl _) _)⟩, ⟨[], ?_, trivial⟩, (by show w.heap.size + 1 < _; simp), .inr (.inl rfl), .inr (.inr (.inr (.inl rfl))), (show w.heap.size + 1 + 1 ≠ w.heap.size by omega), (show w.heap.size + 1 + 1 ≠ w.heap.size + 1 by omega), (show w.heap.size ≠ w.heap.size + 1 by omega), fun g e => (by cases e), by decide⟩
    · have := Box4.made ((w.alloc (.cells #[.int .u64 1, .slice none 0 0, .int .u32 0, .int .u32 0, .int .u64 0, .int .u64 0] 100)).alloc (.map #[] 0)) 81 (.pointer (some ⟨w.heap.size, 0, none⟩)) (.int .u64 0) (.map (some (w.heap.size + 1))) (.bool false)
      simp only [World.size_alloc] at this ⊢
      exact this
    · have := MapIs.made (ke := ke64) (ve := fun v : Value => v) (w.alloc (.cells #[.int .u64 1, .slice none 0 0, .int .u32 0, .int .u32 0, .int .u64 0, .int .u64 0] 100))
      simpa using this.alloc _
  · rcases e with e | e | e | e
    · have e : b = w.heap.size + 1 + 1 := e
      omega
    · have e : b = w.heap.size := e
      omega
    · have e : b = w.heap.size + 1 := e
      omega
    · cases e
/-- Owes, Upto -/
theorem lowes_any {w : World} {N : Nat → Prop} {p : LnkP} {d : LnkD} (h : LnkIs w N p d) : Calls Try.prog 33 #[.pointer (some ⟨p.lb, 0, none⟩)] w fun e w' => e = .returned (.bool d.owes) ∧ LnkIs w' N p { d with owes := false } ∧ Mut (fun b => b = p.lb) w w' := by
  have c3 := h.box.c3
  have f3 := h.box.f 3
  have HI := hid h
  clear h
  go_enter Try.func33, Try.ntmps33
  go_wp2_with fail
  go_ret
  have h := HI.out
  have hm : Mut (fun b => b = p.lb) w (w.setCell ⟨p.lb, 3, none⟩ (.bool false)) := mut1
  have hk := h.mut hm (fun b _ e => by rw [show b = p.lb from e]; exact h.nl)
  obtain ⟨us, hs⟩ := h.snd
  refine ⟨rfl, ⟨h.box.set3 _, ⟨us, hs.mut hm (fun b _ e => by rw [show b = p.lb from e]; exact h.nl) fun b e e2 => ?_⟩, h.held.mut hm (fun b _ e => by rw [show b = p.lb from e]; exact h.nl) fun e => h.d2 e.symm, by simp; exact h.hlt, h.nl, h.nh, h.d1, h.d2, h.d3, h.d4, h.u0⟩, hm⟩
  have e2 : b = p.lb := e2
  rcases e with e | e
  · exact h.d1 (e2.symm.trans e)
  · exact (h.d4 b e).1 e2
theorem lupto_any {w : World} {N : Nat → Prop} {p : LnkP} {d : LnkD} (h : LnkIs w N p d) : Calls Try.prog 34 #[.pointer (some ⟨p.lb, 0, none⟩)] w fun e w' => e = .returned (.int .u64 d.upto) ∧ Below w.heap.size w w' := by
  have c1 := h.box.c1
  clear h
  go_enter Try.func34, Try.ntmps34
  go_wp2_with fail
  go_ret
  exact ⟨rfl, Below.refl _ _⟩
end Go.Proofs.Ytidohmpnefcpcaa

