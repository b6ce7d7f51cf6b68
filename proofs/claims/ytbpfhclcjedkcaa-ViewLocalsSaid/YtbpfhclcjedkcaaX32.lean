import Derived.Test.YtbpfhclcjedkcaaX31
namespace Go.Proofs.Ytbpfhclcjedkcaa
open Go.RowKit

/-! ### lists of lists, each in a block of the call's own; boxes of four cells -/
theorem infoPs : (Try.prog.info? 30).map (fun i => (i.zero, i.size, i.bytes)) = some (some (.slice none 0 0), 1, 24) := by kernel_rfl
theorem OwnP.grownN {w w' : World} {base : Nat} {v : Value} {xs : List Pid} {row : Option Nat} (h : OwnP w base v xs) (hg : w.grownBy w' row) (hne : ∀ g, v.ownBlock = some g → row ≠ some g) : OwnP w' base v xs := by
  refine ⟨h.1, ?_⟩
  rcases h.2 with hn | ⟨g, cap, cur, rfl, hbb, hgg, rest⟩
  · exact .inl hn
  · exact .inr ⟨g, cap, cur, rfl, hbb, (hg.block g (Array.getElem?_eq_some_iff.1 hgg).1 (fun e => hne g rfl e.symm)).trans hgg, rest⟩
theorem OwnP.mutN {G : Nat → Prop} {w w' : World} {base : Nat} {v : Value} {xs : List Pid} (h : OwnP w base v xs) (hm : Mut G w w') (hG : ∀ g, v.ownBlock = some g → ¬ G g) : OwnP w' base v xs := by
  refine ⟨h.1, ?_⟩
  rcases h.2 with hn | ⟨g, cap, cur, rfl, hbb, hgg, rest⟩
  · exact .inl hn
  · exact .inr ⟨g, cap, cur, rfl, hbb, (hm.block g (Array.getElem?_eq_some_iff.1 hgg).1 (hG g rfl)).trans hgg, rest⟩
theorem OwnP.blk {w : World} {base : Nat} {v : Value} {xs : List Pid} (h : OwnP w base v xs) {g : Nat} (hg : v.ownBlock = some g) : base ≤ g ∧ g < w.heap.size := World.ownsRow.lt h g hg
def OwnLL (w : World) (base : Nat) (v : Value) (Ls : List (List Pid)) : Prop :=
  ∃ cells : List Value, w.ownsRow base 30 1 v Ls.length cells ∧ ∀ i (h : i < Ls.length), ∃ vi, cells[i]? = some vi ∧ OwnP w base vi Ls[i] ∧ ∀ g, vi.ownBlock = some g → v.ownBlock ≠ some g
theorem OwnLL.nil (w : World) (base : Nat) : OwnLL w base (.slice none 0 0) [] := ⟨[], World.ownsRow_nil _ _ _ _, fun i h => by simp at h⟩
theorem OwnLL.ext {w w' : World} {base : Nat} {v : Value} {Ls : List (List Pid)} (h : OwnLL w base v Ls) (hb : Below w.heap.size w w') : OwnLL w' base v Ls := by
  obtain ⟨cells, ho, he⟩ := h
  refine ⟨cells, ⟨ho.1, ?_⟩, fun i hi => ?_⟩
  · rcases ho.2 with hn | ⟨g, cap, cur, rfl, hbb, hgg, rest⟩
    · exact .inl hn
    · exact .inr ⟨g, cap, cur, rfl, hbb, (hb.block g (Array.getElem?_eq_some_iff.1 hgg).1).trans hgg, rest⟩
  · obtain ⟨vi, h1, h2, h3⟩ := he i hi
    exact ⟨vi, h1, h2.ext hb, h3⟩
theorem OwnLL.mutT {G : Nat → Prop} {w w' : World} {base : Nat} {v : Value} {Ls : List (List Pid)} (h : OwnLL w base v Ls) (hm : Mut G w w') (hG : ∀ k, G k → k < base) : OwnLL w' base v Ls := by
  obtain ⟨cells, ho, he⟩ := h
  refine ⟨cells, ⟨ho.1, ?_⟩, fun i hi => ?_⟩
  · rcases ho.2 with hn | ⟨g, cap, cur, rfl, hbb, hgg, rest⟩
    · exact .inl hn
    · exact .inr ⟨g, cap, cur, rfl, hbb, (hm.block g (Array.getElem?_eq_some_iff.1 hgg).1 (fun hg => by have := hG g hg; omega)).trans hgg, rest⟩
  · obtain ⟨vi, h1, h2, h3⟩ := he i hi
    exact ⟨vi, h1, h2.mutT hm hG, h3⟩
theorem OwnLL.mono {w : World} {b b' : Nat} {v : Value} {Ls : List (List Pid)} (h : OwnLL w b v Ls) (hb : b' ≤ b) : OwnLL w b' v Ls := by
  obtain ⟨cells, ho, he⟩ := h
  refine ⟨cells, ⟨ho.1, ?_⟩, fun i hi => ?_⟩
  · rcases ho.2 with hn | ⟨g, cap, cur, rfl, hbb, rest⟩
    · exact .inl hn
    · exact .inr ⟨g, cap, cur, rfl, by omega, rest⟩
  · obtain ⟨vi, h1, h2, h3⟩ := he i hi
    exact ⟨vi, h1, h2.mono2 hb, h3⟩
theorem OwnLL.row {w : World} {base : Nat} {v : Value} {Ls : List (List Pid)} (h : OwnLL w base v Ls) : ∃ a c, v = .slice a Ls.length c ∧ LeafRow w a Ls := by
  obtain ⟨cells, ho, he⟩ := h
  have hcells := fun g => World.ownsRow.cells (g := g) ho
  rcases ho.2 with ⟨rfl, hn⟩ | ⟨g, cap, cur, rfl, hb, hg, hnc, hcm, hcs, htake⟩
  · exact ⟨none, 0, by rw [hn], .inl (List.length_eq_zero_iff.1 hn)⟩
  · refine ⟨_, cap, rfl, .inr ⟨g, 0, rfl, (Array.getElem?_eq_some_iff.1 hg).1, fun i hi => ?_⟩⟩
    obtain ⟨vi, h1, h2, _⟩ := he i hi
    have := hcells g rfl i _ h1
    rw [addr_add] at this
    obtain ⟨ai, ci, e, hr, _⟩ := h2.row
    exact ⟨ai, ci, by rw [this, e], hr⟩
theorem OwnLL.blk {w : World} {base : Nat} {v : Value} {Ls : List (List Pid)} (h : OwnLL w base v Ls) {g : Nat} (hg : v.ownBlock = some g) : base ≤ g ∧ g < w.heap.size := by
  obtain ⟨cells, ho, _⟩ := h
  exact World.ownsRow.lt ho g hg
theorem grownLL_mut {w w' : World} {base : Nat} {v : Value} {Ls : List (List Pid)} (hg : w.grownBy w' v.ownBlock) (hown : OwnLL w base v Ls) : Mut (fun k => base ≤ k) w w' :=
  ⟨hg.os, hg.tape, hg.output, hg.size, fun k hk hf => hg.block k hk (fun e => hf (hown.blk e.symm).1)⟩
theorem run_appendLL {w : World} {base : Nat} {v vi : Value} {Ls : List (List Pid)} {l : List Pid} {b c : Nat} (hown : OwnLL w base v Ls) (h0 : w.cell? ⟨b, 0, none⟩ = some vi) (hvi : OwnP w base vi l) (hne : ∀ g, vi.ownBlock = some g → v.ownBlock ≠ some g)
    (hlen : Ls.length + 1 ≤ 1099511627776) (hbase : base ≤ w.heap.size) (ty : TypeId) :
    ∃ v' w', (Builtin.append_ #[31, 31] ty #[v, .slice (some ⟨b, 0, none⟩) 1 c]).run Try.prog w = .ok v' w' ∧ OwnLL w' base v' (Ls ++ [l]) ∧ w.grownBy w' v.ownBlock := by
  obtain ⟨i0, hi, hz0, hz1, hz2⟩ := info_parts infoPs
  obtain ⟨cells, hoc, he⟩ := hown
  obtain ⟨ai, ci, e0, -, -⟩ := hvi.row
  obtain ⟨v', w', hrun, h2, h3, h4, h5⟩ := run_append_own_at (P := Try.prog) w base 31 ty 30 i0 _ 1 24 Try.underlying31 hi hz0 hz1 hz2 rfl (by decide) v Ls.length cells hoc ⟨b, 0, none⟩ 1 c [vi] rfl (fun j u hu => by
    have hj : j = 0 := by have := (List.getElem?_eq_some_iff.1 hu).1; simpa using this
    subst hj
    rw [addr_add]
    simp at hu; subst hu
    exact h0) (fun u hu => by simp at hu; subst hu; rw [e0]; rfl) (by unfold maxLen; omega) (by omega) hbase
  have hcl : cells.length = Ls.length := by simpa using hoc.1
  have far : ∀ (u : Value) (m : List Pid), OwnP w base u m → (∀ g, u.ownBlock = some g → v.ownBlock ≠ some g) → ∀ g, u.ownBlock = some g → v'.ownBlock ≠ some g := by
    intro u m hm hno g hg
    rcases h5 with h5 | h5
    · rw [h5]; exact hno g hg
    · rw [h5]
      have := (hm.blk hg).2
      intro e2; simp at e2; omega
  refine ⟨v', w', hrun, ⟨cells ++ [vi], ?_, fun i hi => ?_⟩, h3⟩
  · rw [List.length_append]; exact h2
  · by_cases hlt : i < Ls.length
    · obtain ⟨u, g1, g2, g3⟩ := he i hlt
      rw [List.getElem?_append_left (by omega), List.getElem_append_left hlt]
      exact ⟨u, g1, g2.grownN h3 g3, far u _ g2 g3⟩
    · have hi' : i = Ls.length := by simp at hi; omega
      subst hi'
      rw [List.getElem?_append_right (by omega), List.getElem_append_right (by omega)]
      simp only [hcl, Nat.sub_self, List.getElem?_cons_zero, List.getElem_cons_zero]
      exact ⟨vi, rfl, hvi.grownN h3 hne, far vi l hvi hne⟩
/-- append of a row at an operation of a region that draws -/
theorem step_appendLL {w : World} {o : Oper} {a : Go.Act} {K : Go.Act → World → Prop} {Q : Exit → Go.Act → World → Prop} {y : Nat → Option Bool} {s x : Operand} {base : Nat} {v vi : Value} {Ls : List (List Pid)} {l : List Pid} {b c : Nat} (hw : Region.wanted o y = true) (hown : OwnLL w base v Ls) (h0 : w.cell? ⟨b, 0, none⟩ = some vi) (hvi : OwnP w base vi l)
    (hne : ∀ g, vi.ownBlock = some g → v.ownBlock ≠ some g) (hlen : Ls.length + 1 ≤ 1099511627776) (hbase : base ≤ w.heap.size)
    (ho : o.op = .call { callee := .builtin .append, args := #[s, x], argTypes := #[31, 31] }) (hs : a.eval s = v) (hx : a.eval x = .slice (some ⟨b, 0, none⟩) 1 c)
    (h : ∀ v' w', OwnLL w' base v' (Ls ++ [l]) → w.grownBy w' v.ownBlock → K (a.put o.dst v') w') : if Region.wanted o y = true then Oper.wp Try.prog o a w K Q else K (a.put o.dst undef) w := by
  rw [if_pos hw]
  obtain ⟨v', w', hr, h2, h3⟩ := run_appendLL hown h0 hvi hne hlen hbase (c := c) o.type
  exact Lib.wp_append_run w s x 31 31 ho _ _ hs hx v' w' hr (h v' w' h2 h3)
theorem off2t {w : World} {b q j : Nat} {x : Value} (hc : j ≠ q) : (w.setCell ⟨b, q, none⟩ x).cell? ⟨b, j, none⟩ = w.cell? ⟨b, j, none⟩ :=
  World.cell?_setCell_other _ _ _ _ (by intro e; injection e with e1 e2; exact hc e2.symm)
/-- a block of four cells that may be written -/
structure BoxV (w : World) (b : Nat) (v0 v1 v2 v3 : Value) : Prop where
  c0 : w.cell? ⟨b, 0, none⟩ = some v0
  c1 : w.cell? ⟨b, 1, none⟩ = some v1
  c2 : w.cell? ⟨b, 2, none⟩ = some v2
  c3 : w.cell? ⟨b, 3, none⟩ = some v3
  f0 : w.frozen? ⟨b, 0, none⟩ = false
  f1 : w.frozen? ⟨b, 1, none⟩ = false
  f2 : w.frozen? ⟨b, 2, none⟩ = false
  f3 : w.frozen? ⟨b, 3, none⟩ = false
section
variable {w w' : World} {b : Nat} {v0 v1 v2 v3 : Value}
theorem BoxV.lt (h : BoxV w b v0 v1 v2 v3) : b < w.heap.size := World.block_lt_of_cell? w _ h.c0
theorem BoxV.ext (h : BoxV w b v0 v1 v2 v3) (hb : Below w.heap.size w w') : BoxV w' b v0 v1 v2 v3 :=
  ⟨cell_toB h.c0 hb, cell_toB h.c1 hb, cell_toB h.c2 hb, cell_toB h.c3 hb, (hb.frozen (by exact h.lt)).trans h.f0, (hb.frozen (by exact h.lt)).trans h.f1, (hb.frozen (by exact h.lt)).trans h.f2, (hb.frozen (by exact h.lt)).trans h.f3⟩
theorem BoxV.made (w : World) (t : TypeId) (v0 v1 v2 v3 : Value) : BoxV (w.alloc (.cells #[v0, v1, v2, v3] t)) w.heap.size v0 v1 v2 v3 := ⟨by simp, by simp, by simp, by simp, by simp, by simp, by simp, by simp⟩
theorem BoxV.mutT {G : Nat → Prop} (h : BoxV w b v0 v1 v2 v3) (hm : Mut G w w') (hG : ¬ G b) : BoxV w' b v0 v1 v2 v3 := by
  have g : ∀ j, w'.frozen? ⟨b, j, none⟩ = w.frozen? ⟨b, j, none⟩ := fun j => World.frozen?_of_block (w := w) (a := ⟨b, j, none⟩) (hm.block b h.lt hG)
  exact ⟨cell_mut h.c0 hm hG, cell_mut h.c1 hm hG, cell_mut h.c2 hm hG, cell_mut h.c3 hm hG, (g 0).trans h.f0, (g 1).trans h.f1, (g 2).trans h.f2, (g 3).trans h.f3⟩
theorem BoxV.set2 (h : BoxV w b v0 v1 v2 v3) (u : Value) : BoxV (w.setCell ⟨b, 2, none⟩ u) b v0 v1 u v3 :=
  ⟨by rw [off2t (by omega)]; exact h.c0, by rw [off2t (by omega)]; exact h.c1, World.cell?_setCell_same _ _ _ h.c2, by rw [off2t (by omega)]; exact h.c3, by simp [h.f0], by simp [h.f1], by simp [h.f2], by simp [h.f3]⟩
theorem BoxV.set3 (h : BoxV w b v0 v1 v2 v3) (u : Value) : BoxV (w.setCell ⟨b, 3, none⟩ u) b v0 v1 v2 u :=
  ⟨by rw [off2t (by omega)]; exact h.c0, by rw [off2t (by omega)]; exact h.c1, by rw [off2t (by omega)]; exact h.c2, World.cell?_setCell_same _ _ _ h.c3, by simp [h.f0], by simp [h.f1], by simp [h.f2], by simp [h.f3]⟩
theorem BoxV.put (h : BoxV w b v0 v1 v2 v3) (u0 u1 u2 u3 : Value) : BoxV ((((w.setCell ⟨b, 0, none⟩ u0).setCell ⟨b, 1, none⟩ u1).setCell ⟨b, 2, none⟩ u2).setCell ⟨b, 3, none⟩ u3) b u0 u1 u2 u3 := by
  obtain ⟨c0, c1, c2, c3, f0, f1, f2, f3⟩ := h
  refine ⟨?_, ?_, ?_, ?_, by simp [f0], by simp [f1], by simp [f2], by simp [f3]⟩
  · rw [off2t (by omega), off2t (by omega), off2t (by omega)]; exact World.cell?_setCell_same _ _ _ c0
  · rw [off2t (by omega), off2t (by omega)]; exact World.cell?_setCell_same _ _ _ (by rw [off2t (by omega)]; exact c1)
  · rw [off2t (by omega)]; exact World.cell?_setCell_same _ _ _ (by rw [off2t (by omega), off2t (by omega)]; exact c2)
  · exact World.cell?_setCell_same _ _ _ (by rw [off2t (by omega), off2t (by omega), off2t (by omega)]; exact c3)
theorem mutV (w : World) (b : Nat) (u0 u1 u2 u3 : Value) : Mut (fun k => k = b) w ((((w.setCell ⟨b, 0, none⟩ u0).setCell ⟨b, 1, none⟩ u1).setCell ⟨b, 2, none⟩ u2).setCell ⟨b, 3, none⟩ u3) :=
  ((mut1.trans mut1).trans mut1).trans mut1
end
/-! ### lengths of what is read -/
theorem rPidsN_len : ∀ {n : Nat} {S : RS}, (rPidsN n S).1.length ≤ n
  | 0, S => by simp [rPidsN]
  | n + 1, S => by
    unfold rPidsN
    split
    · simp
    · simp only [List.length_cons]; have := rPidsN_len (n := n) (S := (rPid S).2); omega
theorem rPids_len {m : Nat} {S : RS} : (rPids m S).1.length ≤ m := by
  unfold rPids
  split
  · simp
  · split
    · simp
    · have h1 := rPidsN_len (n := (rNum m S).1) (S := (rNum m S).2)
      have h2 := rNum_le (most := m) (S := S)
      omega
theorem rPidsN_ok : ∀ {n : Nat} {S : RS}, ∀ p ∈ (rPidsN n S).1, okP p
  | 0, S => by simp [rPidsN]
  | n + 1, S => by
    unfold rPidsN
    split
    · simp
    · intro p hp
      rcases List.mem_cons.1 hp with rfl | hp
      · exact rPid_ok S
      · exact rPidsN_ok p hp
theorem rPids_ok {m : Nat} {S : RS} : ∀ p ∈ (rPids m S).1, okP p := by
  unfold rPids
  split
  · simp
  · split
    · simp
    · exact rPidsN_ok
theorem rPlacesN_len {ms : List Pid} : ∀ {n : Nat} {S : RS}, (rPlacesN ms n S).1.length ≤ n
  | 0, S => by simp [rPlacesN]
  | n + 1, S => by
    unfold rPlacesN
    split
    · simp
    · split
      · simp
      · simp only [List.length_cons]; have := rPlacesN_len (ms := ms) (n := n) (S := (rNum (ms.length - 1) S).2); omega
theorem rPlaces_len {ms : List Pid} {S : RS} : (rPlaces ms S).1.length ≤ 24 := by
  unfold rPlaces
  have h1 := rPlacesN_len (ms := ms) (n := (rNum 24 S).1) (S := (rNum 24 S).2)
  have h2 := rNum_le (most := 24) (S := S)
  omega
theorem rLeaves_len {ms : List Pid} : ∀ {n : Nat} {S : RS}, (rLeaves ms n S).1.length ≤ n ∧ ∀ l ∈ (rLeaves ms n S).1, l.length ≤ 24
  | 0, S => by simp [rLeaves]
  | n + 1, S => by
    unfold rLeaves
    split
    · simp
    · have := rLeaves_len (ms := ms) (n := n) (S := (rPlaces ms S).2)
      refine ⟨by simp only [List.length_cons]; omega, fun l hl => ?_⟩
      rcases List.mem_cons.1 hl with rfl | hl
      · exact rPlaces_len
      · exact this.2 l hl
theorem rLeaves_stop {ms : List Pid} {n : Nat} {S : RS} (he : S.e ≠ 0) : rLeaves ms n S = ([], S) := by
  cases n with
  | zero => rfl
  | succ n => unfold rLeaves; rw [if_pos he]
theorem rLeaves_step {ms l : List Pid} {n : Nat} {S S2 : RS} (he : S.e = 0) (hp : rPlaces ms S = (l, S2)) : rLeaves ms (n + 1) S = (l :: (rLeaves ms n S2).1, (rLeaves ms n S2).2) := by
  have h2 : rLeaves ms (n + 1) S = if S.e ≠ 0 then ([], S) else ((rPlaces ms S).1 :: (rLeaves ms n (rPlaces ms S).2).1, (rLeaves ms n (rPlaces ms S).2).2) := rfl
  rw [h2, if_neg (by simp [he]), hp]
end Go.Proofs.Ytbpfhclcjedkcaa
