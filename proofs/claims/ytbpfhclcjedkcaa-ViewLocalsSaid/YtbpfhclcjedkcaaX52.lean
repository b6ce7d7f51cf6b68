import Derived.Test.YtbpfhclcjedkcaaX51
namespace Go.Proofs.Ytbpfhclcjedkcaa
open Go.RowKit

/-! ### rows of views -/
theorem infoV : (Try.prog.info? 33).map (fun i => (i.zero, i.size, i.bytes)) = some (some (.agg #[.int .u64 0, .slice none 0 0, .slice none 0 0, .slice none 0 0]), 4, 80) := by kernel_rfl
/-- a view and where its rows lie -/
structure VE where
  V : View
  am : Option Addr
  al : Option Addr
  ad : Option Addr
  cm : Nat
  cl : Nat
  cd : Nat
def VE.cells (e : VE) : List Value := [.int .u64 e.V.id, .slice e.am e.V.ms.length e.cm, .slice e.al e.V.ls.length e.cl, .slice e.ad e.V.ds.length e.cd]
def veCells (es : List VE) : List Value := es.flatMap VE.cells
theorem veCells_length : ∀ (es : List VE), (veCells es).length = es.length * 4
  | [] => rfl
  | e :: l => by
    have := veCells_length l
    unfold veCells at this ⊢
    simp only [List.flatMap_cons, List.length_append, this, List.length_cons]
    show 4 + _ = _
    omega
theorem veCells_append (xs ys : List VE) : veCells (xs ++ ys) = veCells xs ++ veCells ys := by simp [veCells]
theorem veCells_get : ∀ (es : List VE) (i : Nat) (h : i < es.length), (veCells es)[i * 4]? = some (.int .u64 es[i].V.id) ∧ (veCells es)[i * 4 + 1]? = some (.slice es[i].am es[i].V.ms.length es[i].cm) ∧ (veCells es)[i * 4 + 2]? = some (.slice es[i].al es[i].V.ls.length es[i].cl) ∧ (veCells es)[i * 4 + 3]? = some (.slice es[i].ad es[i].V.ds.length es[i].cd)
  | e :: l, 0, _ => by simp [veCells, VE.cells]
  | e :: l, i + 1, h => by
    have := veCells_get l i (by simpa using h)
    have e1 : veCells (e :: l) = e.cells ++ veCells l := by simp [veCells]
    have e2 : e.cells.length = 4 := rfl
    rw [e1, show (i + 1) * 4 = i * 4 + 4 by omega]
    refine ⟨?_, ?_, ?_, ?_⟩
    · rw [List.getElem?_append_right (by omega), e2]; simpa using this.1
    · rw [List.getElem?_append_right (by omega), e2, show i * 4 + 4 + 1 - 4 = i * 4 + 1 by omega]; simpa using this.2.1
    · rw [List.getElem?_append_right (by omega), e2, show i * 4 + 4 + 2 - 4 = i * 4 + 2 by omega]; simpa using this.2.2.1
    · rw [List.getElem?_append_right (by omega), e2, show i * 4 + 4 + 3 - 4 = i * 4 + 3 by omega]; simpa using this.2.2.2
/-- a slice of views, as it came -/
structure VRow (w : World) (a : Option Addr) (es : List VE) : Prop where
  row : es = [] ∨ ∃ b off, a = some ⟨b, off, none⟩ ∧ b < w.heap.size ∧ ∀ i (h : i < es.length), w.cell? ⟨b, off + i * 4, none⟩ = some (.int .u64 es[i].V.id) ∧ w.cell? ⟨b, off + i * 4 + 1, none⟩ = some (.slice es[i].am es[i].V.ms.length es[i].cm) ∧ w.cell? ⟨b, off + i * 4 + 2, none⟩ = some (.slice es[i].al es[i].V.ls.length es[i].cl) ∧ w.cell? ⟨b, off + i * 4 + 3, none⟩ = some (.slice es[i].ad es[i].V.ds.length es[i].cd)
  vs : ∀ e ∈ es, ViewR w e.am e.al e.ad e.V
theorem VRow.at {w wr : World} {a : Option Addr} {es : List VE} (h : VRow w a es) (hb : Below w.heap.size w wr) {k : Nat} (hk : k < es.length) :
    ∃ b off e, a = some ⟨b, off, none⟩ ∧ e = es[k] ∧ wr.cell? ⟨b, off + k * 4, none⟩ = some (.int .u64 e.V.id) ∧ wr.cell? ⟨b, off + k * 4 + 1, none⟩ = some (.slice e.am e.V.ms.length e.cm) ∧ wr.cell? ⟨b, off + k * 4 + 2, none⟩ = some (.slice e.al e.V.ls.length e.cl) ∧ wr.cell? ⟨b, off + k * 4 + 3, none⟩ = some (.slice e.ad e.V.ds.length e.cd) ∧ ViewR w e.am e.al e.ad e.V := by
  rcases h.row with rfl | ⟨b, off, rfl, hlt, hc⟩
  · simp at hk
  · obtain ⟨h0, h1, h2, h3⟩ := hc k hk
    exact ⟨b, off, es[k], rfl, rfl, cell_toB h0 hb, cell_toB h1 hb, cell_toB h2 hb, cell_toB h3 hb, h.vs _ (List.getElem_mem _)⟩
theorem VRow.ext {w w' : World} {a : Option Addr} {es : List VE} (h : VRow w a es) (hb : Below w.heap.size w w') : VRow w' a es := by
  refine ⟨?_, fun e he => (h.vs e he).ext hb⟩
  rcases h.row with h0 | ⟨b, off, rfl, hlt, hc⟩
  · exact .inl h0
  · exact .inr ⟨b, off, rfl, by have := hb.size; omega, fun i hi => by
      obtain ⟨h0, h1, h2, h3⟩ := hc i hi
      exact ⟨cell_toB h0 hb, cell_toB h1 hb, cell_toB h2 hb, cell_toB h3 hb⟩⟩
/-- a row of views in a block of the call's own -/
def OwnV (w : World) (base : Nat) (v : Value) (es : List VE) : Prop :=
  w.ownsRow base 33 4 v es.length (veCells es) ∧ ∀ e ∈ es, ∀ W', Mut (fun k => v.ownBlock = some k) w W' → ViewR W' e.am e.al e.ad e.V
theorem OwnV.nil (w : World) (base : Nat) : OwnV w base (.slice none 0 0) [] := ⟨World.ownsRow_nil _ _ _ _, fun e he => by cases he⟩
theorem OwnV.ext {w w' : World} {base : Nat} {v : Value} {es : List VE} (h : OwnV w base v es) (hb : Below w.heap.size w w') : OwnV w' base v es := by
  refine ⟨⟨h.1.1, ?_⟩, fun e he W' hm => h.2 e he W' ((Mut.of_below hb).trans hm)⟩
  rcases h.1.2 with hn | ⟨g, cap, cur, rfl, hbb, hgg, rest⟩
  · exact .inl hn
  · exact .inr ⟨g, cap, cur, rfl, hbb, (hb.block g (Array.getElem?_eq_some_iff.1 hgg).1).trans hgg, rest⟩
theorem OwnV.blk {w : World} {base : Nat} {v : Value} {es : List VE} (h : OwnV w base v es) {g : Nat} (hg : v.ownBlock = some g) : base ≤ g ∧ g < w.heap.size := World.ownsRow.lt h.1 g hg
theorem OwnV.row {w : World} {base : Nat} {v : Value} {es : List VE} (h : OwnV w base v es) : ∃ a c, v = .slice a es.length c ∧ VRow w a es ∧ ∀ b off, a = some ⟨b, off, none⟩ → off = 0 ∧ base ≤ b := by
  have hcells := fun g => World.ownsRow.cells (g := g) h.1
  have hv : ∀ e ∈ es, ViewR w e.am e.al e.ad e.V := fun e he => h.2 e he w (Mut.refl _ _)
  rcases h.1.2 with ⟨rfl, hn⟩ | ⟨g, cap, cur, rfl, hb, hg, hnc, hcm, hcs, htake⟩
  · exact ⟨none, 0, by rw [hn], ⟨.inl (List.length_eq_zero_iff.1 hn), hv⟩, by simp⟩
  · refine ⟨_, cap, rfl, ⟨.inr ⟨g, 0, rfl, (Array.getElem?_eq_some_iff.1 hg).1, fun i hi => ?_⟩, hv⟩, fun b off e => by cases e; exact ⟨rfl, hb⟩⟩
    obtain ⟨g0, g1, g2, g3⟩ := veCells_get es i hi
    have h0 := hcells g rfl _ _ g0
    have h1 := hcells g rfl _ _ g1
    have h2 := hcells g rfl _ _ g2
    have h3 := hcells g rfl _ _ g3
    rw [addr_add] at h0 h1 h2 h3
    exact ⟨h0, h1, h2, h3⟩
theorem run_appendV {w : World} {base : Nat} {v : Value} {es : List VE} {e : VE} {b c : Nat} (hown : OwnV w base v es) (h0 : ∀ j u, e.cells[j]? = some u → w.cell? ⟨b, j, none⟩ = some u) (hst : ∀ W', Mut (fun k => v.ownBlock = some k) w W' → ViewR W' e.am e.al e.ad e.V)
    (hlen : es.length + 1 ≤ 1099511627) (hbase : base ≤ w.heap.size) (ty : TypeId) :
    ∃ v' w', (Builtin.append_ #[22, 22] ty #[v, .slice (some ⟨b, 0, none⟩) 1 c]).run Try.prog w = .ok v' w' ∧ OwnV w' base v' (es ++ [e]) ∧ w.grownBy w' v.ownBlock := by
  obtain ⟨i0, hi, hz0, hz1, hz2⟩ := info_parts infoV
  obtain ⟨v', w', hrun, h2, h3, h4, h5⟩ := run_append_own_at (P := Try.prog) w base 22 ty 33 i0 _ 4 80 Try.underlying22 hi hz0 hz1 hz2 rfl (by decide) v es.length (veCells es) hown.1 ⟨b, 0, none⟩ 1 c e.cells rfl (fun j u hu => by
    rw [addr_add, Nat.zero_add]; exact h0 j u hu) (fun u hu => by
      simp only [VE.cells, List.mem_cons, List.not_mem_nil, or_false] at hu
      rcases hu with rfl | rfl | rfl | rfl <;> rfl) (by unfold maxLen; omega) (by omega) hbase
  have key : ∀ (e' : VE), (∀ W', Mut (fun k => v.ownBlock = some k) w W' → ViewR W' e'.am e'.al e'.ad e'.V) → ∀ W', Mut (fun k => v'.ownBlock = some k) w' W' → ViewR W' e'.am e'.al e'.ad e'.V := by
    intro e' he W' hm
    refine he W' ⟨hm.os.trans h3.os, hm.tape.trans h3.tape, hm.output.trans h3.output, Nat.le_trans h3.size hm.size, fun k hk hg => ?_⟩
    refine (hm.block k (Nat.lt_of_lt_of_le hk h3.size) (fun hg' => ?_)).trans (h3.block k hk (fun e => hg e.symm))
    rcases h5 with h5 | h5
    · exact hg (h5.symm.trans hg')
    · rw [h5] at hg'; simp at hg'; omega
  refine ⟨v', w', hrun, ⟨?_, fun e' he' => ?_⟩, h3⟩
  · have e1 : veCells (es ++ [e]) = veCells es ++ e.cells := by rw [veCells_append]; simp [veCells]
    rw [List.length_append, e1]; exact h2
  · rcases List.mem_append.1 he' with h | h
    · exact key e' (hown.2 e' h)
    · have : e' = e := by simpa using h
      subst this
      exact key e' hst
theorem wpList_appendV {w : World} {ops : Array Oper} {rest : List Oper} {o : Oper} {a : Act} {Q : Exit → Act → World → Prop} {s x : Operand} {base : Nat} {v : Value} {es : List VE} {e : VE} {b c : Nat} (hown : OwnV w base v es) (h0 : ∀ j u, e.cells[j]? = some u → w.cell? ⟨b, j, none⟩ = some u) (hst : ∀ W', Mut (fun k => v.ownBlock = some k) w W' → ViewR W' e.am e.al e.ad e.V)
    (hlen : es.length + 1 ≤ 1099511627) (hbase : base ≤ w.heap.size)
    (hg : o.guard = none) (ho : o.op = .call { callee := .builtin .append, args := #[s, x], argTypes := #[22, 22] }) (hs : a.eval s = v) (hx : a.eval x = .slice (some ⟨b, 0, none⟩) 1 c)
    (h : ∀ v' w', OwnV w' base v' (es ++ [e]) → w.grownBy w' v.ownBlock → wpList Try.prog ops Q rest (a.put o.dst v') w') : wpList Try.prog ops Q (o :: rest) a w := by
  obtain ⟨v', w', hr, h2, h3⟩ := run_appendV hown h0 hst hlen hbase (c := c) o.type
  exact Lib.wpList_append_run w hg s x 22 22 ho _ _ hs hx v' w' hr (h v' w' h2 h3)
theorem below_grownV {B : Nat} {w0 w w' : World} {base : Nat} {v : Value} {es : List VE} (hb : Below B w0 w) (hg : w.grownBy w' v.ownBlock) (hown : OwnV w base v es) (hB : B ≤ w.heap.size) (hbase : B ≤ base) : Below B w0 w' :=
  hb.grown hg hB (fun g hg => Nat.le_trans hbase (World.ownsRow.lt hown.1 g hg).1)
theorem VE.at4 {e : VE} {w : World} {t : TypeId} {fr : Nat × Nat} : ∀ j u, e.cells[j]? = some u → (w.alloc (.cells #[.int .u64 e.V.id, .slice e.am e.V.ms.length e.cm, .slice e.al e.V.ls.length e.cl, .slice e.ad e.V.ds.length e.cd] t fr)).cell? ⟨w.heap.size, j, none⟩ = some u := by
  intro j u hu
  match j, hu with
  | 0, hu => rw [World.cell?_alloc_mark]; exact hu
  | 1, hu => rw [World.cell?_alloc_mark]; exact hu
  | 2, hu => rw [World.cell?_alloc_mark]; exact hu
  | 3, hu => rw [World.cell?_alloc_mark]; exact hu
  | n + 4, hu => simp [VE.cells] at hu
/-! ### a row, in plain words -/
def stepV (row : List View) (l : View) : List View :=
  if 0 < l.id then (match row.getLast? with | none => row ++ [l] | some u => if u.ms = l.ms then row else row ++ [l]) else row
def rowE (es : List VE) (p : Pid) : List View := es.foldl (fun r e => stepV r (localV e.V p)) []
theorem rowE_succ {es : List VE} {k : Nat} (h : k < es.length) {e : VE} (he : e = es[k]) (p : Pid) : rowE (es.take (k + 1)) p = stepV (rowE (es.take k) p) (localV e.V p) := by
  rw [List.take_succ_eq_append_getElem h, ← he]
  unfold rowE
  rw [List.foldl_append]; rfl
theorem stepV_0 {row : List View} {l : View} (h : l.id = 0) : stepV row l = row := by unfold stepV; rw [if_neg (by omega)]
theorem stepV_nil {l : View} (h : 0 < l.id) : stepV [] l = [l] := by unfold stepV; rw [if_pos h]; rfl
theorem stepV_same {es : List VE} {l : View} (h : 0 < l.id) {m : Nat} (hm : es.length = m + 1) {u : VE} (hu : u = es[m]'(by omega)) (e : u.V.ms = l.ms) : stepV (es.map (·.V)) l = es.map (·.V) := by
  unfold stepV
  rw [if_pos h, List.getLast?_eq_getElem?]
  simp only [List.length_map, hm, Nat.add_sub_cancel, List.getElem?_map]
  rw [List.getElem?_eq_getElem (by omega), ← hu]
  simp [e]
theorem stepV_new {es : List VE} {l : View} (h : 0 < l.id) {m : Nat} (hm : es.length = m + 1) {u : VE} (hu : u = es[m]'(by omega)) (e : u.V.ms ≠ l.ms) : stepV (es.map (·.V)) l = es.map (·.V) ++ [l] := by
  unfold stepV
  rw [if_pos h, List.getLast?_eq_getElem?]
  simp only [List.length_map, hm, Nat.add_sub_cancel, List.getElem?_map]
  rw [List.getElem?_eq_getElem (by omega), ← hu]
  simp [e]
theorem equal_n {a b : Option Addr} {ca cb n m : Nat} {xs ys : List Pid} {w : World} {r : Bool} (h : Hid (decide (xs = ys) = r)) (hn : Hid (xs.length = n)) (hm : Hid (ys.length = m)) (hnl : n ≤ 70368744177664) (hml : m ≤ 70368744177664) (hx : PidRow w a xs) (hy : PidRow w b ys) :
   Calls Try.prog 88 #[.slice a n ca, .slice b m cb] w fun e w' => e = .returned (.bool r) ∧ Below w.heap.size w w' := by
  have hn := hn.out; have hm := hm.out; subst hn hm
  have := equal_any a b ca cb xs ys w hnl hml hx hy
  rw [← h.out]; exact this
theorem sameR_n {a b : Option Addr} {ca cb n m : Nat} {xs ys : List Pid} {w : World} {r : Bool} (h : Hid (decide (xs = ys) = r)) (hn : Hid (xs.length = n)) (hm : Hid (ys.length = m)) (hnl : n ≤ 70368744177664) (hml : m ≤ 70368744177664) (hx : PidRow w a xs) (hy : PidRow w b ys) :
   Calls Try.prog 66 #[.slice a n ca, .slice b m cb] w fun e w' => e = .returned (.bool r) ∧ Below w.heap.size w w' := by
  have hn := hn.out; have hm := hm.out; subst hn hm
  have := sameR_any a b ca cb xs ys w hnl hml hx hy
  rw [← h.out]; exact this
end Go.Proofs.Ytbpfhclcjedkcaa
