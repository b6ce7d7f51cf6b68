/- Parts of the proof: X105. -/
import Derived.Test.YtbpfhclcjedkcaaLa15
import Derived.Test.YtbpfhclcjedkcaaLa23
namespace Go.Proofs.Ytbpfhclcjedkcaa
open Go.RowKit
/-! ### moves: rows of them -/
abbrev Mv := Pid × Int × Int
theorem infoM : (Try.prog.info? 76).map (fun i => (i.zero, i.size, i.bytes)) = some (some (.agg #[.int .u16 0, .int .u32 0, .int .i64 0, .int .i64 0]), 4, 24) := by kernel_rfl
def mvC (m : Mv) : List Value := [.int .u16 m.1.1, .int .u32 m.1.2, .int .i64 m.2.1, .int .i64 m.2.2]
def mvCells (xs : List Mv) : List Value := xs.flatMap mvC
theorem mvCells_append (xs ys : List Mv) : mvCells (xs ++ ys) = mvCells xs ++ mvCells ys := by simp [mvCells]
theorem mvCells_get : ∀ (es : List Mv) (i : Nat) (h : i < es.length), (mvCells es)[i * 4]? = some (.int .u16 es[i].1.1) ∧ (mvCells es)[i * 4 + 1]? = some (.int .u32 es[i].1.2) ∧ (mvCells es)[i * 4 + 2]? = some (.int .i64 es[i].2.1) ∧ (mvCells es)[i * 4 + 3]? = some (.int .i64 es[i].2.2)
  | e :: l, 0, _ => by simp [mvCells, mvC]
  | e :: l, i + 1, h => by
    have := mvCells_get l i (by simpa using h)
    have e1 : mvCells (e :: l) = mvC e ++ mvCells l := by simp [mvCells]
    have e2 : (mvC e).length = 4 := rfl
    rw [e1, show (i + 1) * 4 = i * 4 + 4 by omega]
    refine ⟨?_, ?_, ?_, ?_⟩
    · rw [List.getElem?_append_right (by omega), e2]; simpa using this.1
    · rw [List.getElem?_append_right (by omega), e2, show i * 4 + 4 + 1 - 4 = i * 4 + 1 by omega]; simpa using this.2.1
    · rw [List.getElem?_append_right (by omega), e2, show i * 4 + 4 + 2 - 4 = i * 4 + 2 by omega]; simpa using this.2.2.1
    · rw [List.getElem?_append_right (by omega), e2, show i * 4 + 4 + 3 - 4 = i * 4 + 3 by omega]; simpa using this.2.2.2
def MvRow (w : World) (a : Option Addr) (es : List Mv) : Prop :=
  es = [] ∨ ∃ b off, a = some ⟨b, off, none⟩ ∧ b < w.heap.size ∧ ∀ i (h : i < es.length), w.cell? ⟨b, off + i * 4, none⟩ = some (.int .u16 es[i].1.1) ∧ w.cell? ⟨b, off + i * 4 + 1, none⟩ = some (.int .u32 es[i].1.2) ∧ w.cell? ⟨b, off + i * 4 + 2, none⟩ = some (.int .i64 es[i].2.1) ∧ w.cell? ⟨b, off + i * 4 + 3, none⟩ = some (.int .i64 es[i].2.2)
theorem MvRow.ext {w w' : World} {a : Option Addr} {es : List Mv} (h : MvRow w a es) (hb : Below w.heap.size w w') : MvRow w' a es := by
  rcases h with h0 | ⟨b, off, rfl, hlt, hc⟩
  · exact .inl h0
  · exact .inr ⟨b, off, rfl, by have := hb.size; omega, fun i hi => by
      obtain ⟨h0, h1, h2, h3⟩ := hc i hi
      exact ⟨cell_toB h0 hb, cell_toB h1 hb, cell_toB h2 hb, cell_toB h3 hb⟩⟩
def OwnM (w : World) (base : Nat) (v : Value) (es : List Mv) : Prop := w.ownsRow base 76 4 v es.length (mvCells es)
theorem OwnM.nil (w : World) (base : Nat) : OwnM w base (.slice none 0 0) [] := World.ownsRow_nil _ _ _ _
theorem OwnM.ext {w w' : World} {base : Nat} {v : Value} {es : List Mv} (h : OwnM w base v es) (hb : Below w.heap.size w w') : OwnM w' base v es := by
  refine ⟨h.1, ?_⟩
  rcases h.2 with hn | ⟨g, cap, cur, rfl, hbb, hgg, rest⟩
  · exact .inl hn
  · exact .inr ⟨g, cap, cur, rfl, hbb, (hb.block g (Array.getElem?_eq_some_iff.1 hgg).1).trans hgg, rest⟩
theorem OwnM.mono2 {w : World} {b b' : Nat} {v : Value} {xs : List Mv} (h : OwnM w b v xs) (hb : b' ≤ b) : OwnM w b' v xs := by
  refine ⟨h.1, ?_⟩
  rcases h.2 with hn | ⟨g, cap, cur, rfl, hbb, rest⟩
  · exact .inl hn
  · exact .inr ⟨g, cap, cur, rfl, Nat.le_trans hb hbb, rest⟩
theorem OwnM.row {w : World} {base : Nat} {v : Value} {es : List Mv} (h : OwnM w base v es) : ∃ a c, v = .slice a es.length c ∧ MvRow w a es := by
  have hcells := fun g => World.ownsRow.cells (g := g) h
  rcases h.2 with ⟨rfl, hn⟩ | ⟨g, cap, cur, rfl, hb, hg, hnc, hcm, hcs, htake⟩
  · exact ⟨none, 0, by rw [hn], .inl (List.length_eq_zero_iff.1 hn)⟩
  · refine ⟨_, cap, rfl, .inr ⟨g, 0, rfl, (Array.getElem?_eq_some_iff.1 hg).1, fun i hi => ?_⟩⟩
    obtain ⟨g0, g1, g2, g3⟩ := mvCells_get es i hi
    have h0 := hcells g rfl _ _ g0
    have h1 := hcells g rfl _ _ g1
    have h2 := hcells g rfl _ _ g2
    have h3 := hcells g rfl _ _ g3
    rw [addr_add] at h0 h1 h2 h3
    exact ⟨h0, h1, h2, h3⟩
theorem run_appendM {w : World} {base : Nat} {v : Value} {es : List Mv} {e : Mv} {b c : Nat} (hown : OwnM w base v es) (h0 : ∀ j u, (mvC e)[j]? = some u → w.cell? ⟨b, j, none⟩ = some u) (hlen : es.length + 1 ≤ 1099511627) (hbase : base ≤ w.heap.size) (ty : TypeId) :
    ∃ v' w', (Builtin.append_ #[73, 73] ty #[v, .slice (some ⟨b, 0, none⟩) 1 c]).run Try.prog w = .ok v' w' ∧ OwnM w' base v' (es ++ [e]) ∧ w.grownBy w' v.ownBlock := by
  obtain ⟨i0, hi, hz0, hz1, hz2⟩ := info_parts infoM
  obtain ⟨v', w', hrun, h2, h3, h4, h5⟩ := run_append_own_at (P := Try.prog) w base 73 ty 76 i0 _ 4 24 Try.underlying73 hi hz0 hz1 hz2 rfl (by decide) v es.length (mvCells es) hown ⟨b, 0, none⟩ 1 c (mvC e) rfl (fun j u hu => by
    rw [addr_add, Nat.zero_add]; exact h0 j u hu) (fun u hu => by
      simp only [mvC, List.mem_cons, List.not_mem_nil, or_false] at hu
      rcases hu with rfl | rfl | rfl | rfl <;> rfl) (by unfold maxLen; omega) (by omega) hbase
  refine ⟨v', w', hrun, ?_, h3⟩
  have e1 : mvCells (es ++ [e]) = mvCells es ++ mvC e := by rw [mvCells_append]; simp [mvCells]
  unfold OwnM
  rw [List.length_append, e1]; exact h2
theorem wpList_appendM {w : World} {ops : Array Oper} {rest : List Oper} {o : Oper} {a : Act} {Q : Exit → Act → World → Prop} {s x : Operand} {base : Nat} {v : Value} {es : List Mv} {e : Mv} {b c : Nat} (hown : OwnM w base v es) (h0 : ∀ j u, (mvC e)[j]? = some u → w.cell? ⟨b, j, none⟩ = some u)
    (hlen : es.length + 1 ≤ 1099511627) (hbase : base ≤ w.heap.size)
    (hg : o.guard = none) (ho : o.op = .call { callee := .builtin .append, args := #[s, x], argTypes := #[73, 73] }) (hs : a.eval s = v) (hx : a.eval x = .slice (some ⟨b, 0, none⟩) 1 c)
    (h : ∀ v' w', OwnM w' base v' (es ++ [e]) → w.grownBy w' v.ownBlock → wpList Try.prog ops Q rest (a.put o.dst v') w') : wpList Try.prog ops Q (o :: rest) a w := by
  obtain ⟨v', w', hr, h2, h3⟩ := run_appendM hown h0 hlen hbase (c := c) o.type
  exact Lib.wpList_append_run w hg s x 73 73 ho _ _ hs hx v' w' hr (h v' w' h2 h3)
theorem below_grownM {B : Nat} {w0 w w' : World} {base : Nat} {v : Value} {es : List Mv} (hb : Below B w0 w) (hg : w.grownBy w' v.ownBlock) (hown : OwnM w base v es) (hB : B ≤ w.heap.size) (hbase : B ≤ base) : Below B w0 w' :=
  hb.grown hg hB (fun g hg => Nat.le_trans hbase (World.ownsRow.lt hown g hg).1)
theorem mv_at4 {x y f t : Int} {w : World} : ∀ j u, (mvC ((x, y), f, t))[j]? = some u → (w.alloc (.cells #[.int .u16 x, .int .u32 y, .int .i64 f, .int .i64 t] 76)).cell? ⟨w.heap.size, j, none⟩ = some u := by
  intro j u hu
  match j, hu with
  | 0, hu => rw [World.cell?_alloc_mark]; exact hu
  | 1, hu => rw [World.cell?_alloc_mark]; exact hu
  | 2, hu => rw [World.cell?_alloc_mark]; exact hu
  | 3, hu => rw [World.cell?_alloc_mark]; exact hu
  | n + 4, hu => simp [mvC] at hu
/-! who moves, in plain words -/
def mvOf (V W : View) (p : Pid) : Mv := (p, leafIx V.ls p, leafIx W.ls p)
def mvKeep (m : Mv) : Bool := m.2.1 != m.2.2
def mvFrom (V W : View) (xs : List Pid) : List Mv := (xs.map (mvOf V W)).filter mvKeep
def allMs (V W : View) : List Pid := V.ms ++ minusP W.ms V.ms
def movesL (V W : View) : List Mv := mvFrom V W (allMs V W)
theorem mvFrom_drop {V W : View} {xs : List Pid} {k : Nat} (h : k < xs.length) {p : Pid} (hp : p = xs[k]) : mvFrom V W (xs.drop k) = (if mvKeep (mvOf V W p) = true then [mvOf V W p] else []) ++ mvFrom V W (xs.drop (k + 1)) := by
  rw [List.drop_eq_getElem_cons h, ← hp]
  unfold mvFrom
  rw [List.map_cons, List.filter_cons]
  split <;> rfl
theorem moves_self (V : View) : movesL V V = [] := by
  unfold movesL mvFrom
  rw [List.filter_eq_nil_iff]
  intro m hm
  obtain ⟨p, -, rfl⟩ := List.mem_map.1 hm
  simp [mvKeep, mvOf]
theorem moves_len {V W : View} (h1 : V.ms.length ≤ 40) (h2 : W.ms.length ≤ 40) : (allMs V W).length ≤ 80 := by
  unfold allMs minusP
  have := List.length_filter_le (fun p => !decide (p ∈ V.ms)) W.ms
  rw [List.length_append]; omega
/-! ### layout.Moves -/
set_option maxRecDepth 100000 in
set_option maxHeartbeats 12800000 in
theorem moves_any {V W : View} {am al ad bm bl bd : Option Addr} {cm cl cd em el ed : Nat} {w : World} (hV : ViewR w am al ad V) (hW : ViewR w bm bl bd W) (hlv : V.ms.length ≤ 40) (hlw : W.ms.length ≤ 40) :
    Calls Try.prog 46 #[.agg #[.int .u64 V.id, .slice am V.ms.length cm, .slice al V.ls.length cl, .slice ad V.ds.length cd], .agg #[.int .u64 W.id, .slice bm W.ms.length em, .slice bl W.ls.length el, .slice bd W.ds.length ed]] w fun e w' => ∃ v, e = .returned v ∧ OwnM w' w.heap.size v (movesL V W) ∧ Below w.heap.size w w' := by
  obtain ⟨W2, hW2⟩ : ∃ W2, ((w.alloc (.cells #[.int .u64 V.id, .slice am V.ms.length cm, .slice al V.ls.length cl, .slice ad V.ds.length cd] 33)).alloc (.cells #[.int .u64 W.id, .slice bm W.ms.length em, .slice bl W.ls.length el, .slice bd W.ds.length ed] 33)) = W2 := ⟨_, rfl⟩
  have hB2 : Below w.heap.size w W2 := by rw [← hW2]; exact ((Below.refl _ _).alloc (Nat.le_refl _) _).alloc (by simp) _
  have xV : ViewBox W2 w.heap.size V am al ad cm cl cd := by rw [← hW2]; exact (ViewBox.made (V := V) w).ext ((Below.refl _ _).alloc (Nat.le_refl _) _) (by simp)
  have xW : ViewBox W2 (w.heap.size + 1) W bm bl bd em el ed := by
    rw [← hW2]
    have := ViewBox.made (V := W) (am := bm) (al := bl) (ad := bd) (cm := em) (cl := el) (cd := ed) (w.alloc (.cells #[.int .u64 V.id, .slice am V.ms.length cm, .slice al V.ls.length cl, .slice ad V.ds.length cd] 33))
    simpa using this
  have hV2 := hV.ext hB2
  have hW2' := hW.ext hB2
  have HS : Hid (∀ X, Below W2.heap.size W2 X → X.cell? ⟨w.heap.size, 1, none⟩ = some (.slice am V.ms.length cm) ∧ X.cell? ⟨w.heap.size + 1, 1, none⟩ = some (.slice bm W.ms.length em)) := hid fun X h => ⟨cell_toB xV.c1 h, cell_toB xW.c1 h⟩
  have hal := moves_len (V := V) (W := W) hlv hlw
  obtain ⟨ms, hms⟩ : ∃ ms, allMs V W = ms := ⟨_, rfl⟩
  have hmv : movesL V W = mvFrom V W ms := by unfold movesL; rw [hms]
  rw [hms] at hal
  obtain ⟨nA, hnA⟩ : ∃ n, ms.length = n := ⟨_, rfl⟩
  obtain ⟨n3, hn3⟩ : ∃ n, (minusP W.ms V.ms).length = n := ⟨_, rfl⟩
  have hn3l : n3 ≤ 40 := by rw [← hn3]; unfold minusP; exact Nat.le_trans (List.length_filter_le _ _) hlw
  have CM : Hid (Calls Try.prog 142 #[.slice bm W.ms.length em, .slice am V.ms.length cm] W2.drew fun e w' => ∃ v, e = .returned v ∧ OwnP w' W2.drew.heap.size v (minusP W.ms V.ms) ∧ Below W2.drew.heap.size W2.drew w') := hid (minus_any bm em W.ms am cm V.ms W2.drew (by omega) (by omega) hW2'.ms.drew hV2.ms.drew)
  have HALL : Hid (V.ms ++ minusP W.ms V.ms = ms) := hid hms
  have HMOV := hid hmv
  have HNA := hid hnA
  have HNAL : Hid (nA ≤ 80) := hid (by omega)
  have HN3 := hid hn3
  have HN3L := hid hn3l
  have HLV := hid hlv
  have HMV := hid hV2.ms
  have HV2 := hid hV2
  have HW2 := hid hW2'
  have HXV := hid xV
  have HXW := hid xW
  have HB2 := hid hB2
  have HZ2 : Hid (W2.heap.size = w.heap.size + 1 + 1) := hid (by rw [← hW2]; simp)
  clear hV hW hlv hlw hB2 xV xW hV2 hW2' hal hms hmv hnA hn3 hn3l
  go_enter Try.func46, Try.ntmps46
  go_wp2
  clear hW2
  refine wp_region_held_drew (S := fun X => X.cell? ⟨w.heap.size, 1, none⟩ = some (.slice am V.ms.length cm) ∧ X.cell? ⟨w.heap.size + 1, 1, none⟩ = some (.slice bm W.ms.length em)) (by kernel_rfl) (by exact HS.out _ (Below.refl _ _).drew) (fun hHeld => ?_)
  refine wpAnyH_take (i := 0) (oi := _) (v := .pointer (some ⟨w.heap.size, 1, none⟩)) rfl (by kernel_rfl) (by kernel_rfl) (by kernel_rfl) (fun _ _ _ h => h) (Or.inl ⟨by rfl, ?_⟩) (by assumption) ?_
  · intro W hSw
    try dsimp only at hSw
    go_simp
  try simp only [Act.put, List.getElem_toArray, List.getElem_cons_succ, List.getElem_cons_zero, List.setIfInBounds_toArray, List.set_cons_zero, List.set_cons_succ]
  refine wpAnyH_take (i := 1) (oi := _) (v := .slice am V.ms.length cm) rfl (by kernel_rfl) (by kernel_rfl) (by kernel_rfl) (fun _ _ _ h => h) (Or.inl ⟨by rfl, ?_⟩) (by assumption) ?_
  · intro W hSw
    try dsimp only at hSw
    obtain ⟨hSw1, hSw2⟩ := hSw
    go_simp
  try simp only [Act.put, List.getElem_toArray, List.getElem_cons_succ, List.getElem_cons_zero, List.setIfInBounds_toArray, List.set_cons_zero, List.set_cons_succ]
  refine wpAnyH_take (i := 2) (oi := _) (v := .pointer (some ⟨w.heap.size + 1, 1, none⟩)) rfl (by kernel_rfl) (by kernel_rfl) (by kernel_rfl) (fun _ _ _ h => h) (Or.inl ⟨by rfl, ?_⟩) (by assumption) ?_
  · intro W hSw
    try dsimp only at hSw
    go_simp
  try simp only [Act.put, List.getElem_toArray, List.getElem_cons_succ, List.getElem_cons_zero, List.setIfInBounds_toArray, List.set_cons_zero, List.set_cons_succ]
  refine wpAnyH_take (i := 3) (oi := _) (v := .slice bm W.ms.length em) rfl (by kernel_rfl) (by kernel_rfl) (by kernel_rfl) (fun _ _ _ h => h) (Or.inl ⟨by rfl, ?_⟩) (by assumption) ?_
  · intro W hSw
    try dsimp only at hSw
    obtain ⟨hSw1, hSw2⟩ := hSw
    go_simp
  try simp only [Act.put, List.getElem_toArray, List.getElem_cons_succ, List.getElem_cons_zero, List.setIfInBounds_toArray, List.set_cons_zero, List.set_cons_succ]
  refine wpAnyH_take (i := 4) (oi := _) (v := .pointer (some ⟨w.heap.size, 1, none⟩)) rfl (by kernel_rfl) (by kernel_rfl) (by kernel_rfl) (fun _ _ _ h => h) (Or.inl ⟨by rfl, ?_⟩) (by assumption) ?_
  · intro W hSw
    try dsimp only at hSw
    go_simp
  try simp only [Act.put, List.getElem_toArray, List.getElem_cons_succ, List.getElem_cons_zero, List.setIfInBounds_toArray, List.set_cons_zero, List.set_cons_succ]
  refine wpAnyH_take (i := 5) (oi := _) (v := .slice am V.ms.length cm) rfl (by kernel_rfl) (by kernel_rfl) (by kernel_rfl) (fun _ _ _ h => h) (Or.inl ⟨by rfl, ?_⟩) (by assumption) ?_
  · intro W hSw
    try dsimp only at hSw
    obtain ⟨hSw1, hSw2⟩ := hSw
    go_simp
  try simp only [Act.put, List.getElem_toArray, List.getElem_cons_succ, List.getElem_cons_zero, List.setIfInBounds_toArray, List.set_cons_zero, List.set_cons_succ]
  refine wpAnyH_take (i := 10) (oi := _) (v := .int .i64 0) rfl (by kernel_rfl) (by kernel_rfl) (by kernel_rfl) (fun _ _ _ h => h) (Or.inl ⟨by rfl, ?_⟩) (by assumption) ?_
  · intro W hSw
    try dsimp only at hSw
    go_simp
  try simp only [Act.put, List.getElem_toArray, List.getElem_cons_succ, List.getElem_cons_zero, List.setIfInBounds_toArray, List.set_cons_zero, List.set_cons_succ]
  refine wpAnyH_ready (rs := [6]) (by kernel_rfl) (by simp) ?_
  refine AllReadyH.cons (o := _) rfl (fun K hK => ?_) AllReadyH.nil
  go_simp
  (with_reducible refine CM.out.mono ?_)
  rintro e w3 ⟨v3, rfl, hown3, hb3⟩
  obtain ⟨a3, c3, e3, hr3, -⟩ := hown3.row
  rw [HN3.out] at e3
  subst e3
  have HB3 : Hid (Below W2.heap.size W2 w3) := hid ((Below.refl _ _).drew.trans hb3)
  have HR3 := hid hr3
  clear hown3 hb3 hr3 CM
  refine hK.out _ _ (HS.out _ HB3.out) (fun hHeld => ?_)
  clear hK K
  try simp only [Act.put, List.getElem_toArray, List.getElem_cons_succ, List.getElem_cons_zero, List.setIfInBounds_toArray, List.set_cons_zero, List.set_cons_succ]
  refine wpAnyH_ready (rs := [7]) (by kernel_rfl) (by simp) ?_
  refine AllReadyH.cons (o := _) rfl (fun K hK => ?_) AllReadyH.nil
  go_simp
  have HB4 := hid (HB3.out.alloc HB3.out.size (.cells #[.slice am V.ms.length cm, .slice a3 n3 c3] 30))
  refine hK.out _ _ (HS.out _ HB4.out) (fun hHeld => ?_)
  clear hK K
  try simp only [Act.put, List.getElem_toArray, List.getElem_cons_succ, List.getElem_cons_zero, List.setIfInBounds_toArray, List.set_cons_zero, List.set_cons_succ]
  have CC := hid (concat2 (w := w3.alloc (.cells #[.slice am V.ms.length cm, .slice a3 n3 c3] 30)) (g := w3.heap.size) (ks := cm) (kc := c3) HALL (hid rfl) HN3 (by have := HLV.out; omega) (by have := HN3L.out; omega) (by simp) (by simp) (HMV.out.ext HB4.out) (HR3.out.ext ((Below.refl _ _).alloc (Nat.le_refl _) _)))
  refine wpAnyH_ready (rs := [8]) (by kernel_rfl) (by simp) ?_
  refine AllReadyH.cons (o := _) rfl (fun K hK => ?_) AllReadyH.nil
  go_simp
  (with_reducible refine CC.out.mono ?_)
  rintro e w5 ⟨v5, rfl, hown5, hb5⟩
  obtain ⟨a5, c5, e5, hr5, -⟩ := hown5.row
  rw [HNA.out] at e5
  subst e5
  have HB5 := hid (HB4.out.trans (hb5.mono HB4.out.size))
  have HR5 := hid hr5
  clear hown5 hb5 hr5 CC
  refine hK.out _ _ (HS.out _ HB5.out) (fun hHeld => ?_)
  clear hK K
  try simp only [Act.put, List.getElem_toArray, List.getElem_cons_succ, List.getElem_cons_zero, List.setIfInBounds_toArray, List.set_cons_zero, List.set_cons_succ]
  refine wpAnyH_ready (rs := [9]) (by kernel_rfl) (by simp) ?_
  refine AllReadyH.cons (o := _) rfl (fun K hK => ?_) AllReadyH.nil
  go_simp
  refine hK.out _ _ (HS.out _ HB5.out) (fun hHeld => ?_)
  clear hK K
  try simp only [Act.put, List.getElem_toArray, List.getElem_cons_succ, List.getElem_cons_zero, List.setIfInBounds_toArray, List.set_cons_zero, List.set_cons_succ]
  refine wpAnyH_done (by kernel_rfl) ?_ _
  clear HS
  have HXV5 := hid (HXV.out.ext HB5.out HXV.out.lt)
  have HXW5 := hid (HXW.out.ext HB5.out HXW.out.lt)
  have HV5 := hid (HV2.out.ext HB5.out)
  have HW5 := hid (HW2.out.ext HB5.out)
  clear HXV HXW HV2 HW2
  go_wp2
  go_loopw [5, 19] (fun v i wr => ∃ (k : Nat) (got : List Mv), k ≤ nA ∧ i = .int .i64 k ∧ got.length ≤ k ∧ Hid (movesL V W = got ++ mvFrom V W (ms.drop k)) ∧ OwnM wr w5.heap.size v got ∧ Below w5.heap.size w5 wr) (fun _ i _ => nA - (intOf i).toNat)
  case atStart => exact ⟨0, [], Nat.zero_le _, rfl, Nat.le_refl _, hid (by rw [HMOV.out]; rfl), OwnM.nil _ _, Below.refl _ _⟩
  case round =>
    obtain ⟨k, got, hk, rfl, hgl, hM, hown, hb⟩ := hrel
    have hnl := HNAL.out
    by_cases hlt : k < nA
    · have hkl : k < ms.length := by rw [HNA.out]; exact hlt
      have hr := HR5.out
      obtain ⟨b', off, x, y, he, hx, d1, d2⟩ := hr.at hb rfl hkl
      subst he
      have hd := mvFrom_drop (V := V) (W := W) hkl hx
      obtain ⟨A1, hA1⟩ : ∃ A, leafIx V.ls (x, y) = A := ⟨_, rfl⟩
      obtain ⟨A2, hA2⟩ : ∃ A, leafIx W.ls (x, y) = A := ⟨_, rfl⟩
      have hmo : mvOf V W (x, y) = ((x, y), A1, A2) := by unfold mvOf; rw [hA1, hA2]
      rw [hmo] at hd
      obtain ⟨WE, hWE⟩ : ∃ WE, wr.alloc (.cells #[.int .u16 x, .int .u32 y] 26) = WE := ⟨_, rfl⟩
      obtain ⟨G, hG⟩ : ∃ G, wr.heap.size = G := ⟨_, rfl⟩
      have hwe : Below wr.heap.size wr WE := by rw [← hWE]; exact (Below.refl _ _).alloc (Nat.le_refl _) _
      have hbe := hb.trans (hwe.mono hb.size)
      have p0 : WE.cell? ⟨G, 0, none⟩ = some (.int .u16 x) := by rw [← hWE, ← hG]; simp
      have p1 : WE.cell? ⟨G, 1, none⟩ = some (.int .u32 y) := by rw [← hWE, ← hG]; simp
      have xv := HXV5.out.ext hbe HXV5.out.lt
      have xw := HXW5.out.ext hbe HXW5.out.lt
      have HS : Hid (∀ X, Below WE.heap.size WE X → X.cell? ⟨G, 0, none⟩ = some (.int .u16 x) ∧ X.cell? ⟨G, 1, none⟩ = some (.int .u32 y) ∧ ViewBox X w.heap.size V am al ad cm cl cd ∧ ViewBox X (w.heap.size + 1) W bm bl bd em el ed) := hid fun X h => ⟨cell_toB p0 h, cell_toB p1 h, xv.ext h xv.lt, xw.ext h xw.lt⟩
      have LV : Hid (∀ X, Below WE.heap.size WE X → Calls Try.prog 78 #[.agg #[.int .u64 V.id, .slice am V.ms.length cm, .slice al V.ls.length cl, .slice ad V.ds.length cd], .agg #[.int .u16 x, .int .u32 y]] X fun e w' => e = .returned (.int .i64 A1) ∧ Below X.heap.size X w') := hid fun X h => by
        have := leaf_any V am al ad cm cl cd x y X ((HV5.out.ext hbe).ext h)
        rw [hA1] at this; exact this
      have LW : Hid (∀ X, Below WE.heap.size WE X → Calls Try.prog 78 #[.agg #[.int .u64 W.id, .slice bm W.ms.length em, .slice bl W.ls.length el, .slice bd W.ds.length ed], .agg #[.int .u16 x, .int .u32 y]] X fun e w' => e = .returned (.int .i64 A2) ∧ Below X.heap.size X w') := hid fun X h => by
        have := leaf_any W bm bl bd em el ed x y X ((HW5.out.ext hbe).ext h)
        rw [hA2] at this; exact this
      have HB0 : Hid (Below WE.heap.size WE WE.drew) := hid (Below.refl _ _).drew
      have HOWN := hid hown
      have HB := hid hb
      have HGL := hid hgl
      have HWE := hid hWE
      cases hq : A1 != A2
      · have HD : Hid (mvFrom V W (ms.drop k) = [] ++ mvFrom V W (ms.drop (k + 1))) := hid (by rw [hd]; unfold mvKeep; simp only [hq]; rfl)
        clear hd hx hr hA1 hA2 hmo hwe hbe p0 p1 xv xw hown hb hgl hkl
        go_wp2
        clear hWE
        refine wp_region_held_drew (S := fun X => X.cell? ⟨G, 0, none⟩ = some (.int .u16 x) ∧ X.cell? ⟨G, 1, none⟩ = some (.int .u32 y) ∧ ViewBox X w.heap.size V am al ad cm cl cd ∧ ViewBox X (w.heap.size + 1) W bm bl bd em el ed) (by kernel_rfl) (by exact HS.out _ (Below.refl _ _).drew) (fun hHeld => ?_)
        refine wpAnyH_take (i := 0) (oi := _) (v := .agg #[.int .u16 x, .int .u32 y]) rfl (by kernel_rfl) (by kernel_rfl) (by kernel_rfl) (fun _ _ _ h => h) (Or.inl ⟨by rfl, ?_⟩) (by assumption) ?_
        · intro W hSw
          try dsimp only at hSw
          obtain ⟨hSw1, hSw2, -, -⟩ := hSw
          go_simp
        try simp only [Act.put, List.getElem_toArray, List.getElem_cons_succ, List.getElem_cons_zero, List.setIfInBounds_toArray, List.set_cons_zero, List.set_cons_succ]
        refine wpAnyH_take (i := 1) (oi := _) (v := .agg #[.int .u64 V.id, .slice am V.ms.length cm, .slice al V.ls.length cl, .slice ad V.ds.length cd]) rfl (by kernel_rfl) (by kernel_rfl) (by kernel_rfl) (fun _ _ _ h => h) (Or.inl ⟨by rfl, ?_⟩) (by assumption) ?_
        · intro W hSw
          try dsimp only at hSw
          obtain ⟨-, -, ⟨h0, h1, h2, h3⟩, -⟩ := hSw
          go_simp
        try simp only [Act.put, List.getElem_toArray, List.getElem_cons_succ, List.getElem_cons_zero, List.setIfInBounds_toArray, List.set_cons_zero, List.set_cons_succ]
        refine wpAnyH_take (i := 2) (oi := _) (v := .agg #[.int .u16 x, .int .u32 y]) rfl (by kernel_rfl) (by kernel_rfl) (by kernel_rfl) (fun _ _ _ h => h) (Or.inl ⟨by rfl, ?_⟩) (by assumption) ?_
        · intro W hSw
          try dsimp only at hSw
          obtain ⟨hSw1, hSw2, -, -⟩ := hSw
          go_simp
        try simp only [Act.put, List.getElem_toArray, List.getElem_cons_succ, List.getElem_cons_zero, List.setIfInBounds_toArray, List.set_cons_zero, List.set_cons_succ]
        refine wpAnyH_take (i := 4) (oi := _) (v := .agg #[.int .u64 W.id, .slice bm W.ms.length em, .slice bl W.ls.length el, .slice bd W.ds.length ed]) rfl (by kernel_rfl) (by kernel_rfl) (by kernel_rfl) (fun _ _ _ h => h) (Or.inl ⟨by rfl, ?_⟩) (by assumption) ?_
        · intro W hSw
          try dsimp only at hSw
          obtain ⟨-, -, -, ⟨h0, h1, h2, h3⟩⟩ := hSw
          go_simp
        try simp only [Act.put, List.getElem_toArray, List.getElem_cons_succ, List.getElem_cons_zero, List.setIfInBounds_toArray, List.set_cons_zero, List.set_cons_succ]
        refine wpAnyH_take (i := 5) (oi := _) (v := .agg #[.int .u16 x, .int .u32 y]) rfl (by kernel_rfl) (by kernel_rfl) (by kernel_rfl) (fun _ _ _ h => h) (Or.inl ⟨by rfl, ?_⟩) (by assumption) ?_
        · intro W hSw
          try dsimp only at hSw
          obtain ⟨hSw1, hSw2, -, -⟩ := hSw
          go_simp
        try simp only [Act.put, List.getElem_toArray, List.getElem_cons_succ, List.getElem_cons_zero, List.setIfInBounds_toArray, List.set_cons_zero, List.set_cons_succ]
        refine wpAnyH_ready (rs := [3, 8]) (by kernel_rfl) (by simp) ?_
        refine AllReadyH.cons (o := _) rfl (fun K hK => ?_) (AllReadyH.cons (o := _) rfl (fun K hK => ?_) AllReadyH.nil)
        · go_simp
          (with_reducible refine (LV.out _ HB0.out).mono ?_)
          rintro e w91 ⟨rfl, hb91⟩
          have H1B := hid (HB0.out.trans (hb91.mono HB0.out.size))
          clear hb91
          refine hK.out _ _ (HS.out _ H1B.out) (fun hHeld => ?_)
          clear hK K
          try simp only [Act.put, List.getElem_toArray, List.getElem_cons_succ, List.getElem_cons_zero, List.setIfInBounds_toArray, List.set_cons_zero, List.set_cons_succ]
          refine wpAnyH_ready (rs := [6, 8]) (by kernel_rfl) (by simp) ?_
          refine AllReadyH.cons (o := _) rfl (fun K hK => ?_) (AllReadyH.cons (o := _) rfl (fun K hK => ?_) AllReadyH.nil)
          · go_simp
            (with_reducible refine (LW.out _ H1B.out).mono ?_)
            rintro e w92 ⟨rfl, hb92⟩
            have H2B := hid (H1B.out.trans (hb92.mono H1B.out.size))
            clear hb92
            refine hK.out _ _ (HS.out _ H2B.out) (fun hHeld => ?_)
            clear hK K
            try simp only [Act.put, List.getElem_toArray, List.getElem_cons_succ, List.getElem_cons_zero, List.setIfInBounds_toArray, List.set_cons_zero, List.set_cons_succ]
            refine wpAnyH_ready (rs := [7, 8]) (by kernel_rfl) (by simp) ?_
            refine AllReadyH.cons (o := _) rfl (fun K hK => ?_) (AllReadyH.cons (o := _) rfl (fun K hK => ?_) AllReadyH.nil)
            · go_simp
              refine hK.out _ _ (HS.out _ H2B.out) (fun hHeld => ?_)
              clear hK K
              try simp only [Act.put, List.getElem_toArray, List.getElem_cons_succ, List.getElem_cons_zero, List.setIfInBounds_toArray, List.set_cons_zero, List.set_cons_succ]
              refine wpAnyH_ready (rs := [8]) (by kernel_rfl) (by simp) ?_
              refine AllReadyH.cons (o := _) rfl (fun K hK => ?_) AllReadyH.nil
              go_simp
              have H4B : Hid (Below WE.heap.size WE (w92.alloc (.cells #[.int .u16 0, .int .u32 0, .int .i64 0, .int .i64 0] 76))) := hid (H2B.out.alloc H2B.out.size _)
              have H4X : Hid (BoxV (w92.alloc (.cells #[.int .u16 0, .int .u32 0, .int .i64 0, .int .i64 0] 76)) w92.heap.size (.int .u16 0) (.int .u32 0) (.int .i64 0) (.int .i64 0)) := hid (BoxV.made _ _ _ _ _ _)
              have H4X_ge : Hid (WE.heap.size ≤ w92.heap.size) := hid (by have := H2B.out.size; simp at this ⊢; try omega)
              refine hK.out _ _ (HS.out _ H4B.out) (fun hHeld => ?_)
              clear hK K
              try simp only [Act.put, List.getElem_toArray, List.getElem_cons_succ, List.getElem_cons_zero, List.setIfInBounds_toArray, List.set_cons_zero, List.set_cons_succ]
              refine wpAnyH_ready (rs := [9]) (by kernel_rfl) (by simp) ?_
              refine AllReadyH.cons (o := _) rfl (fun K hK => ?_) AllReadyH.nil
              go_simp
              have BX9 : Hid (BoxV (w92.alloc (.cells #[.int .u16 x, .int .u32 y, .int .i64 A1, .int .i64 A2] 76)) w92.heap.size (.int .u16 x) (.int .u32 y) (.int .i64 A1) (.int .i64 A2)) := hid (BoxV.made _ _ _ _ _ _)
              have HB9 : Hid (Below WE.heap.size WE (w92.alloc (.cells #[.int .u16 x, .int .u32 y, .int .i64 A1, .int .i64 A2] 76))) := hid (H2B.out.alloc H2B.out.size _)
              refine hK.out _ _ (HS.out _ HB9.out) (fun hHeld => ?_)
              clear hK K
              try simp only [Act.put, List.getElem_toArray, List.getElem_cons_succ, List.getElem_cons_zero, List.setIfInBounds_toArray, List.set_cons_zero, List.set_cons_succ]
              refine wpAnyH_done (by kernel_rfl) ?_ _
              obtain ⟨q0, q1, q2, q3, -, -, -, -⟩ := BX9.out
              have hwe : Below wr.heap.size wr WE := by rw [← HWE.out]; exact (Below.refl _ _).alloc (Nat.le_refl _) _
              have hb9 := hwe.trans (HB9.out.mono hwe.size)
              have HW9 := hid (HB.out.trans (hb9.mono HB.out.size))
              have HO9 := hid (HOWN.out.ext hb9)
              clear hwe hb9 BX9 HB9
              go_wp2
              go_roundw
              case rel => exact ⟨k + 1, got, by omega, by go_num, by have := HGL.out; omega, hid (hM.out.trans (by rw [HD.out]; simp)), HO9.out, HW9.out⟩
              case measure => simp [intOf]; omega
            · go_simp
              have H5B : Hid (Below WE.heap.size WE (w92.alloc (.cells #[.int .u16 0, .int .u32 0, .int .i64 0, .int .i64 0] 76))) := hid (H2B.out.alloc H2B.out.size _)
              have H5X : Hid (BoxV (w92.alloc (.cells #[.int .u16 0, .int .u32 0, .int .i64 0, .int .i64 0] 76)) w92.heap.size (.int .u16 0) (.int .u32 0) (.int .i64 0) (.int .i64 0)) := hid (BoxV.made _ _ _ _ _ _)
              have H5X_ge : Hid (WE.heap.size ≤ w92.heap.size) := hid (by have := H2B.out.size; simp at this ⊢; try omega)
              refine hK.out _ _ (HS.out _ H5B.out) (fun hHeld => ?_)
              clear hK K
              try simp only [Act.put, List.getElem_toArray, List.getElem_cons_succ, List.getElem_cons_zero, List.setIfInBounds_toArray, List.set_cons_zero, List.set_cons_succ]
              refine wpAnyH_ready (rs := [7]) (by kernel_rfl) (by simp) ?_
              refine AllReadyH.cons (o := _) rfl (fun K hK => ?_) AllReadyH.nil
              go_simp
              refine hK.out _ _ (HS.out _ H5B.out) (fun hHeld => ?_)
              clear hK K
              try simp only [Act.put, List.getElem_toArray, List.getElem_cons_succ, List.getElem_cons_zero, List.setIfInBounds_toArray, List.set_cons_zero, List.set_cons_succ]
              refine wpAnyH_ready (rs := [9]) (by kernel_rfl) (by simp) ?_
              refine AllReadyH.cons (o := _) rfl (fun K hK => ?_) AllReadyH.nil
              go_simp
              have BX9 : Hid (BoxV (w92.alloc (.cells #[.int .u16 x, .int .u32 y, .int .i64 A1, .int .i64 A2] 76)) w92.heap.size (.int .u16 x) (.int .u32 y) (.int .i64 A1) (.int .i64 A2)) := hid (BoxV.made _ _ _ _ _ _)
              have HB9 : Hid (Below WE.heap.size WE (w92.alloc (.cells #[.int .u16 x, .int .u32 y, .int .i64 A1, .int .i64 A2] 76))) := hid (H2B.out.alloc H2B.out.size _)
              refine hK.out _ _ (HS.out _ HB9.out) (fun hHeld => ?_)
              clear hK K
              try simp only [Act.put, List.getElem_toArray, List.getElem_cons_succ, List.getElem_cons_zero, List.setIfInBounds_toArray, List.set_cons_zero, List.set_cons_succ]
              refine wpAnyH_done (by kernel_rfl) ?_ _
              obtain ⟨q0, q1, q2, q3, -, -, -, -⟩ := BX9.out
              have hwe : Below wr.heap.size wr WE := by rw [← HWE.out]; exact (Below.refl _ _).alloc (Nat.le_refl _) _
              have hb9 := hwe.trans (HB9.out.mono hwe.size)
              have HW9 := hid (HB.out.trans (hb9.mono HB.out.size))
              have HO9 := hid (HOWN.out.ext hb9)
              clear hwe hb9 BX9 HB9
              go_wp2
              go_roundw
              case rel => exact ⟨k + 1, got, by omega, by go_num, by have := HGL.out; omega, hid (hM.out.trans (by rw [HD.out]; simp)), HO9.out, HW9.out⟩
              case measure => simp [intOf]; omega
          · go_simp
            have H7B : Hid (Below WE.heap.size WE (w91.alloc (.cells #[.int .u16 0, .int .u32 0, .int .i64 0, .int .i64 0] 76))) := hid (H1B.out.alloc H1B.out.size _)
            have H7X : Hid (BoxV (w91.alloc (.cells #[.int .u16 0, .int .u32 0, .int .i64 0, .int .i64 0] 76)) w91.heap.size (.int .u16 0) (.int .u32 0) (.int .i64 0) (.int .i64 0)) := hid (BoxV.made _ _ _ _ _ _)
            have H7X_ge : Hid (WE.heap.size ≤ w91.heap.size) := hid (by have := H1B.out.size; simp at this ⊢; try omega)
            refine hK.out _ _ (HS.out _ H7B.out) (fun hHeld => ?_)
            clear hK K
            try simp only [Act.put, List.getElem_toArray, List.getElem_cons_succ, List.getElem_cons_zero, List.setIfInBounds_toArray, List.set_cons_zero, List.set_cons_succ]
            refine wpAnyH_ready (rs := [6]) (by kernel_rfl) (by simp) ?_
            refine AllReadyH.cons (o := _) rfl (fun K hK => ?_) AllReadyH.nil
            go_simp
            (with_reducible refine (LW.out _ H7B.out).mono ?_)
            rintro e w98 ⟨rfl, hb98⟩
            have H8B := hid (H7B.out.trans (hb98.mono H7B.out.size))
            have H8X := hid (H7X.out.ext hb98)
            have H8X_ge := H7X_ge
            clear hb98
            refine hK.out _ _ (HS.out _ H8B.out) (fun hHeld => ?_)
            clear hK K
            try simp only [Act.put, List.getElem_toArray, List.getElem_cons_succ, List.getElem_cons_zero, List.setIfInBounds_toArray, List.set_cons_zero, List.set_cons_succ]
            refine wpAnyH_ready (rs := [7]) (by kernel_rfl) (by simp) ?_
            refine AllReadyH.cons (o := _) rfl (fun K hK => ?_) AllReadyH.nil
            go_simp
            refine hK.out _ _ (HS.out _ H8B.out) (fun hHeld => ?_)
            clear hK K
            try simp only [Act.put, List.getElem_toArray, List.getElem_cons_succ, List.getElem_cons_zero, List.setIfInBounds_toArray, List.set_cons_zero, List.set_cons_succ]
            refine wpAnyH_ready (rs := [9]) (by kernel_rfl) (by simp) ?_
            refine AllReadyH.cons (o := _) rfl (fun K hK => ?_) AllReadyH.nil
            obtain ⟨d0, d1, d2, d3, g0, g1, g2, g3⟩ := H8X.out
            go_simp
            have BX9 := hid (H8X.out.put (.int .u16 x) (.int .u32 y) (.int .i64 A1) (.int .i64 A2))
            have HB9 := hid (below_put4 (b := w91.heap.size) (u0 := .int .u16 x) (u1 := .int .u32 y) (u2 := .int .i64 A1) (u3 := .int .i64 A2) H8B.out (by have := H8X.out.lt; have := H8X_ge.out; omega))
            clear d0 d1 d2 d3 g0 g1 g2 g3
            refine hK.out _ _ (HS.out _ HB9.out) (fun hHeld => ?_)
            clear hK K
            try simp only [Act.put, List.getElem_toArray, List.getElem_cons_succ, List.getElem_cons_zero, List.setIfInBounds_toArray, List.set_cons_zero, List.set_cons_succ]
            refine wpAnyH_done (by kernel_rfl) ?_ _
            obtain ⟨q0, q1, q2, q3, -, -, -, -⟩ := BX9.out
            have hwe : Below wr.heap.size wr WE := by rw [← HWE.out]; exact (Below.refl _ _).alloc (Nat.le_refl _) _
            have hb9 := hwe.trans (HB9.out.mono hwe.size)
            have HW9 := hid (HB.out.trans (hb9.mono HB.out.size))
            have HO9 := hid (HOWN.out.ext hb9)
            clear hwe hb9 BX9 HB9
            go_wp2
            go_roundw
            case rel => exact ⟨k + 1, got, by omega, by go_num, by have := HGL.out; omega, hid (hM.out.trans (by rw [HD.out]; simp)), HO9.out, HW9.out⟩
            case measure => simp [intOf]; omega
        · go_simp
          have H10B : Hid (Below WE.heap.size WE (WE.alloc (.cells #[.int .u16 0, .int .u32 0, .int .i64 0, .int .i64 0] 76)).drew) := hid ((Below.refl _ _).alloc (Nat.le_refl _) _).drew
          have H10X : Hid (BoxV (WE.alloc (.cells #[.int .u16 0, .int .u32 0, .int .i64 0, .int .i64 0] 76)).drew WE.heap.size (.int .u16 0) (.int .u32 0) (.int .i64 0) (.int .i64 0)) := hid ((BoxV.made WE _ _ _ _ _).ext (Below.refl _ _).drew)
          have H10X_ge : Hid (WE.heap.size ≤ WE.heap.size) := hid (Nat.le_refl _)
          refine hK.out _ _ (HS.out _ H10B.out) (fun hHeld => ?_)
          clear hK K
          try simp only [Act.put, List.getElem_toArray, List.getElem_cons_succ, List.getElem_cons_zero, List.setIfInBounds_toArray, List.set_cons_zero, List.set_cons_succ]
          refine wpAnyH_ready (rs := [3]) (by kernel_rfl) (by simp) ?_
          refine AllReadyH.cons (o := _) rfl (fun K hK => ?_) AllReadyH.nil
          go_simp
          (with_reducible refine (LV.out _ H10B.out).mono ?_)
          rintro e w101 ⟨rfl, hb101⟩
          have H11B := hid (H10B.out.trans (hb101.mono H10B.out.size))
          have H11X := hid (H10X.out.ext hb101)
          have H11X_ge := H10X_ge
          clear hb101
          refine hK.out _ _ (HS.out _ H11B.out) (fun hHeld => ?_)
          clear hK K
          try simp only [Act.put, List.getElem_toArray, List.getElem_cons_succ, List.getElem_cons_zero, List.setIfInBounds_toArray, List.set_cons_zero, List.set_cons_succ]
          refine wpAnyH_ready (rs := [6]) (by kernel_rfl) (by simp) ?_
          refine AllReadyH.cons (o := _) rfl (fun K hK => ?_) AllReadyH.nil
          go_simp
          (with_reducible refine (LW.out _ H11B.out).mono ?_)
          rintro e w102 ⟨rfl, hb102⟩
          have H12B := hid (H11B.out.trans (hb102.mono H11B.out.size))
          have H12X := hid (H11X.out.ext hb102)
          have H12X_ge := H11X_ge
          clear hb102
          refine hK.out _ _ (HS.out _ H12B.out) (fun hHeld => ?_)
          clear hK K
          try simp only [Act.put, List.getElem_toArray, List.getElem_cons_succ, List.getElem_cons_zero, List.setIfInBounds_toArray, List.set_cons_zero, List.set_cons_succ]
          refine wpAnyH_ready (rs := [7]) (by kernel_rfl) (by simp) ?_
          refine AllReadyH.cons (o := _) rfl (fun K hK => ?_) AllReadyH.nil
          go_simp
          refine hK.out _ _ (HS.out _ H12B.out) (fun hHeld => ?_)
          clear hK K
          try simp only [Act.put, List.getElem_toArray, List.getElem_cons_succ, List.getElem_cons_zero, List.setIfInBounds_toArray, List.set_cons_zero, List.set_cons_succ]
          refine wpAnyH_ready (rs := [9]) (by kernel_rfl) (by simp) ?_
          refine AllReadyH.cons (o := _) rfl (fun K hK => ?_) AllReadyH.nil
          obtain ⟨d0, d1, d2, d3, g0, g1, g2, g3⟩ := H12X.out
          go_simp
          have BX9 := hid (H12X.out.put (.int .u16 x) (.int .u32 y) (.int .i64 A1) (.int .i64 A2))
          have HB9 := hid (below_put4 (b := WE.heap.size) (u0 := .int .u16 x) (u1 := .int .u32 y) (u2 := .int .i64 A1) (u3 := .int .i64 A2) H12B.out (by have := H12X.out.lt; have := H12X_ge.out; omega))
          clear d0 d1 d2 d3 g0 g1 g2 g3
          refine hK.out _ _ (HS.out _ HB9.out) (fun hHeld => ?_)
          clear hK K
          try simp only [Act.put, List.getElem_toArray, List.getElem_cons_succ, List.getElem_cons_zero, List.setIfInBounds_toArray, List.set_cons_zero, List.set_cons_succ]
          refine wpAnyH_done (by kernel_rfl) ?_ _
          obtain ⟨q0, q1, q2, q3, -, -, -, -⟩ := BX9.out
          have hwe : Below wr.heap.size wr WE := by rw [← HWE.out]; exact (Below.refl _ _).alloc (Nat.le_refl _) _
          have hb9 := hwe.trans (HB9.out.mono hwe.size)
          have HW9 := hid (HB.out.trans (hb9.mono HB.out.size))
          have HO9 := hid (HOWN.out.ext hb9)
          clear hwe hb9 BX9 HB9
          go_wp2
          go_roundw
          case rel => exact ⟨k + 1, got, by omega, by go_num, by have := HGL.out; omega, hid (hM.out.trans (by rw [HD.out]; simp)), HO9.out, HW9.out⟩
          case measure => simp [intOf]; omega
      · have HD : Hid (mvFrom V W (ms.drop k) = [((x, y), A1, A2)] ++ mvFrom V W (ms.drop (k + 1))) := hid (by rw [hd]; unfold mvKeep; simp only [hq]; rfl)
        clear hd hx hr hA1 hA2 hmo hwe hbe p0 p1 xv xw hown hb hgl hkl
        go_wp2
        clear hWE
        refine wp_region_held_drew (S := fun X => X.cell? ⟨G, 0, none⟩ = some (.int .u16 x) ∧ X.cell? ⟨G, 1, none⟩ = some (.int .u32 y) ∧ ViewBox X w.heap.size V am al ad cm cl cd ∧ ViewBox X (w.heap.size + 1) W bm bl bd em el ed) (by kernel_rfl) (by exact HS.out _ (Below.refl _ _).drew) (fun hHeld => ?_)
        refine wpAnyH_take (i := 0) (oi := _) (v := .agg #[.int .u16 x, .int .u32 y]) rfl (by kernel_rfl) (by kernel_rfl) (by kernel_rfl) (fun _ _ _ h => h) (Or.inl ⟨by rfl, ?_⟩) (by assumption) ?_
        · intro W hSw
          try dsimp only at hSw
          obtain ⟨hSw1, hSw2, -, -⟩ := hSw
          go_simp
        try simp only [Act.put, List.getElem_toArray, List.getElem_cons_succ, List.getElem_cons_zero, List.setIfInBounds_toArray, List.set_cons_zero, List.set_cons_succ]
        refine wpAnyH_take (i := 1) (oi := _) (v := .agg #[.int .u64 V.id, .slice am V.ms.length cm, .slice al V.ls.length cl, .slice ad V.ds.length cd]) rfl (by kernel_rfl) (by kernel_rfl) (by kernel_rfl) (fun _ _ _ h => h) (Or.inl ⟨by rfl, ?_⟩) (by assumption) ?_
        · intro W hSw
          try dsimp only at hSw
          obtain ⟨-, -, ⟨h0, h1, h2, h3⟩, -⟩ := hSw
          go_simp
        try simp only [Act.put, List.getElem_toArray, List.getElem_cons_succ, List.getElem_cons_zero, List.setIfInBounds_toArray, List.set_cons_zero, List.set_cons_succ]
        refine wpAnyH_take (i := 2) (oi := _) (v := .agg #[.int .u16 x, .int .u32 y]) rfl (by kernel_rfl) (by kernel_rfl) (by kernel_rfl) (fun _ _ _ h => h) (Or.inl ⟨by rfl, ?_⟩) (by assumption) ?_
        · intro W hSw
          try dsimp only at hSw
          obtain ⟨hSw1, hSw2, -, -⟩ := hSw
          go_simp
        try simp only [Act.put, List.getElem_toArray, List.getElem_cons_succ, List.getElem_cons_zero, List.setIfInBounds_toArray, List.set_cons_zero, List.set_cons_succ]
        refine wpAnyH_take (i := 4) (oi := _) (v := .agg #[.int .u64 W.id, .slice bm W.ms.length em, .slice bl W.ls.length el, .slice bd W.ds.length ed]) rfl (by kernel_rfl) (by kernel_rfl) (by kernel_rfl) (fun _ _ _ h => h) (Or.inl ⟨by rfl, ?_⟩) (by assumption) ?_
        · intro W hSw
          try dsimp only at hSw
          obtain ⟨-, -, -, ⟨h0, h1, h2, h3⟩⟩ := hSw
          go_simp
        try simp only [Act.put, List.getElem_toArray, List.getElem_cons_succ, List.getElem_cons_zero, List.setIfInBounds_toArray, List.set_cons_zero, List.set_cons_succ]
        refine wpAnyH_take (i := 5) (oi := _) (v := .agg #[.int .u16 x, .int .u32 y]) rfl (by kernel_rfl) (by kernel_rfl) (by kernel_rfl) (fun _ _ _ h => h) (Or.inl ⟨by rfl, ?_⟩) (by assumption) ?_
        · intro W hSw
          try dsimp only at hSw
          obtain ⟨hSw1, hSw2, -, -⟩ := hSw
          go_simp
        try simp only [Act.put, List.getElem_toArray, List.getElem_cons_succ, List.getElem_cons_zero, List.setIfInBounds_toArray, List.set_cons_zero, List.set_cons_succ]
        refine wpAnyH_ready (rs := [3, 8]) (by kernel_rfl) (by simp) ?_
        refine AllReadyH.cons (o := _) rfl (fun K hK => ?_) (AllReadyH.cons (o := _) rfl (fun K hK => ?_) AllReadyH.nil)
        · go_simp
          (with_reducible refine (LV.out _ HB0.out).mono ?_)
          rintro e w91 ⟨rfl, hb91⟩
          have H1B := hid (HB0.out.trans (hb91.mono HB0.out.size))
          clear hb91
          refine hK.out _ _ (HS.out _ H1B.out) (fun hHeld => ?_)
          clear hK K
          try simp only [Act.put, List.getElem_toArray, List.getElem_cons_succ, List.getElem_cons_zero, List.setIfInBounds_toArray, List.set_cons_zero, List.set_cons_succ]
          refine wpAnyH_ready (rs := [6, 8]) (by kernel_rfl) (by simp) ?_
          refine AllReadyH.cons (o := _) rfl (fun K hK => ?_) (AllReadyH.cons (o := _) rfl (fun K hK => ?_) AllReadyH.nil)
          · go_simp
            (with_reducible refine (LW.out _ H1B.out).mono ?_)
            rintro e w92 ⟨rfl, hb92⟩
            have H2B := hid (H1B.out.trans (hb92.mono H1B.out.size))
            clear hb92
            refine hK.out _ _ (HS.out _ H2B.out) (fun hHeld => ?_)
            clear hK K
            try simp only [Act.put, List.getElem_toArray, List.getElem_cons_succ, List.getElem_cons_zero, List.setIfInBounds_toArray, List.set_cons_zero, List.set_cons_succ]
            refine wpAnyH_ready (rs := [7, 8]) (by kernel_rfl) (by simp) ?_
            refine AllReadyH.cons (o := _) rfl (fun K hK => ?_) (AllReadyH.cons (o := _) rfl (fun K hK => ?_) AllReadyH.nil)
            · go_simp
              refine hK.out _ _ (HS.out _ H2B.out) (fun hHeld => ?_)
              clear hK K
              try simp only [Act.put, List.getElem_toArray, List.getElem_cons_succ, List.getElem_cons_zero, List.setIfInBounds_toArray, List.set_cons_zero, List.set_cons_succ]
              refine wpAnyH_ready (rs := [8]) (by kernel_rfl) (by simp) ?_
              refine AllReadyH.cons (o := _) rfl (fun K hK => ?_) AllReadyH.nil
              go_simp
              have H4B : Hid (Below WE.heap.size WE (w92.alloc (.cells #[.int .u16 0, .int .u32 0, .int .i64 0, .int .i64 0] 76))) := hid (H2B.out.alloc H2B.out.size _)
              have H4X : Hid (BoxV (w92.alloc (.cells #[.int .u16 0, .int .u32 0, .int .i64 0, .int .i64 0] 76)) w92.heap.size (.int .u16 0) (.int .u32 0) (.int .i64 0) (.int .i64 0)) := hid (BoxV.made _ _ _ _ _ _)
              have H4X_ge : Hid (WE.heap.size ≤ w92.heap.size) := hid (by have := H2B.out.size; simp at this ⊢; try omega)
              refine hK.out _ _ (HS.out _ H4B.out) (fun hHeld => ?_)
              clear hK K
              try simp only [Act.put, List.getElem_toArray, List.getElem_cons_succ, List.getElem_cons_zero, List.setIfInBounds_toArray, List.set_cons_zero, List.set_cons_succ]
              refine wpAnyH_ready (rs := [9]) (by kernel_rfl) (by simp) ?_
              refine AllReadyH.cons (o := _) rfl (fun K hK => ?_) AllReadyH.nil
              go_simp
              have BX9 : Hid (BoxV (w92.alloc (.cells #[.int .u16 x, .int .u32 y, .int .i64 A1, .int .i64 A2] 76)) w92.heap.size (.int .u16 x) (.int .u32 y) (.int .i64 A1) (.int .i64 A2)) := hid (BoxV.made _ _ _ _ _ _)
              have HB9 : Hid (Below WE.heap.size WE (w92.alloc (.cells #[.int .u16 x, .int .u32 y, .int .i64 A1, .int .i64 A2] 76))) := hid (H2B.out.alloc H2B.out.size _)
              refine hK.out _ _ (HS.out _ HB9.out) (fun hHeld => ?_)
              clear hK K
              try simp only [Act.put, List.getElem_toArray, List.getElem_cons_succ, List.getElem_cons_zero, List.setIfInBounds_toArray, List.set_cons_zero, List.set_cons_succ]
              refine wpAnyH_done (by kernel_rfl) ?_ _
              obtain ⟨q0, q1, q2, q3, -, -, -, -⟩ := BX9.out
              have hwe : Below wr.heap.size wr WE := by rw [← HWE.out]; exact (Below.refl _ _).alloc (Nat.le_refl _) _
              have hb9 := hwe.trans (HB9.out.mono hwe.size)
              have hw9 := HB.out.trans (hb9.mono HB.out.size)
              have HO9 := hid ((HOWN.out.ext hb9).ext ((Below.refl _ _).alloc (Nat.le_refl _) (.cells #[.int .u16 x, .int .u32 y, .int .i64 A1, .int .i64 A2] 76)))
              have HW9 := hid (hw9.alloc hw9.size (.cells #[.int .u16 x, .int .u32 y, .int .i64 A1, .int .i64 A2] 76))
              have hsz9 := HW9.out.size
              have HSZ9 := hid hsz9
              clear hwe hb9 hw9 hsz9 BX9 HB9
              go_wp2_with (at_builtin; go_loud (refine wpList_appendM (e := ((x, y), A1, A2)) HO9.out ?_ (by have := HGL.out; have := HNAL.out; omega) HSZ9.out rfl rfl (by simp [Act.eval, Act.put]; try rfl) rfl ?_; (intro j u hu; refine (congrArg (World.cell? _) ?_).trans (mv_at4 j u hu); simp); intro v10 w10 hown10 hg10; have HW10 := hid (below_grownM HW9.out hg10 HO9.out HSZ9.out (Nat.le_refl _)); have HO10 := hid hown10; clear hown10 hg10))
              go_roundw
              case rel => exact ⟨k + 1, _, by omega, by go_num, by have := HGL.out; simp; omega, hid (hM.out.trans (by rw [HD.out]; simp)), HO10.out, HW10.out⟩
              case measure => simp [intOf]; omega
            · go_simp
              have H5B : Hid (Below WE.heap.size WE (w92.alloc (.cells #[.int .u16 0, .int .u32 0, .int .i64 0, .int .i64 0] 76))) := hid (H2B.out.alloc H2B.out.size _)
              have H5X : Hid (BoxV (w92.alloc (.cells #[.int .u16 0, .int .u32 0, .int .i64 0, .int .i64 0] 76)) w92.heap.size (.int .u16 0) (.int .u32 0) (.int .i64 0) (.int .i64 0)) := hid (BoxV.made _ _ _ _ _ _)
              have H5X_ge : Hid (WE.heap.size ≤ w92.heap.size) := hid (by have := H2B.out.size; simp at this ⊢; try omega)
              refine hK.out _ _ (HS.out _ H5B.out) (fun hHeld => ?_)
              clear hK K
              try simp only [Act.put, List.getElem_toArray, List.getElem_cons_succ, List.getElem_cons_zero, List.setIfInBounds_toArray, List.set_cons_zero, List.set_cons_succ]
              refine wpAnyH_ready (rs := [7]) (by kernel_rfl) (by simp) ?_
              refine AllReadyH.cons (o := _) rfl (fun K hK => ?_) AllReadyH.nil
              go_simp
              refine hK.out _ _ (HS.out _ H5B.out) (fun hHeld => ?_)
              clear hK K
              try simp only [Act.put, List.getElem_toArray, List.getElem_cons_succ, List.getElem_cons_zero, List.setIfInBounds_toArray, List.set_cons_zero, List.set_cons_succ]
              refine wpAnyH_ready (rs := [9]) (by kernel_rfl) (by simp) ?_
              refine AllReadyH.cons (o := _) rfl (fun K hK => ?_) AllReadyH.nil
              go_simp
              have BX9 : Hid (BoxV (w92.alloc (.cells #[.int .u16 x, .int .u32 y, .int .i64 A1, .int .i64 A2] 76)) w92.heap.size (.int .u16 x) (.int .u32 y) (.int .i64 A1) (.int .i64 A2)) := hid (BoxV.made _ _ _ _ _ _)
              have HB9 : Hid (Below WE.heap.size WE (w92.alloc (.cells #[.int .u16 x, .int .u32 y, .int .i64 A1, .int .i64 A2] 76))) := hid (H2B.out.alloc H2B.out.size _)
              refine hK.out _ _ (HS.out _ HB9.out) (fun hHeld => ?_)
              clear hK K
              try simp only [Act.put, List.getElem_toArray, List.getElem_cons_succ, List.getElem_cons_zero, List.setIfInBounds_toArray, List.set_cons_zero, List.set_cons_succ]
              refine wpAnyH_done (by kernel_rfl) ?_ _
              obtain ⟨q0, q1, q2, q3, -, -, -, -⟩ := BX9.out
              have hwe : Below wr.heap.size wr WE := by rw [← HWE.out]; exact (Below.refl _ _).alloc (Nat.le_refl _) _
              have hb9 := hwe.trans (HB9.out.mono hwe.size)
              have hw9 := HB.out.trans (hb9.mono HB.out.size)
              have HO9 := hid ((HOWN.out.ext hb9).ext ((Below.refl _ _).alloc (Nat.le_refl _) (.cells #[.int .u16 x, .int .u32 y, .int .i64 A1, .int .i64 A2] 76)))
              have HW9 := hid (hw9.alloc hw9.size (.cells #[.int .u16 x, .int .u32 y, .int .i64 A1, .int .i64 A2] 76))
              have hsz9 := HW9.out.size
              have HSZ9 := hid hsz9
              clear hwe hb9 hw9 hsz9 BX9 HB9
              go_wp2_with (at_builtin; go_loud (refine wpList_appendM (e := ((x, y), A1, A2)) HO9.out ?_ (by have := HGL.out; have := HNAL.out; omega) HSZ9.out rfl rfl (by simp [Act.eval, Act.put]; try rfl) rfl ?_; (intro j u hu; refine (congrArg (World.cell? _) ?_).trans (mv_at4 j u hu); simp); intro v10 w10 hown10 hg10; have HW10 := hid (below_grownM HW9.out hg10 HO9.out HSZ9.out (Nat.le_refl _)); have HO10 := hid hown10; clear hown10 hg10))
              go_roundw
              case rel => exact ⟨k + 1, _, by omega, by go_num, by have := HGL.out; simp; omega, hid (hM.out.trans (by rw [HD.out]; simp)), HO10.out, HW10.out⟩
              case measure => simp [intOf]; omega
          · go_simp
            have H7B : Hid (Below WE.heap.size WE (w91.alloc (.cells #[.int .u16 0, .int .u32 0, .int .i64 0, .int .i64 0] 76))) := hid (H1B.out.alloc H1B.out.size _)
            have H7X : Hid (BoxV (w91.alloc (.cells #[.int .u16 0, .int .u32 0, .int .i64 0, .int .i64 0] 76)) w91.heap.size (.int .u16 0) (.int .u32 0) (.int .i64 0) (.int .i64 0)) := hid (BoxV.made _ _ _ _ _ _)
            have H7X_ge : Hid (WE.heap.size ≤ w91.heap.size) := hid (by have := H1B.out.size; simp at this ⊢; try omega)
            refine hK.out _ _ (HS.out _ H7B.out) (fun hHeld => ?_)
            clear hK K
            try simp only [Act.put, List.getElem_toArray, List.getElem_cons_succ, List.getElem_cons_zero, List.setIfInBounds_toArray, List.set_cons_zero, List.set_cons_succ]
            refine wpAnyH_ready (rs := [6]) (by kernel_rfl) (by simp) ?_
            refine AllReadyH.cons (o := _) rfl (fun K hK => ?_) AllReadyH.nil
            go_simp
            (with_reducible refine (LW.out _ H7B.out).mono ?_)
            rintro e w98 ⟨rfl, hb98⟩
            have H8B := hid (H7B.out.trans (hb98.mono H7B.out.size))
            have H8X := hid (H7X.out.ext hb98)
            have H8X_ge := H7X_ge
            clear hb98
            refine hK.out _ _ (HS.out _ H8B.out) (fun hHeld => ?_)
            clear hK K
            try simp only [Act.put, List.getElem_toArray, List.getElem_cons_succ, List.getElem_cons_zero, List.setIfInBounds_toArray, List.set_cons_zero, List.set_cons_succ]
            refine wpAnyH_ready (rs := [7]) (by kernel_rfl) (by simp) ?_
            refine AllReadyH.cons (o := _) rfl (fun K hK => ?_) AllReadyH.nil
            go_simp
            refine hK.out _ _ (HS.out _ H8B.out) (fun hHeld => ?_)
            clear hK K
            try simp only [Act.put, List.getElem_toArray, List.getElem_cons_succ, List.getElem_cons_zero, List.setIfInBounds_toArray, List.set_cons_zero, List.set_cons_succ]
            refine wpAnyH_ready (rs := [9]) (by kernel_rfl) (by simp) ?_
            refine AllReadyH.cons (o := _) rfl (fun K hK => ?_) AllReadyH.nil
            obtain ⟨d0, d1, d2, d3, g0, g1, g2, g3⟩ := H8X.out
            go_simp
            have BX9 := hid (H8X.out.put (.int .u16 x) (.int .u32 y) (.int .i64 A1) (.int .i64 A2))
            have HB9 := hid (below_put4 (b := w91.heap.size) (u0 := .int .u16 x) (u1 := .int .u32 y) (u2 := .int .i64 A1) (u3 := .int .i64 A2) H8B.out (by have := H8X.out.lt; have := H8X_ge.out; omega))
            clear d0 d1 d2 d3 g0 g1 g2 g3
            refine hK.out _ _ (HS.out _ HB9.out) (fun hHeld => ?_)
            clear hK K
            try simp only [Act.put, List.getElem_toArray, List.getElem_cons_succ, List.getElem_cons_zero, List.setIfInBounds_toArray, List.set_cons_zero, List.set_cons_succ]
            refine wpAnyH_done (by kernel_rfl) ?_ _
            obtain ⟨q0, q1, q2, q3, -, -, -, -⟩ := BX9.out
            have hwe : Below wr.heap.size wr WE := by rw [← HWE.out]; exact (Below.refl _ _).alloc (Nat.le_refl _) _
            have hb9 := hwe.trans (HB9.out.mono hwe.size)
            have hw9 := HB.out.trans (hb9.mono HB.out.size)
            have HO9 := hid ((HOWN.out.ext hb9).ext ((Below.refl _ _).alloc (Nat.le_refl _) (.cells #[.int .u16 x, .int .u32 y, .int .i64 A1, .int .i64 A2] 76)))
            have HW9 := hid (hw9.alloc hw9.size (.cells #[.int .u16 x, .int .u32 y, .int .i64 A1, .int .i64 A2] 76))
            have hsz9 := HW9.out.size
            have HSZ9 := hid hsz9
            clear hwe hb9 hw9 hsz9 BX9 HB9
            go_wp2_with (at_builtin; go_loud (refine wpList_appendM (e := ((x, y), A1, A2)) HO9.out ?_ (by have := HGL.out; have := HNAL.out; omega) HSZ9.out rfl rfl (by simp [Act.eval, Act.put]; try rfl) rfl ?_; (intro j u hu; refine (congrArg (World.cell? _) ?_).trans (mv_at4 j u hu); simp); intro v10 w10 hown10 hg10; have HW10 := hid (below_grownM HW9.out hg10 HO9.out HSZ9.out (Nat.le_refl _)); have HO10 := hid hown10; clear hown10 hg10))
            go_roundw
            case rel => exact ⟨k + 1, _, by omega, by go_num, by have := HGL.out; simp; omega, hid (hM.out.trans (by rw [HD.out]; simp)), HO10.out, HW10.out⟩
            case measure => simp [intOf]; omega
        · go_simp
          have H10B : Hid (Below WE.heap.size WE (WE.alloc (.cells #[.int .u16 0, .int .u32 0, .int .i64 0, .int .i64 0] 76)).drew) := hid ((Below.refl _ _).alloc (Nat.le_refl _) _).drew
          have H10X : Hid (BoxV (WE.alloc (.cells #[.int .u16 0, .int .u32 0, .int .i64 0, .int .i64 0] 76)).drew WE.heap.size (.int .u16 0) (.int .u32 0) (.int .i64 0) (.int .i64 0)) := hid ((BoxV.made WE _ _ _ _ _).ext (Below.refl _ _).drew)
          have H10X_ge : Hid (WE.heap.size ≤ WE.heap.size) := hid (Nat.le_refl _)
          refine hK.out _ _ (HS.out _ H10B.out) (fun hHeld => ?_)
          clear hK K
          try simp only [Act.put, List.getElem_toArray, List.getElem_cons_succ, List.getElem_cons_zero, List.setIfInBounds_toArray, List.set_cons_zero, List.set_cons_succ]
          refine wpAnyH_ready (rs := [3]) (by kernel_rfl) (by simp) ?_
          refine AllReadyH.cons (o := _) rfl (fun K hK => ?_) AllReadyH.nil
          go_simp
          (with_reducible refine (LV.out _ H10B.out).mono ?_)
          rintro e w101 ⟨rfl, hb101⟩
          have H11B := hid (H10B.out.trans (hb101.mono H10B.out.size))
          have H11X := hid (H10X.out.ext hb101)
          have H11X_ge := H10X_ge
          clear hb101
          refine hK.out _ _ (HS.out _ H11B.out) (fun hHeld => ?_)
          clear hK K
          try simp only [Act.put, List.getElem_toArray, List.getElem_cons_succ, List.getElem_cons_zero, List.setIfInBounds_toArray, List.set_cons_zero, List.set_cons_succ]
          refine wpAnyH_ready (rs := [6]) (by kernel_rfl) (by simp) ?_
          refine AllReadyH.cons (o := _) rfl (fun K hK => ?_) AllReadyH.nil
          go_simp
          (with_reducible refine (LW.out _ H11B.out).mono ?_)
          rintro e w102 ⟨rfl, hb102⟩
          have H12B := hid (H11B.out.trans (hb102.mono H11B.out.size))
          have H12X := hid (H11X.out.ext hb102)
          have H12X_ge := H11X_ge
          clear hb102
          refine hK.out _ _ (HS.out _ H12B.out) (fun hHeld => ?_)
          clear hK K
          try simp only [Act.put, List.getElem_toArray, List.getElem_cons_succ, List.getElem_cons_zero, List.setIfInBounds_toArray, List.set_cons_zero, List.set_cons_succ]
          refine wpAnyH_ready (rs := [7]) (by kernel_rfl) (by simp) ?_
          refine AllReadyH.cons (o := _) rfl (fun K hK => ?_) AllReadyH.nil
          go_simp
          refine hK.out _ _ (HS.out _ H12B.out) (fun hHeld => ?_)
          clear hK K
          try simp only [Act.put, List.getElem_toArray, List.getElem_cons_succ, List.getElem_cons_zero, List.setIfInBounds_toArray, List.set_cons_zero, List.set_cons_succ]
          refine wpAnyH_ready (rs := [9]) (by kernel_rfl) (by simp) ?_
          refine AllReadyH.cons (o := _) rfl (fun K hK => ?_) AllReadyH.nil
          obtain ⟨d0, d1, d2, d3, g0, g1, g2, g3⟩ := H12X.out
          go_simp
          have BX9 := hid (H12X.out.put (.int .u16 x) (.int .u32 y) (.int .i64 A1) (.int .i64 A2))
          have HB9 := hid (below_put4 (b := WE.heap.size) (u0 := .int .u16 x) (u1 := .int .u32 y) (u2 := .int .i64 A1) (u3 := .int .i64 A2) H12B.out (by have := H12X.out.lt; have := H12X_ge.out; omega))
          clear d0 d1 d2 d3 g0 g1 g2 g3
          refine hK.out _ _ (HS.out _ HB9.out) (fun hHeld => ?_)
          clear hK K
          try simp only [Act.put, List.getElem_toArray, List.getElem_cons_succ, List.getElem_cons_zero, List.setIfInBounds_toArray, List.set_cons_zero, List.set_cons_succ]
          refine wpAnyH_done (by kernel_rfl) ?_ _
          obtain ⟨q0, q1, q2, q3, -, -, -, -⟩ := BX9.out
          have hwe : Below wr.heap.size wr WE := by rw [← HWE.out]; exact (Below.refl _ _).alloc (Nat.le_refl _) _
          have hb9 := hwe.trans (HB9.out.mono hwe.size)
          have hw9 := HB.out.trans (hb9.mono HB.out.size)
          have HO9 := hid ((HOWN.out.ext hb9).ext ((Below.refl _ _).alloc (Nat.le_refl _) (.cells #[.int .u16 x, .int .u32 y, .int .i64 A1, .int .i64 A2] 76)))
          have HW9 := hid (hw9.alloc hw9.size (.cells #[.int .u16 x, .int .u32 y, .int .i64 A1, .int .i64 A2] 76))
          have hsz9 := HW9.out.size
          have HSZ9 := hid hsz9
          clear hwe hb9 hw9 hsz9 BX9 HB9
          go_wp2_with (at_builtin; go_loud (refine wpList_appendM (e := ((x, y), A1, A2)) HO9.out ?_ (by have := HGL.out; have := HNAL.out; omega) HSZ9.out rfl rfl (by simp [Act.eval, Act.put]; try rfl) rfl ?_; (intro j u hu; refine (congrArg (World.cell? _) ?_).trans (mv_at4 j u hu); simp); intro v10 w10 hown10 hg10; have HW10 := hid (below_grownM HW9.out hg10 HO9.out HSZ9.out (Nat.le_refl _)); have HO10 := hid hown10; clear hown10 hg10))
          go_roundw
          case rel => exact ⟨k + 1, _, by omega, by go_num, by have := HGL.out; simp; omega, hid (hM.out.trans (by rw [HD.out]; simp)), HO10.out, HW10.out⟩
          case measure => simp [intOf]; omega
    · have hM2 := hM.out
      rw [List.drop_eq_nil_of_le (by rw [HNA.out]; omega)] at hM2
      have HM2 : Hid (movesL V W = got) := hid (by rw [hM2]; unfold mvFrom; simp)
      have HB := hid hb
      have HOWN := hid hown
      clear hM hM2 hb hown
      go_wp2
      go_ret
      have hb5 := HB2.out.trans (HB5.out.mono HB2.out.size)
      exact ⟨_, rfl, by rw [HM2.out]; exact HOWN.out.mono2 hb5.size, hb5.trans (HB.out.mono hb5.size)⟩
end Go.Proofs.Ytbpfhclcjedkcaa

