/- Parts of the proof: KS. -/
import Derived.Deep.MidRow
import Derived.Test.YtidohmpnefcpcaaGHubPlays0
namespace Go.Proofs.Ytidohmpnefcpcaa
open Go.RowKit
/-! ### rows of elements of k cells that may begin behind their block's beginning: append, cut, set -/
def RowP (w : World) (base k : Nat) (v : Value) (xs : List (List Value)) : Prop :=
  (∀ x ∈ xs, x.length = k ∧ ∀ u ∈ x, u.oneCell' = true) ∧
  ((v = .slice none 0 0 ∧ xs = []) ∨ ∃ g off cap, v = .slice (some ⟨g, off, none⟩) xs.length cap ∧ base ≤ g ∧ g < w.heap.size ∧ xs.length ≤ cap ∧ cap ≤ maxLen ∧
    (∀ q u, xs.flatten[q]? = some u → w.cell? ⟨g, off + q, none⟩ = some u) ∧ (∀ q, q < cap * k → (w.cell? ⟨g, off + q, none⟩).isSome = true ∧ w.frozen? ⟨g, off + q, none⟩ = false))
theorem mut_setCellsS {q : Nat} : ∀ (vs : List Value) (o : Nat) (w : World), Mut (fun k => k = q) w (w.setCells q o vs)
  | [], _, _ => Mut.refl _ _
  | v :: vs, o, w => (mut1 (w := w) (s := q) (i := o) (v := v)).trans (mut_setCellsS vs (o + 1) (w.setCell ⟨q, o, none⟩ v))
theorem flat_len {k : Nat} : ∀ {xs : List (List Value)}, (∀ x ∈ xs, x.length = k) → xs.flatten.length = xs.length * k
  | [], _ => by simp
  | x :: l, h => by
    have h1 := h x (by simp)
    have h2 := flat_len (xs := l) fun y hy => h y (by simp [hy])
    simp only [List.flatten_cons, List.length_append, List.length_cons, Nat.succ_mul, h1, h2]
    omega
section
variable {w w' : World} {base k : Nat} {v : Value} {xs : List (List Value)}
theorem RowP.nil (w : World) (base k : Nat) : RowP w base k (.slice none 0 0) [] := ⟨fun x h => (by cases h), .inl ⟨rfl, rfl⟩⟩
theorem RowP.blk (h : RowP w base k v xs) {g : Nat} (hg : v.ownBlock = some g) : base ≤ g ∧ g < w.heap.size := by
  rcases h.2 with ⟨rfl, -⟩ | ⟨g', off, cap, rfl, h1, h2, -⟩
  · cases hg
  · cases hg; exact ⟨h1, h2⟩
theorem RowP.sli (h : RowP w base k v xs) : ∃ a c, v = .slice a xs.length c ∧ xs.length ≤ c := by
  rcases h.2 with ⟨rfl, rfl⟩ | ⟨g', off, cap, rfl, h1, h2, h3, -⟩
  · exact ⟨_, _, rfl, Nat.le_refl _⟩
  · exact ⟨_, _, rfl, h3⟩
theorem RowP.mut {G : Nat → Prop} (h : RowP w base k v xs) (hm : Mut G w w') (hG : ∀ g, v.ownBlock = some g → ¬ G g) : RowP w' base k v xs := by
  refine ⟨h.1, ?_⟩
  rcases h.2 with h | ⟨g, off, cap, rfl, h1, h2, h3, h4, h5, h6⟩
  · exact .inl h
  · have hn := hG g rfl
    have e : ∀ o, w'.cell? ⟨g, o, none⟩ = w.cell? ⟨g, o, none⟩ := fun o => hm.cell h2 hn
    have f : ∀ o, w'.frozen? ⟨g, o, none⟩ = w.frozen? ⟨g, o, none⟩ := fun o => World.frozen?_of_block (w := w) (a := ⟨g, o, none⟩) (hm.block g h2 hn)
    exact .inr ⟨g, off, cap, rfl, h1, Nat.lt_of_lt_of_le h2 hm.size, h3, h4, fun q u hq => by rw [e]; exact h5 q u hq, fun q hq => by rw [e, f]; exact h6 q hq⟩
theorem RowP.ext (h : RowP w base k v xs) (hb : Below w.heap.size w w') : RowP w' base k v xs :=
  h.mut (Mut.of_below (F := fun _ => False) hb) fun _ _ e => e
theorem RowP.mono {b' : Nat} (h : RowP w base k v xs) (hb : b' ≤ base) : RowP w b' k v xs := by
  refine ⟨h.1, ?_⟩
  rcases h.2 with h | ⟨g, off, cap, e, h1, h2⟩
  · exact .inl h
  · exact .inr ⟨g, off, cap, e, Nat.le_trans hb h1, h2⟩
theorem RowP.at (h : RowP w base k v xs) {i : Nat} {x : List Value} (hi : xs[i]? = some x) : ∃ g off cap, v = .slice (some ⟨g, off, none⟩) xs.length cap ∧ g < w.heap.size ∧ ∀ j u, x[j]? = some u → w.cell? ⟨g, off + i * k + j, none⟩ = some u := by
  rcases h.2 with ⟨rfl, rfl⟩ | ⟨g, off, cap, rfl, h1, h2, h3, h4, h5, h6⟩
  · simp at hi
  · refine ⟨g, off, cap, rfl, h2, fun j u hj => ?_⟩
    rw [Nat.add_assoc]
    exact h5 _ u (flatten_get (fun x hx => (h.1 x hx).1) hi hj)
theorem RowP.of_owns {e : TypeId} (h : w.ownsRow base e k v xs.length xs.flatten) (hx : ∀ x ∈ xs, x.length = k ∧ ∀ u ∈ x, u.oneCell' = true) : RowP w base k v xs := by
  refine ⟨hx, ?_⟩
  have hfl := flat_len fun x h => (hx x h).1
  rcases h.2 with ⟨rfl, hn⟩ | ⟨g, cap, cur, rfl, hb, hg, hnc, hcm, hcs, htake⟩
  · exact .inl ⟨rfl, List.length_eq_zero_iff.1 hn⟩
  · have hlt := (Array.getElem?_eq_some_iff.1 hg).1
    have hc : ∀ q, w.cell? ⟨g, q, none⟩ = cur[q]? := fun q => by simp [World.cell?, hg]
    have hf : ∀ q, w.frozen? ⟨g, q, none⟩ = false := fun q => by simp [World.frozen?, hg]
    refine .inr ⟨g, 0, cap, rfl, hb, hlt, hnc, hcm, fun q u hq => ?_, fun q hq => ?_⟩
    · have hql : q < xs.flatten.length := (List.getElem?_eq_some_iff.1 hq).1
      rw [Nat.zero_add, hc, ← hq, ← htake, List.getElem?_take, if_pos (by omega)]
      simp
    · rw [Nat.zero_add, hc, hf]
      refine ⟨?_, rfl⟩
      rw [Array.getElem?_eq_getElem (by omega)]; rfl
theorem flatten_append' (xs ys : List (List Value)) : (xs ++ ys).flatten = xs.flatten ++ ys.flatten := by simp
/-- elements more, out of a row somewhere -/
theorem RowP.append (h : RowP w base k v xs) {P : Program} (t ty e : TypeId) (i : TypeInfo) (z : Value) (bytes : Nat) (ht : P.underlying t = some (.slice e)) (hi : P.info? e = some i) (hz : i.zero = some z) (hsize : i.size = k) (hby : i.bytes = bytes) (hzs : z.cells.size = k) (hk : 0 < k)
    {a : Addr} {c : Nat} {ys : List (List Value)} (hy : ∀ x ∈ ys, x.length = k ∧ ∀ u ∈ x, u.oneCell' = true) (hc : ∀ q u, ys.flatten[q]? = some u → w.cell? (a.add q) = some u) (hl : xs.length + ys.length ≤ 1000000) (hbt : bytes ≤ 1000) (hbase : base ≤ w.heap.size) :
    ∃ v' w', (Builtin.append_ #[t, t] ty #[v, .slice (some a) ys.length c]).run P w = .ok v' w' ∧ RowP w' base k v' (xs ++ ys) ∧ Mut (fun g => v.ownBlock = some g) w w' ∧ (∀ g, v'.ownBlock = some g → v.ownBlock = some g ∨ w.heap.size ≤ g) := by
  have hby2 : (xs.length + ys.length) * bytes ≤ 140737488355328 := Nat.le_trans (Nat.mul_le_mul hl hbt) (by decide)
  have hfy := flat_len fun x hx => (hy x hx).1
  have hone : ∀ u ∈ ys.flatten, u.oneCell' = true := fun u hu => by
    obtain ⟨x, hx, hu⟩ := List.mem_flatten.1 hu
    exact (hy x hx).2 u hu
  have hels : ∀ x ∈ xs ++ ys, x.length = k ∧ ∀ u ∈ x, u.oneCell' = true := fun x hx => (List.mem_append.1 hx).elim (h.1 x) (hy x)
  have hfx := flat_len fun x hx => (h.1 x hx).1
  have hx1 := h.1
  rcases h.2 with ⟨rfl, rfl⟩ | ⟨g, off, cap, rfl, hb, hlt, hnc, hcm, hcx, hs⟩
  · obtain ⟨v', w', hr, h2, h3, h4, h5⟩ := run_append_own_at (P := P) w base t ty e i z k bytes ht hi hz hsize hby hzs hk (.slice none 0 0) 0 [] (World.ownsRow_nil _ _ _ _) a ys.length c ys.flatten hfy hc hone (by unfold maxLen; simp at hl; omega) (by simpa using hby2) hbase
    refine ⟨v', w', hr, RowP.of_owns (e := e) (by simpa using h2) hels, ⟨h3.os, h3.tape, h3.output, h3.size, fun q hq hf => h3.block q hq (fun e => by cases e)⟩, fun g hg => ?_⟩
    rcases h5 with h5 | h5
    · exact .inl (by rw [← h5]; exact hg)
    · rw [h5] at hg; cases hg; exact .inr (Nat.le_refl _)
  · by_cases hr : xs.length + ys.length ≤ cap
    · have hmul : xs.length * k + ys.length * k ≤ cap * k := by rw [← Nat.add_mul]; exact Nat.mul_le_mul_right _ hr
      have hrun := run_append_room_cells (P := P) w t ty e i ht hi g off xs.length cap a ys.length c ys.flatten (by rw [hsize]; exact hfy) hc hone hr
        (fun j hj => by rw [hsize, Nat.add_assoc]; exact (hs _ (by omega)).1) (fun j hj => by rw [hsize, Nat.add_assoc]; exact (hs _ (by omega)).2)
      rw [hsize] at hrun
      have hm : Mut (fun q => q = g) w (w.setCells g (off + xs.length * k) ys.flatten) := mut_setCellsS (q := g) _ _ _
      refine ⟨_, _, hrun, ⟨hels, .inr ⟨g, off, cap, by rw [List.length_append], hb, Nat.lt_of_lt_of_le hlt hm.size, by rw [List.length_append]; exact hr, hcm, fun q u hq => ?_, fun q hq => ⟨World.isSome_setCells g _ _ w _ (hs q hq).1, by rw [World.frozen?_setCells]; exact (hs q hq).2⟩⟩⟩, ⟨hm.os, hm.tape, hm.output, hm.size, fun q hq hf => hm.block q hq fun e => hf (by rw [e]; rfl)⟩, fun _ hg => .inl hg⟩
      rw [flatten_append'] at hq
      by_cases hqx : q < xs.flatten.length
      · rw [List.getElem?_append_left hqx] at hq
        rw [World.cell?_setCells_out g _ _ w _ (fun _ _ => by simp only; omega)]
        exact hcx q u hq
      · rw [List.getElem?_append_right (by omega)] at hq
        have hqy := (List.getElem?_eq_some_iff.1 hq).1
        have h4 := World.rangeAt_setCells_same w g (off + xs.length * k) ys.flatten (fun j hj => by rw [Nat.add_assoc]; exact hs _ (by omega)) (q - xs.flatten.length) u hq
        rw [show off + xs.length * k + (q - xs.flatten.length) = off + q by omega] at h4
        exact h4
    · obtain ⟨v', w', hrun, r1, r2⟩ := run_append_arg_grows (P := P) w t ty e i z k bytes ht hi hz hsize hby hzs hk ⟨g, off, none⟩ xs.length cap xs.flatten hfx (fun j x hx => by rw [Addr.add_lit]; exact hcx j x hx) a ys.length c ys.flatten hfy hc (by omega) (by unfold maxLen; omega) hby2
      have r1' : w'.ownsRow w.heap.size e k v' (xs ++ ys).length (xs ++ ys).flatten := by rw [List.length_append, flatten_append']; exact r1
      have hro := RowP.of_owns r1' hels
      refine ⟨v', w', hrun, hro.mono hbase, ⟨r2.os, r2.tape, r2.output, r2.size, fun q hq hf => r2.block q hq (fun e => by cases e)⟩, fun q hq => .inr (hro.blk hq).1⟩
/-- nothing more -/
theorem run_append_zero {P : Program} (w : World) (t ty e : TypeId) (i : TypeInfo) (ht : P.underlying t = some (.slice e)) (hi : P.info? e = some i) (a : Option Addr) (n c : Nat) (h : n ≤ c) :
    (Builtin.append_ #[t, t] ty #[.slice a n c, .slice none 0 0]).run P w = .ok (.slice a n c) w := by
  cases a <;> simp [Builtin.append_, run_underlying ht, sizeOf, typeInfo, hi, Builtin.lenOf, Builtin.firstCells, storeCells, h]
/-- a row more, out of such a row -/
theorem RowP.appendRow (h : RowP w base k v xs) {P : Program} (t ty e : TypeId) (i : TypeInfo) (z : Value) (bytes : Nat) (ht : P.underlying t = some (.slice e)) (hi : P.info? e = some i) (hz : i.zero = some z) (hsize : i.size = k) (hby : i.bytes = bytes) (hzs : z.cells.size = k) (hk : 0 < k)
    {b2 : Nat} {sv : Value} {ys : List (List Value)} (hs : RowP w b2 k sv ys) (hl : xs.length + ys.length ≤ 1000000) (hbt : bytes ≤ 1000) (hbase : base ≤ w.heap.size) :
    ∃ v' w', (Builtin.append_ #[t, t] ty #[v, sv]).run P w = .ok v' w' ∧ RowP w' base k v' (xs ++ ys) ∧ Mut (fun g => v.ownBlock = some g) w w' ∧ (∀ g, v'.ownBlock = some g → v.ownBlock = some g ∨ w.heap.size ≤ g) := by
  rcases hs.2 with ⟨rfl, rfl⟩ | ⟨g, off, cap, rfl, h1, h2, h3, h4, h5, h6⟩
  · obtain ⟨a, c, rfl, hc⟩ := h.sli
    exact ⟨_, _, run_append_zero w t ty e i ht hi a _ c hc, by rw [List.append_nil]; exact h, Mut.refl _ _, fun g e => .inl e⟩
  · exact h.append t ty e i z bytes ht hi hz hsize hby hzs hk (c := cap) hs.1 (fun q u hq => by rw [Addr.add_lit]; exact h5 q u hq) hl hbt hbase
/-- the head alone -/
theorem RowP.take (h : RowP w base k v xs) {a : Option Addr} {c : Nat} (hv : v = .slice a xs.length c) {n : Nat} (hn : n ≤ xs.length) : RowP w base k (.slice a n c) (xs.take n) := by
  subst hv
  refine ⟨fun x hx => h.1 x (List.mem_of_mem_take hx), ?_⟩
  rcases h.2 with ⟨e, rfl⟩ | ⟨g, off, cap, e, h1, h2, h3, h4, h5, h6⟩
  · cases e
    have : n = 0 := by simpa using hn
    subst this
    exact .inl ⟨rfl, rfl⟩
  · cases e
    have hlen : (xs.take n).length = n := by rw [List.length_take]; omega
    refine .inr ⟨g, off, c, by rw [hlen], h1, h2, by rw [hlen]; omega, h4, fun q u hq => ?_, h6⟩
    refine h5 q u ?_
    have hql := (List.getElem?_eq_some_iff.1 hq).1
    have : xs.flatten = (xs.take n).flatten ++ (xs.drop n).flatten := by rw [← flatten_append', List.take_append_drop]
    rw [this, List.getElem?_append_left hql]
    exact hq
/-- the head is let go -/
theorem RowP.drop (h : RowP w base k v xs) {a : Option Addr} {c : Nat} (hv : v = .slice a xs.length c) {n : Nat} (hn : n ≤ xs.length) : RowP w base k (.slice (if c = n then a else a.map (·.add (n * k))) (xs.length - n) (c - n)) (xs.drop n) := by
  subst hv
  refine ⟨fun x hx => h.1 x (List.mem_of_mem_drop hx), ?_⟩
  rcases h.2 with ⟨e, rfl⟩ | ⟨g, off, cap, e, h1, h2, h3, h4, h5, h6⟩
  · cases e
    have : n = 0 := by simpa using hn
    subst this
    exact .inl ⟨rfl, rfl⟩
  · cases e
    by_cases hck : c = n
    · rw [if_pos hck]
      have hx : xs.drop n = [] := List.drop_eq_nil_of_le (by omega)
      rw [hx]
      refine .inr ⟨g, off, c - n, by simp; omega, h1, h2, Nat.zero_le _, by omega, fun j u hj => by simp at hj, fun j hj => by rw [show c - n = 0 by omega, Nat.zero_mul] at hj; omega⟩
    · rw [if_neg hck]
      have hft : (xs.take n).flatten.length = n * k := by
        rw [flat_len fun x hx => (h.1 x (List.mem_of_mem_take hx)).1, List.length_take, Nat.min_eq_left hn]
      refine .inr ⟨g, off + n * k, c - n, by rw [List.length_drop]; simp [Addr.add_lit], h1, h2, by rw [List.length_drop]; omega, by omega, fun j u hj => ?_, fun j hj => ?_⟩
      · rw [Nat.add_assoc]
        refine h5 _ u ?_
        have : xs.flatten = (xs.take n).flatten ++ (xs.drop n).flatten := by rw [← flatten_append', List.take_append_drop]
        rw [this, List.getElem?_append_right (by omega), hft, Nat.add_sub_cancel_left]
        exact hj
      · rw [Nat.add_assoc]
        refine h6 _ ?_
        have : n * k + (c - n) * k = c * k := by rw [← Nat.add_mul]; congr 1; omega
        omega
/-- an element of one cell is set -/
theorem RowP.set (h : RowP w base 1 v xs) {i : Nat} (hi : i < xs.length) {u : Value} (hu : u.oneCell' = true) : ∃ g off cap, v = .slice (some ⟨g, off, none⟩) xs.length cap ∧ w.frozen? ⟨g, off + i, none⟩ = false ∧ (w.cell? ⟨g, off + i, none⟩).isSome = true ∧ RowP (w.setCell ⟨g, off + i, none⟩ u) base 1 v (xs.set i [u]) ∧ Mut (fun b => v.ownBlock = some b) w (w.setCell ⟨g, off + i, none⟩ u) := by
  rcases h.2 with ⟨rfl, rfl⟩ | ⟨g, off, cap, rfl, h1, h2, h3, h4, h5, h6⟩
  · simp at hi
  · have h6i := h6 i (by omega)
    refine ⟨g, off, cap, rfl, h6i.2, h6i.1, ⟨fun x hx => ?_, .inr ⟨g, off, cap, by rw [List.length_set], h1, by simpa using h2, by rw [List.length_set]; exact h3, h4, fun q x hq => ?_, fun q hq => ⟨?_, by rw [World.frozen?_setCell]; exact (h6 q hq).2⟩⟩⟩, (mut1 (w := w) (s := g) (i := off + i) (v := u)).mono fun b _ e => by have e : b = g := e; rw [e]; rfl⟩
    · rcases List.mem_or_eq_of_mem_set hx with hx | rfl
      · exact h.1 x hx
      · exact ⟨rfl, fun y hy => by rw [List.mem_singleton.1 hy]; exact hu⟩
    · have hels : ∀ x ∈ xs.set i [u], x.length = 1 := fun x hx => by
        rcases List.mem_or_eq_of_mem_set hx with hx | rfl
        · exact (h.1 x hx).1
        · rfl
      have hql := (List.getElem?_eq_some_iff.1 hq).1
      rw [flat_len hels, List.length_set, Nat.mul_one] at hql
      obtain ⟨y, hy⟩ : ∃ y, (xs.set i [u])[q]? = some y := ⟨_, List.getElem?_eq_getElem (by rw [List.length_set]; exact hql)⟩
      have hyl := hels y (List.mem_of_getElem? hy)
      obtain ⟨z, rfl⟩ : ∃ z, y = [z] := List.length_eq_one_iff.1 hyl
      have hz := flatten_get (k := 1) hels hy (j := 0) (u := z) rfl
      rw [Nat.mul_one, Nat.add_zero] at hz
      have hzx : z = x := by rw [hz] at hq; exact Option.some.inj hq
      subst hzx
      by_cases hqi : i = q
      · subst hqi
        rw [List.getElem?_set_self hi] at hy
        simp at hy
        rw [hy]
        exact World.cell?_setCell_same' _ _ _ h6i.1
      · rw [List.getElem?_set_ne hqi] at hy
        rw [World.cell?_setCell_other _ _ _ _ (by intro e; injection e with _ e2; omega)]
        have := flatten_get (k := 1) (fun x hx => (h.1 x hx).1) hy (j := 0) (u := z) rfl
        rw [Nat.mul_one, Nat.add_zero] at this
        exact h5 q z this
    · by_cases hqi : off + q = off + i
      · rw [hqi, World.cell?_setCell_same' _ _ _ h6i.1]; rfl
      · rw [World.cell?_setCell_other _ _ _ _ (by intro e; injection e with _ e2; omega)]
        exact (h6 q hq).1
theorem run_toP {t e : TypeId} {size : Nat} (ht : Try.prog.underlying t = some (.slice e)) (hs : ∀ W, (sizeOf e).run Try.prog W = .ok size W) {a : Option Addr} {n c k : Nat} (h : k ≤ n) (hc : n ≤ c) (W : World) : (Instr.slice t (.slice a n c) none (some (.int .i64 k)) none).run Try.prog W = .ok (.slice a k c) W := by
  have hkc : k ≤ c := Nat.le_trans h hc
  have ha : a.map (fun x => x.add 0) = a := by cases a <;> simp [Addr.add]
  simp [Instr.slice, run_underlying ht, Instr.sliceBounds, run_sliceBound, hs, Result.andThen, hkc, ha]
theorem run_fromP {t e : TypeId} {size : Nat} (ht : Try.prog.underlying t = some (.slice e)) (hs : ∀ W, (sizeOf e).run Try.prog W = .ok size W) {a : Option Addr} {n c k : Nat} (h : k ≤ n) (W : World) : (Instr.slice t (.slice a n c) (some (.int .i64 k)) none none).run Try.prog W = .ok (.slice (if c = k then a else a.map (·.add (k * size))) (n - k) (c - k)) W := by
  simp [Instr.slice, run_underlying ht, Instr.sliceBounds, run_sliceBound, hs, Result.andThen, h]
end
end Go.Proofs.Ytidohmpnefcpcaa

