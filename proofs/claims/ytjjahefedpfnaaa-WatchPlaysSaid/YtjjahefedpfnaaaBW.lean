import Derived.Test.YtjjahefedpfnaaaB6
import Derived.Test.YtjjahefedpfnaaaB8
namespace Go.Proofs.Ytjjahefedpfnaaa
open Go.RowKit
/-! ### B12 -/
/-! ### the reference's watch: a row of processes with their ages -/
theorem info42 : (Try.prog.info? 42).map (fun i => (i.zero, i.size, i.bytes)) = some (some (.agg #[.int .u16 0, .int .u32 0, .int .i64 0]), 3, 16) := by kernel_rfl
abbrev Aged := Pid × Int
def ageCells (xs : List Aged) : List Value := xs.flatMap fun p => [.int .u16 p.1.1, .int .u32 p.1.2, .int .i64 p.2]
theorem ageCells_length : ∀ (xs : List Aged), (ageCells xs).length = xs.length * 3
  | [] => rfl
  | p :: l => by
    have := ageCells_length l
    unfold ageCells at this ⊢
    simp only [List.flatMap_cons, List.length_append, List.length_cons, List.length_nil, this]
    omega
theorem ageCells_append (xs ys : List Aged) : ageCells (xs ++ ys) = ageCells xs ++ ageCells ys := by simp [ageCells]
theorem ageCells_get : ∀ (xs : List Aged) (i : Nat) (h : i < xs.length), (ageCells xs)[i * 3]? = some (.int .u16 xs[i].1.1) ∧ (ageCells xs)[i * 3 + 1]? = some (.int .u32 xs[i].1.2) ∧ (ageCells xs)[i * 3 + 2]? = some (.int .i64 xs[i].2)
  | p :: l, 0, _ => by simp [ageCells]
  | p :: l, i + 1, h => by
    have := ageCells_get l i (by simpa using h)
    have e : ageCells (p :: l) = [.int .u16 p.1.1, .int .u32 p.1.2, .int .i64 p.2] ++ ageCells l := by simp [ageCells]
    rw [e, show (i + 1) * 3 = i * 3 + 3 by omega]
    refine ⟨?_, ?_, ?_⟩
    · rw [List.getElem?_append_right (by simp)]
      simpa using this.1
    · rw [List.getElem?_append_right (by simp)]
      simpa using this.2.1
    · rw [List.getElem?_append_right (by simp)]
      simpa using this.2.2
theorem ageCells_one (xs : List Aged) : ∀ u ∈ ageCells xs, u.oneCell' = true := by
  intro u hu
  obtain ⟨p, _, hp⟩ := List.mem_flatMap.1 hu
  simp at hp
  rcases hp with rfl | rfl | rfl <;> rfl
/-- a slice value that owns a row of aged processes, from block base on -/
def OwnA (w : World) (base : Nat) (v : Value) (xs : List Aged) : Prop := w.ownsRow base 42 3 v xs.length (ageCells xs)
theorem OwnA.nil (w : World) (base : Nat) : OwnA w base (.slice none 0 0) [] := World.ownsRow_nil _ _ _ _
theorem OwnA.ext {w w' : World} {base : Nat} {v : Value} {xs : List Aged} (h : OwnA w base v xs) (hb : Below w.heap.size w w') : OwnA w' base v xs := by
  refine ⟨h.1, ?_⟩
  rcases h.2 with hn | ⟨g, cap, cur, rfl, hbb, hgg, rest⟩
  · exact .inl hn
  · exact .inr ⟨g, cap, cur, rfl, hbb, (hb.block g (Array.getElem?_eq_some_iff.1 hgg).1).trans hgg, rest⟩
/-- the cells of an owned row -/
theorem OwnA.row {w : World} {base : Nat} {v : Value} {xs : List Aged} (h : OwnA w base v xs) : ∃ a c, v = .slice a xs.length c ∧ (xs = [] ∨ ∃ b, a = some ⟨b, 0, none⟩ ∧ base ≤ b ∧ b < w.heap.size ∧ ∀ i (h : i < xs.length), w.cell? ⟨b, i * 3, none⟩ = some (.int .u16 xs[i].1.1) ∧ w.cell? ⟨b, i * 3 + 1, none⟩ = some (.int .u32 xs[i].1.2) ∧ w.cell? ⟨b, i * 3 + 2, none⟩ = some (.int .i64 xs[i].2)) := by
  have hcells := fun g => World.ownsRow.cells (g := g) h
  rcases h.2 with ⟨rfl, hn⟩ | ⟨g, cap, cur, rfl, hb, hg, hnc, hcm, hcs, htake⟩
  · exact ⟨none, 0, by rw [hn], .inl (List.length_eq_zero_iff.1 hn)⟩
  · refine ⟨_, cap, rfl, .inr ⟨g, rfl, hb, (Array.getElem?_eq_some_iff.1 hg).1, fun i hi => ?_⟩⟩
    obtain ⟨g1, g2, g3⟩ := ageCells_get xs i hi
    have h1 := hcells g rfl _ _ g1
    have h2 := hcells g rfl _ _ g2
    have h3 := hcells g rfl _ _ g3
    rw [addr_add] at h1 h2 h3
    simp only [Nat.zero_add] at h1 h2 h3
    exact ⟨h1, h2, h3⟩

/-! ### B13 -/
/-- the reference's watch behind a pointer: its box at block s; its row is owned, behind the box -/
structure RefIs (w : World) (s : Nat) (T : Int) (v : Value) (L : List Aged) : Prop where
  c0 : w.cell? ⟨s, 0, none⟩ = some (.int .i64 T)
  c1 : w.cell? ⟨s, 1, none⟩ = some v
  f1 : w.frozen? ⟨s, 1, none⟩ = false
  own : OwnA w (s + 1) v L
theorem RefIs.lt {w : World} {s : Nat} {T : Int} {v : Value} {L : List Aged} (h : RefIs w s T v L) : s < w.heap.size := World.block_lt_of_cell? w _ h.c0
theorem RefIs.ext {w w' : World} {s : Nat} {T : Int} {v : Value} {L : List Aged} (h : RefIs w s T v L) (hb : Below w.heap.size w w') : RefIs w' s T v L :=
  ⟨by rw [hb.cell (by exact h.lt)]; exact h.c0, by rw [hb.cell (by exact h.lt)]; exact h.c1, by rw [hb.frozen (by exact h.lt)]; exact h.f1, h.own.ext hb⟩
/-- where p stands among the keys, or -1 -/
def atA (p : Pid) : List Aged → Nat → Int
  | [], _ => -1
  | q :: l, k => if q.1 = p then (k : Int) else atA p l (k + 1)
theorem atA_drop {p : Pid} {L : List Aged} {k : Nat} (h : k < L.length) : atA p (L.drop k) k = if L[k].1 = p then (k : Int) else atA p (L.drop (k + 1)) (k + 1) := by
  rw [List.drop_eq_getElem_cons h]; rfl
set_option maxRecDepth 100000 in
set_option maxHeartbeats 1600000 in
theorem atR_any (s : Nat) (T : Int) (v : Value) (L : List Aged) (x y : Int) (w : World) (hn : L.length ≤ 70368744177664) (hW : RefIs w s T v L) :
    Calls Try.prog 19 #[.pointer (some ⟨s, 0, none⟩), .agg #[.int .u16 x, .int .u32 y]] w fun e w' => e = .returned (.int .i64 (atA (x, y) L 0)) ∧ Below w.heap.size w w' := by
  obtain ⟨a, c, rfl, hrow⟩ := hW.own.row
  have hc1 := hW.c1
  have hsl := hW.lt
  go_enter Try.func19, Try.ntmps19
  go_wp2
  go_loopw [4, 5] (fun r i wr => r = .int .i64 0 ∧ ∃ k : Nat, k ≤ L.length ∧ i = .int .i64 k ∧ Hid (atA (x, y) L 0 = atA (x, y) (L.drop k) k) ∧ Below w.heap.size w wr ∧ wr.cell? ⟨w.heap.size, 0, none⟩ = some (.int .u16 x) ∧ wr.cell? ⟨w.heap.size, 1, none⟩ = some (.int .u32 y)) (fun _ i _ => L.length - (intOf i).toNat)
  case atStart => exact ⟨rfl, 0, Nat.zero_le _, rfl, rfl, (Below.refl _ _).alloc (Nat.le_refl _) _, by simp, by simp⟩
  case round =>
    obtain ⟨rfl, k, hk, rfl, ha, hb, c0, c1⟩ := hrel
    have e1 := cell_to hc1 hb
    by_cases hlt : k < L.length
    · have hl1 : decide (k < L.length) = true := by simpa using hlt
      have hl2 : decide ((k : Int) < (L.length : Int)) = true := by simp; omega
      rcases hrow with rfl | ⟨b, rfl, hbb, hblt, hcell⟩
      · simp at hlt
      · obtain ⟨g1, g2, -⟩ := hcell k hlt
        have hd := atA_drop (p := (x, y)) hlt
        obtain ⟨u, t, m, hLk⟩ : ∃ u t m, L[k] = ((u, t), m) := ⟨_, _, _, rfl⟩
        rw [hLk] at g1 g2 hd
        simp only at g1 g2 hd
        have d1 := cell_to g1 hb
        have d2 := cell_to g2 hb
        have he := fun w => eql_pid u t x y w
        clear hLk g1 g2
        have f0 := cell_extw d1
        have f1 := cell_extw d2
        have f2 := cell_extw c0
        have f3 := cell_extw c1
        have f4 := cell_extw e1
        have z := hb.size
        by_cases hxy : (u, t) = (x, y)
        · have hxy1 : decide ((u, t) = (x, y)) = true := by simpa using hxy
          rw [hxy1] at he
          have HD : Hid (atA (x, y) L 0 = k) := hid (by rw [ha.out, hd, if_pos hxy])
          clear hxy hxy1 hd ha d1 d2
          go_wp2
          refine wp_region_ext (w := wr) (Below.refl _ _) (by kernel_rfl) (by kernel_rfl) ?_
          repeat (go_big_quiet_step (fail))
          refine wpQuiet_nil ?_
          rintro w9 ⟨⟨_, hb9⟩, rfl⟩
          go_wp2
          go_ret
          exact ⟨by rw [HD.out]; rfl, hb.trans (hb9.mono z)⟩
        · have hxy1 : decide ((u, t) = (x, y)) = false := by simpa using hxy
          rw [hxy1] at he
          have HD : Hid (atA (x, y) L 0 = atA (x, y) (L.drop (k + 1)) (k + 1)) := hid (by rw [ha.out, hd, if_neg hxy])
          clear hxy hxy1 hd ha d1 d2
          go_wp2
          refine wp_region_ext (w := wr) (Below.refl _ _) (by kernel_rfl) (by kernel_rfl) ?_
          repeat (go_big_quiet_step (fail))
          refine wpQuiet_nil ?_
          rintro w9 ⟨⟨_, hb9⟩, rfl⟩
          go_wp2
          go_roundw
          case rel => exact ⟨rfl, k + 1, by omega, by go_num, HD, hb.trans (hb9.mono z), cell_to c0 hb9, cell_to c1 hb9⟩
          case measure => simp [intOf]; omega
    · have hl1 : decide (k < L.length) = false := by simp; omega
      have hl2 : decide ((k : Int) < (L.length : Int)) = false := by simp; omega
      have hend : Hid (atA (x, y) L 0 = -1) := hid (by rw [ha.out, List.drop_eq_nil_of_le (by omega)]; rfl)
      go_wp2
      go_ret
      exact ⟨by rw [hend.out]; rfl, hb⟩

/-! ### B14 -/
def lateR (T : Int) (L : List Aged) : List Pid := (L.filter fun p => decide (T ≤ p.2)).map (·.1)
theorem lateR_drop {T : Int} {L : List Aged} {k : Nat} (h : k < L.length) {p : Pid} {m : Int} (hp : L[k] = (p, m)) : lateR T (L.drop k) = if T ≤ m then p :: lateR T (L.drop (k + 1)) else lateR T (L.drop (k + 1)) := by
  unfold lateR
  rw [List.drop_eq_getElem_cons h, hp, List.filter_cons]
  by_cases hm : T ≤ m
  · simp [hm]
  · simp [hm]
set_option maxRecDepth 100000 in
set_option maxHeartbeats 1600000 in
theorem lateRef_any (s : Nat) (T : Int) (v : Value) (L : List Aged) (w : World) (hn : L.length ≤ 549755813888) (hW : RefIs w s T v L) :
    Calls Try.prog 26 #[.pointer (some ⟨s, 0, none⟩)] w fun e w' => ∃ v', e = .returned v' ∧ OwnP w' w.heap.size v' (lateR (max T 1) L) ∧ Below w.heap.size w w' := by
  obtain ⟨a, c, rfl, hrow⟩ := hW.own.row
  have hc0 := hW.c0
  have hc1 := hW.c1
  have hsl := hW.lt
  obtain ⟨T1, hT1⟩ : ∃ T1, max T 1 = T1 := ⟨_, rfl⟩
  have HT := hid hT1
  rw [hT1]
  go_enter Try.func26, Try.ntmps26
  go_wp2
  go_loopw [3, 4] (fun r i wr => ∃ (k : Nat) (got : List Pid), k ≤ L.length ∧ i = .int .i64 k ∧ got.length ≤ k ∧ Hid (lateR T1 L = got ++ lateR T1 (L.drop k)) ∧ OwnP wr w.heap.size r got ∧ Below w.heap.size w wr) (fun _ i _ => L.length - (intOf i).toNat)
  case atStart => exact ⟨0, [], Nat.zero_le _, rfl, Nat.le_refl _, rfl, OwnP.nil _ _, Below.refl _ _⟩
  case round =>
    obtain ⟨k, got, hk, rfl, hg, hM, hown, hb⟩ := hrel
    have e0 := cell_to hc0 hb
    have e1 := cell_to hc1 hb
    have z := hb.size
    by_cases hlt : k < L.length
    · have hl1 : decide (k < L.length) = true := by simpa using hlt
      have hl2 : decide ((k : Int) < (L.length : Int)) = true := by simp; omega
      rcases hrow with rfl | ⟨b, rfl, hbb, hblt, hcell⟩
      · simp at hlt
      · obtain ⟨g1, g2, g3⟩ := hcell k hlt
        obtain ⟨u, t, m, hLk⟩ : ∃ u t m, L[k] = ((u, t), m) := ⟨_, _, _, rfl⟩
        have hd := lateR_drop (T := T1) hlt hLk
        rw [hLk] at g1 g2 g3
        simp only at g1 g2 g3
        have d1 := cell_to g1 hb
        have d2 := cell_to g2 hb
        have d3 := cell_to g3 hb
        clear hLk g1 g2 g3
        have f0 := cell_extw d1
        have f1 := cell_extw d2
        have f2 := cell_extw d3
        have f3 := cell_extw e0
        have f4 := cell_extw e1
        by_cases hm : T1 ≤ m
        · have hm1 : decide (T1 ≤ m) = true := by simpa using hm
          have HD : Hid (lateR T1 L = (got ++ [(u, t)]) ++ lateR T1 (L.drop (k + 1))) := hid (by rw [hM.out, hd, if_pos hm]; simp)
          have D1 := hid d1
          have D2 := hid d2
          have E1 := hid e1
          clear hd hM hm
          go_wp2
          clear d1 d2 d3 e0 e1
          refine wp_region_ext (w := wr) (Below.refl _ _) (by kernel_rfl) (by kernel_rfl) ?_
          repeat (go_big_quiet_step (fail))
          refine wpQuiet_nil ?_
          rintro w4 ⟨⟨_, hb4⟩, rfl⟩
          have q1 := cell_to D1.out hb4
          have q2 := cell_to D2.out hb4
          have q4 := cell_to E1.out hb4
          have hown4 := hown.ext hb4
          have hB4 := hb.trans (hb4.mono z)
          clear f0 f1 f2 f3 f4 hb4 hown
          go_wp2_with (at_builtin; refine wpList_appendP (hown4.alloc _) (PidRow.one _ u t) ?cb ?cz rfl rfl rfl rfl ?_; rotate_right; intro v5 w5 hown5 hg5 hnil5)
          case cb => simp; omega
          case cz => have := hB4.size; simp; omega
          have hB5 : Below w.heap.size w w5 := (hB4.alloc hB4.size _).grown hg5 (by simp; have := hB4.size; omega) (fun g hg => (World.ownsRow.lt hown4 g hg).1)
          clear hB4 hown4
          go_roundw
          case rel => exact ⟨k + 1, got ++ [(u, t)], by omega, by go_num, by simp; omega, HD, hown5, hB5⟩
          case measure => simp [intOf]; omega
        · have hm1 : decide (T1 ≤ m) = false := by simpa using hm
          have HD : Hid (lateR T1 L = got ++ lateR T1 (L.drop (k + 1))) := hid (by rw [hM.out, hd, if_neg hm])
          clear hd hM hm
          go_wp2
          clear d1 d2 d3 e0 e1
          refine wp_region_ext (w := wr) (Below.refl _ _) (by kernel_rfl) (by kernel_rfl) ?_
          repeat (go_big_quiet_step (fail))
          refine wpQuiet_nil ?_
          rintro w4 ⟨⟨_, hb4⟩, rfl⟩
          go_wp2
          go_roundw
          case rel => exact ⟨k + 1, got, by omega, by go_num, by omega, HD, hown.ext hb4, hb.trans (hb4.mono z)⟩
          case measure => simp [intOf]; omega
    · have hl1 : decide (k < L.length) = false := by simp; omega
      have hl2 : decide ((k : Int) < (L.length : Int)) = false := by simp; omega
      have hend : Hid (lateR T1 L = got) := hid (by rw [hM.out, List.drop_eq_nil_of_le (by omega)]; simp [lateR])
      go_wp2
      go_ret
      exact ⟨_, rfl, by rw [hend.out]; exact hown, hb⟩

theorem refSort_is {a : Option Addr} {c : Nat} {xs l : List Pid} {w : World} (h : Hid (sortR [] xs = l)) (hn : xs.length ≤ 274877906944) (hx : PidRow w a xs) :
   Calls Try.prog 35 #[.slice a xs.length c] w fun e w' => ∃ a' c', e = .returned (.slice a' l.length c') ∧ PidRow w' a' l ∧ Below w.heap.size w w' := by
  refine (refSort_any a c xs w hn hx).mono ?_
  rintro e w' ⟨a', c', rfl, h1, -, h2⟩
  rw [h.out] at *
  exact ⟨a', c', rfl, h1, h2⟩
/-! ### B15 -/
def followR (L : List Aged) (S : List Pid) : List Aged := S.map fun p => (p, (look p L).getD 0)
theorem followR_drop {L : List Aged} {S : List Pid} {k : Nat} (h : k < S.length) {p : Pid} (hp : p = S[k]) : followR L (S.drop k) = (p, (look p L).getD 0) :: followR L (S.drop (k + 1)) := by
  unfold followR; rw [List.drop_eq_getElem_cons h, ← hp]; rfl
theorem atA_look {p : Pid} : ∀ {L : List Aged} {k : Nat}, (atA p L k = -1 ∧ look p L = none) ∨ ∃ (j : Nat) (h : j < L.length), atA p L k = ((k + j : Nat) : Int) ∧ L[j].1 = p ∧ look p L = some L[j].2
  | [], k => .inl ⟨rfl, rfl⟩
  | q :: l, k => by
    unfold atA
    by_cases hq : q.1 = p
    · refine .inr ⟨0, by simp, by rw [if_pos hq]; simp, by simpa using hq, ?_⟩
      simp [look, hq]
    · rw [if_neg hq]
      have hq' : ¬ p = q.1 := fun e => hq e.symm
      rcases atA_look (p := p) (L := l) (k := k + 1) with ⟨h1, h2⟩ | ⟨j, hj, h1, h2, h3⟩
      · exact .inl ⟨h1, by simp [look, hq', h2]⟩
      · refine .inr ⟨j + 1, by simpa using hj, by rw [h1]; congr 1; omega, by simpa using h2, ?_⟩
        simp [look, hq', h3]
theorem OwnA.mono {w : World} {b b' : Nat} {v : Value} {xs : List Aged} (h : OwnA w b v xs) (hb : b' ≤ b) : OwnA w b' v xs := by
  refine ⟨h.1, ?_⟩
  rcases h.2 with hn | ⟨g, cap, cur, rfl, hbb, rest⟩
  · exact .inl hn
  · exact .inr ⟨g, cap, cur, rfl, Nat.le_trans hb hbb, rest⟩
theorem OwnA.alloc {w : World} {base : Nat} {v : Value} {xs : List Aged} (h : OwnA w base v xs) (o : Obj) : OwnA (w.alloc o) base v xs := h.ext ((Below.refl _ _).alloc (Nat.le_refl _) _)
/-- 'append(out, {p, n})' at the operation -/
theorem wpList_appendA {w : World} {ops : Array Oper} {rest : List Oper} {o : Oper} {a : Go.Act} {Q : Exit → Go.Act → World → Prop} {s x : Operand} {base : Nat} {v : Value} {xs : List Aged} {u t n : Int} (hown : OwnA w base v xs) {b c : Nat}
    (h0 : w.cell? ⟨b, 0, none⟩ = some (.int .u16 u)) (h1 : w.cell? ⟨b, 1, none⟩ = some (.int .u32 t)) (h2 : w.cell? ⟨b, 2, none⟩ = some (.int .i64 n))
    (hlen : xs.length + 1 ≤ 1099511627776) (hbase : base ≤ w.heap.size)
    (hg : o.guard = none) (ho : o.op = .call { callee := .builtin .append, args := #[s, x], argTypes := #[26, 26] }) (hs : a.eval s = v) (hx : a.eval x = .slice (some ⟨b, 0, none⟩) 1 c)
    (h : ∀ v' w', OwnA w' base v' (xs ++ [((u, t), n)]) → w.grownBy w' v.ownBlock → wpList Try.prog ops Q rest (a.put o.dst v') w') : wpList Try.prog ops Q (o :: rest) a w := by
  obtain ⟨i0, hi, hz0, hz1, hz2⟩ := info_parts info42
  obtain ⟨v', w', hr, h5, h3, h4⟩ := run_append_own (P := Try.prog) w base 26 o.type 42 i0 _ 3 16 Try.underlying26 hi hz0 hz1 hz2 rfl (by decide) v xs.length (ageCells xs) hown ⟨b, 0, none⟩ 1 c (ageCells [((u, t), n)]) (ageCells_length _) (fun j z hz => by
    rw [addr_add]
    simp only [Nat.zero_add]
    have hj : j < 3 := by have := (List.getElem?_eq_some_iff.1 hz).1; rw [ageCells_length] at this; simpa using this
    rcases (show j = 0 ∨ j = 1 ∨ j = 2 by omega) with rfl | rfl | rfl
    · rw [h0, ← hz]; simp [ageCells]
    · rw [h1, ← hz]; simp [ageCells]
    · rw [h2, ← hz]; simp [ageCells]) (ageCells_one _) (by unfold maxLen; omega) (by omega) hbase
  refine Lib.wpList_append_run w hg s x 26 26 ho _ _ hs hx v' w' hr (h v' w' ?_ h3)
  unfold OwnA; rw [List.length_append, ageCells_append]; exact h5

/-! ### B16 -/
theorem atR_is {s : Nat} {T : Int} {v : Value} {L : List Aged} {x y : Int} {w : World} {i : Int} (h : Hid (atA (x, y) L 0 = i)) (hn : L.length ≤ 70368744177664) (hW : RefIs w s T v L) :
    Calls Try.prog 19 #[.pointer (some ⟨s, 0, none⟩), .agg #[.int .u16 x, .int .u32 y]] w fun e w' => e = .returned (.int .i64 i) ∧ Below w.heap.size w w' := by
  rw [← h.out]; exact atR_any s T v L x y w hn hW
theorem OwnA.mut {F : Nat → Prop} {w w' : World} {base : Nat} {v : Value} {xs : List Aged} (h : OwnA w base v xs) (hm : Mut F w w') (hF : ∀ g, base ≤ g → ¬ F g) : OwnA w' base v xs := by
  refine ⟨h.1, ?_⟩
  rcases h.2 with hn | ⟨g, cap, cur, rfl, hbb, hgg, rest⟩
  · exact .inl hn
  · exact .inr ⟨g, cap, cur, rfl, hbb, (hm.block g (Array.getElem?_eq_some_iff.1 hgg).1 (hF g hbb)).trans hgg, rest⟩
set_option maxRecDepth 100000 in
set_option maxHeartbeats 3200000 in
theorem followRef_any (s : Nat) (T : Int) (v : Value) (L : List Aged) (a : Option Addr) (c : Nat) (xs S : List Pid) (w : World) (hS : Hid (sortR [] xs = S)) (hn : xs.length ≤ 274877906944) (hSn : S.length ≤ 274877906944) (hLn : L.length ≤ 274877906944) (hrow : PidRow w a xs) (hW : RefIs w s T v L) :
    Calls Try.prog 18 #[.pointer (some ⟨s, 0, none⟩), .slice a xs.length c] w fun e w' => ∃ v', e = .returned (.tuple #[]) ∧ RefIs w' s T v' (followR L S) ∧ Mut (fun k => k = s) w w' := by
  have hsl := hW.lt
  go_enter Try.func18, Try.ntmps18
  go_wp2_with (go_at_call 35; refine (refSort_is hS hn hrow).mono ?_; rintro e w1 ⟨a1, c1, rfl, hrow1, hb1⟩)
  have z1 := hb1.size
  have hW1 := hW.ext hb1
  go_loopw [4, 6] (fun g i wr => ∃ (k : Nat) (got : List Aged), k ≤ S.length ∧ i = .int .i64 k ∧ got.length ≤ k ∧ Hid (followR L S = got ++ followR L (S.drop k)) ∧ OwnA wr w1.heap.size g got ∧ Below w1.heap.size w1 wr) (fun _ i _ => S.length - (intOf i).toNat)
  case atStart => exact ⟨0, [], Nat.zero_le _, rfl, Nat.le_refl _, rfl, OwnA.nil _ _, Below.refl _ _⟩
  case round =>
    obtain ⟨k, got, hk, rfl, hg, hM, hown, hb⟩ := hrel
    have z := hb.size
    have hWr := hW1.ext hb
    by_cases hlt : k < S.length
    · have hl1 : decide (k < S.length) = true := by simpa using hlt
      have hl2 : decide ((k : Int) < (S.length : Int)) = true := by simp; omega
      obtain ⟨b, off, x, y, rfl, hx, d1, d2⟩ := hrow1.at hb rfl hlt
      have hd := followR_drop (L := L) hlt hx
      obtain ⟨n, hn0⟩ : ∃ n, (look (x, y) L).getD 0 = n := ⟨_, rfl⟩
      rw [hn0] at hd
      have HD : Hid (followR L S = (got ++ [((x, y), n)]) ++ followR L (S.drop (k + 1))) := hid (by rw [hM.out, hd]; simp)
      have HX := hid hx
      clear hd hM hx
      rcases atA_look (p := (x, y)) (L := L) (k := 0) with ⟨h1, h2⟩ | ⟨j, hj, h1, h2, h3⟩
      · have HA := hid h1
        have hn1 : n = 0 := by rw [← hn0, h2]; rfl
        subst hn1
        clear h1 h2 hn0
        go_wp2_with (first
          | (go_at_call 19; refine (atR_is HA (by omega) hWr).mono ?_; rintro e w3 ⟨rfl, hb3⟩; have p1 := cell_to d1 hb3; have p2 := cell_to d2 hb3)
          | (at_builtin; refine wpList_appendA ((hown.ext hb3).alloc _) (u := x) (t := y) (n := 0) ?_ ?_ ?_ ?cb ?cz rfl rfl rfl rfl ?_; rotate_right; intro v4 w4 hown4 hg4))
        case cb => omega
        case cz => have := hb3.size; simp; omega
        have hB3 := hb.trans (hb3.mono z)
        have hB4 : Below w1.heap.size w1 w4 := (hB3.alloc hB3.size _).grown hg4 (by simp; have := hB3.size; omega) (fun g hg => (World.ownsRow.lt hown g hg).1)
        go_roundw
        case rel => exact ⟨k + 1, _, by omega, by go_num, by simp; omega, HD, hown4, hB4⟩
        case measure => simp [intOf]; omega
        all_goals simp
      · obtain ⟨ar, cr, rfl, hrw⟩ := hW1.own.row
        rcases hrw with rfl | ⟨rb, rfl, hrb, hrl, hcell⟩
        · simp at hj
        obtain ⟨-, -, g3⟩ := hcell j hj
        have hnj : L[j].2 = n := by rw [← hn0, h3]; rfl
        rw [hnj] at g3
        have d3 := cell_to g3 hb
        have e1 := hWr.c1
        have hjL : j < L.length := hj
        have hA : atA (x, y) L 0 = (j : Int) := by rw [h1]; simp
        have HA := hid hA
        have hj0 : decide ((0 : Int) ≤ (j : Int)) = true := by simp
        clear h1 h2 h3 hn0 hnj hA g3
        go_wp2_with (first
          | (go_at_call 19; refine (atR_is HA (by omega) hWr).mono ?_; rintro e w3 ⟨rfl, hb3⟩; have p1 := cell_to d1 hb3; have p2 := cell_to d2 hb3; have p3 := cell_to d3 hb3; have p4 := cell_to e1 hb3)
          | (at_builtin; refine wpList_appendA ((hown.ext hb3).alloc _) (u := x) (t := y) (n := n) ?_ ?_ ?_ ?cb ?cz rfl rfl rfl rfl ?_; rotate_right; intro v4 w4 hown4 hg4))
        case cb => omega
        case cz => have := hb3.size; simp; omega
        have hB3 := hb.trans (hb3.mono z)
        have hB4 : Below w1.heap.size w1 w4 := (hB3.alloc hB3.size _).grown hg4 (by simp; have := hB3.size; omega) (fun g hg => (World.ownsRow.lt hown g hg).1)
        go_roundw
        case rel => exact ⟨k + 1, _, by omega, by go_num, by simp; omega, HD, hown4, hB4⟩
        case measure => simp [intOf]; omega
        all_goals simp
    · have hl1 : decide (k < S.length) = false := by simp; omega
      have hl2 : decide ((k : Int) < (S.length : Int)) = false := by simp; omega
      have hend : Hid (followR L S = got) := hid (by rw [hM.out, List.drop_eq_nil_of_le (by omega)]; simp [followR])
      obtain ⟨g0, g1, g2, -⟩ := hWr
      obtain ⟨ag, cg, rfl, -⟩ := hown.row
      go_wp2
      have hbs : But s wr (wr.setCell ⟨s, 1, none⟩ (.slice ag got.length cg)) := ⟨rfl, rfl, rfl, by simp, fun k hk => Below.heap_setCell _ _ _ _ hk⟩
      refine bodyPost_end (results_none rfl _ _ _) rfl ⟨.slice ag got.length cg, rfl, ⟨?_, ?_, ?_, ?_⟩, ((Mut.of_below hb1).trans (Mut.of_below hb)).trans (Mut.of_but hbs rfl)⟩
      · rw [off2 (by omega)]; exact g0
      · exact World.cell?_setCell_same _ _ _ g1
      · simp [g2]
      · rw [hend.out]; exact (hown.mut (Mut.of_but hbs rfl) (fun g hg => by omega)).mono (by omega)

/-! ### B17 -/
theorem heap_setCell_at {W : World} {B k : Nat} {cur : Array Value} {t : TypeId} (v' : Value) (h : W.heap[B]? = some (.cells cur t (0, 0))) : (W.setCell ⟨B, k, none⟩ v').heap[B]? = some (.cells (cur.setIfInBounds k v') t (0, 0)) := by
  obtain ⟨hlt, hk⟩ := Array.getElem?_eq_some_iff.1 h
  show (W.heap.modify B _)[B]? = _
  rw [Array.getElem?_eq_getElem (by rw [Array.size_modify]; exact hlt), Array.getElem_modify_self, hk]
  rfl
theorem ageCells_set : ∀ (xs : List Aged) (i : Nat) (z : Int) (h : i < xs.length), (ageCells xs).set (i * 3 + 2) (.int .i64 z) = ageCells (xs.set i (xs[i].1, z))
  | p :: l, 0, z, _ => by simp [ageCells]
  | p :: l, i + 1, z, h => by
    have := ageCells_set l i z (by simpa using h)
    have e : ∀ (q : Aged) (m : List Aged), ageCells (q :: m) = .int .u16 q.1.1 :: .int .u32 q.1.2 :: .int .i64 q.2 :: ageCells m := fun q m => by simp [ageCells]
    rw [e, show (i + 1) * 3 + 2 = i * 3 + 2 + 1 + 1 + 1 by omega]
    simp only [List.set_cons_succ, List.getElem_cons_succ, e, this]
theorem OwnA.set {w : World} {base b n c : Nat} {xs : List Aged} (h : OwnA w base (.slice (some ⟨b, 0, none⟩) n c) xs) {i : Nat} (hi : i < xs.length) (z : Int) : OwnA (w.setCell ⟨b, i * 3 + 2, none⟩ (.int .i64 z)) base (.slice (some ⟨b, 0, none⟩) n c) (xs.set i (xs[i].1, z)) := by
  obtain ⟨h1, h2⟩ := h
  refine ⟨by rw [ageCells_length], ?_⟩
  rcases h2 with ⟨h3, h4⟩ | ⟨g, cap, cur, h3, hbb, hgg, hnc, hcm, hcs, htake⟩
  · cases h3
  · injection h3 with e1 e2 e3
    injection e1 with e1
    injection e1 with e1
    subst e1; subst e2; subst e3
    refine .inr ⟨b, c, cur.setIfInBounds (i * 3 + 2) (.int .i64 z), by simp, hbb, heap_setCell_at _ hgg, by simpa using hnc, hcm, by simpa using hcs, ?_⟩
    rw [List.length_set, ← ageCells_set xs i z hi, ← htake, Array.toList_setIfInBounds, List.take_set]
/-- one beat of the reference's watch -/
def tickR (T : Int) (L : List Aged) : List Aged := L.map fun p => (p.1, if p.2 < T then p.2 + 1 else p.2)

/-! ### B18 -/
def tickRMid (T : Int) (k : Nat) (L : List Aged) : List Aged := tickR T (L.take k) ++ L.drop k
theorem tickRMid_len (T : Int) (k : Nat) (L : List Aged) : (tickRMid T k L).length = L.length := by
  unfold tickRMid tickR; simp; omega
theorem tickRMid_zero (T : Int) (L : List Aged) : tickRMid T 0 L = L := by simp [tickRMid, tickR]
theorem tickRMid_all (T : Int) (L : List Aged) {k : Nat} (h : L.length ≤ k) : tickRMid T k L = tickR T L := by
  unfold tickRMid; rw [List.take_of_length_le h, List.drop_eq_nil_of_le h]; simp
theorem tickRMid_at {T : Int} {k : Nat} {L : List Aged} (h : k < L.length) (h' : k < (tickRMid T k L).length) : (tickRMid T k L)[k] = L[k] := by
  have : (tickRMid T k L)[k]? = some L[k] := by
    unfold tickRMid
    rw [List.getElem?_append_right (by simp [tickR]; omega)]
    simp [tickR, Nat.min_eq_left (Nat.le_of_lt h)]
  rw [List.getElem?_eq_getElem h'] at this
  exact Option.some.inj this
theorem tickRMid_step {T : Int} {k : Nat} {L : List Aged} (h : k < L.length) {p : Pid} {m : Int} (hp : L[k] = (p, m)) : (tickRMid T k L).set k (p, if m < T then m + 1 else m) = tickRMid T (k + 1) L := by
  unfold tickRMid
  have hl : (tickR T (L.take k)).length = k := by simp [tickR]; omega
  rw [List.set_append_right _ _ (by omega), hl, Nat.sub_self, List.drop_eq_getElem_cons h, List.set_cons_zero, List.take_succ_eq_append_getElem h]
  unfold tickR
  rw [List.map_append, List.append_assoc, hp]; rfl
theorem OwnA.at {w : World} {base b n c : Nat} {xs : List Aged} (h : OwnA w base (.slice (some ⟨b, 0, none⟩) n c) xs) {i : Nat} (hi : i < xs.length) :
    w.cell? ⟨b, i * 3, none⟩ = some (.int .u16 xs[i].1.1) ∧ w.cell? ⟨b, i * 3 + 1, none⟩ = some (.int .u32 xs[i].1.2) ∧ w.cell? ⟨b, i * 3 + 2, none⟩ = some (.int .i64 xs[i].2) ∧ w.frozen? ⟨b, i * 3 + 2, none⟩ = false ∧ base ≤ b := by
  obtain ⟨a, c', e, hr⟩ := h.row
  injection e with e1 e2 e3
  rcases hr with rfl | ⟨b', hb', hbb, hlt, hc⟩
  · simp at hi
  · rw [hb'] at e1
    injection e1 with e1
    injection e1 with e1
    subst e1
    obtain ⟨g1, g2, g3⟩ := hc i hi
    refine ⟨g1, g2, g3, ?_, hbb⟩
    rcases h.2 with ⟨h3, _⟩ | ⟨g, cap, cur, h3, _, hgg, _⟩
    · cases h3
    · injection h3 with e1 _ _
      injection e1 with e1
      injection e1 with e1
      subst e1
      simp [World.frozen?, hgg]
set_option maxRecDepth 100000 in
set_option maxHeartbeats 3200000 in
theorem tickRef_any (s : Nat) (T : Int) (v : Value) (L : List Aged) (w : World) (hn : L.length ≤ 549755813888) (hW : RefIs w s T v L) (hT : T ≤ 9223372036854775807) (hpos : ∀ p ∈ L, 0 ≤ p.2) :
    Calls Try.prog 22 #[.pointer (some ⟨s, 0, none⟩)] w fun e w' => e = .returned (.tuple #[]) ∧ RefIs w' s T v (tickR (max T 1) L) ∧ Mut (fun k => v.ownBlock = some k) w w' := by
  obtain ⟨a, c, rfl, hrow⟩ := hW.own.row
  have hsl := hW.lt
  obtain ⟨T1, hT1⟩ : ∃ T1, max T 1 = T1 := ⟨_, rfl⟩
  have hT2 : T1 ≤ 9223372036854775807 := by omega
  have HT := hid hT1
  have HP := hid hpos
  rw [hT1]
  have hW0 : RefIs w s T (.slice a L.length c) (tickRMid T1 0 L) := by rw [tickRMid_zero]; exact hW
  clear hpos
  go_enter Try.func22, Try.ntmps22
  go_wp2
  go_loopw [2] (fun i wr => ∃ (k : Nat), k ≤ L.length ∧ i = .int .i64 k ∧ RefIs wr s T (.slice a L.length c) (tickRMid T1 k L) ∧ Mut (fun k => (Value.slice a L.length c).ownBlock = some k) w wr) (fun i _ => L.length - (intOf i).toNat)
  case atStart => exact ⟨0, Nat.zero_le _, rfl, hW0, Mut.of_below (Below.refl _ _)⟩
  case round =>
    obtain ⟨k, hk, rfl, hWr, hm⟩ := hrel
    have e0 := hWr.c0
    have e1 := hWr.c1
    have z := hWr.lt
    by_cases hlt : k < L.length
    · have hl1 : decide (k < L.length) = true := by simpa using hlt
      have hl2 : decide ((k : Int) < (L.length : Int)) = true := by simp; omega
      rcases hrow with rfl | ⟨b, rfl, hbb, hblt, -⟩
      · simp at hlt
      · have hk' : k < (tickRMid T1 k L).length := by rw [tickRMid_len]; exact hlt
        obtain ⟨-, -, g3, g4, -⟩ := hWr.own.at hk'
        have hset := fun z => hWr.own.set hk' z
        rw [tickRMid_at hlt hk'] at g3
        obtain ⟨p, m, hLk⟩ : ∃ p m, L[k] = (p, m) := ⟨_, _, rfl⟩
        have hm0 : 0 ≤ m := by have := HP.out L[k] (List.getElem_mem _); rw [hLk] at this; exact this
        have hst := tickRMid_step (T := T1) hlt hLk
        rw [hLk] at g3
        simp only at g3
        simp only [tickRMid_at hlt hk', hLk] at hset
        have HLK := hid hLk
        clear hLk
        have f2 := cell_extw g3
        have f3 := cell_extw e0
        have f4 := cell_extw e1
        by_cases hmT : m < T1
        · have hm1 : decide (m < T1) = true := by simpa using hmT
          rw [if_pos hmT] at hst
          have HST := hid hst
          clear hst hset
          go_wp2
          refine wp_region_ext (w := wr) (Below.refl _ _) (by kernel_rfl) (by kernel_rfl) ?_
          repeat (go_big_quiet_step (fail))
          refine wpQuiet_nil ?_
          rintro w4 ⟨⟨_, hb4⟩, rfl⟩
          have hW4 := hWr.ext hb4
          obtain ⟨-, -, q3, q4, hbs⟩ := hW4.own.at hk'
          have hset := hW4.own.set hk' (m + 1)
          rw [tickRMid_at hlt hk', HLK.out] at q3 hset
          simp only at q3 hset
          rw [HST.out] at hset
          have HSET := hid hset
          have q1 := hW4.c1
          have z4 := hW4.lt
          have hm4 := hm.trans (Mut.of_below hb4)
          have hwr : IntKind.i64.wrap (m + 1) = m + 1 := IntWalk.i64_in _ (by omega)
          clear hset f2 f3 f4 e0 e1 g3 g4 hb4 hWr
          go_wp2
          have hbs4 : But b w4 (w4.setCell ⟨b, k * 3 + 2, none⟩ (.int .i64 (m + 1))) := ⟨rfl, rfl, rfl, by simp, fun k hk => Below.heap_setCell _ _ _ _ hk⟩
          go_roundw
          case rel =>
            refine ⟨k + 1, by omega, by go_num, ⟨?_, ?_, ?_, HSET.out⟩, hm4.trans (Mut.of_but hbs4 rfl)⟩
            · rw [World.cell?_setCell_other _ _ _ _ (by intro e; injection e with e1; omega)]; exact hW4.c0
            · rw [World.cell?_setCell_other _ _ _ _ (by intro e; injection e with e1; omega)]; exact hW4.c1
            · simp [hW4.f1]
          case measure => simp [intOf]; omega
        · have hm1 : decide (m < T1) = false := by simpa using hmT
          rw [if_neg hmT] at hst
          have hsame : tickRMid T1 (k + 1) L = tickRMid T1 k L := by rw [← hst, ← HLK.out, ← tickRMid_at hlt hk', List.set_getElem_self]
          have HS := hid hsame
          clear hst hset hsame
          go_wp2
          refine wp_region_ext (w := wr) (Below.refl _ _) (by kernel_rfl) (by kernel_rfl) ?_
          repeat (go_big_quiet_step (fail))
          refine wpQuiet_nil ?_
          rintro w4 ⟨⟨_, hb4⟩, rfl⟩
          go_wp2
          go_roundw
          case rel => exact ⟨k + 1, by omega, by go_num, by rw [HS.out]; exact hWr.ext hb4, hm.trans (Mut.of_below hb4)⟩
          case measure => simp [intOf]; omega
    · have hl1 : decide (k < L.length) = false := by simp; omega
      have hl2 : decide ((k : Int) < (L.length : Int)) = false := by simp; omega
      rw [tickRMid_all T1 L (by omega)] at hWr
      go_wp2
      exact bodyPost_end (results_none rfl _ _ _) rfl ⟨rfl, hWr, hm⟩

/-! ### B19 -/
theorem RefIs.mut {F : Nat → Prop} {w w' : World} {s : Nat} {T : Int} {v : Value} {L : List Aged} (h : RefIs w s T v L) (hm : Mut F w w') (hs : ¬ F s) (hr : ∀ g, v.ownBlock = some g → ¬ F g) : RefIs w' s T v L :=
  ⟨(hm.cell (by exact h.lt) (by exact hs)).trans h.c0, (hm.cell (by exact h.lt) (by exact hs)).trans h.c1, (World.frozen?_of_block (w := w) (hm.block s h.lt hs)).trans h.f1, by
    refine ⟨h.own.1, ?_⟩
    rcases h.own.2 with hn | ⟨g, cap, cur, rfl, hbb, hgg, rest⟩
    · exact .inl hn
    · exact .inr ⟨g, cap, cur, rfl, hbb, (hm.block g (Array.getElem?_eq_some_iff.1 hgg).1 (hr g rfl)).trans hgg, rest⟩⟩
/-- the watch and the reference's, apart from each other, in blocks from n0 on -/
structure Both (n0 : Nat) (w : World) (s r s2 : Nat) (T t : Int) (v : Value) (L M : List Aged) : Prop where
  a : WatchIs w s r T L
  b : RefIs w s2 t v M
  d : s < s2
  e0 : n0 ≤ s
  e1 : n0 ≤ r
section
variable {n0 : Nat} {w w' : World} {s r s2 r' : Nat} {T t : Int} {v v' : Value} {L L' M M' : List Aged}
theorem Both.ext (h : Both n0 w s r s2 T t v L M) (hb : Below w.heap.size w w') : Both n0 w' s r s2 T t v L M := ⟨h.a.ext hb, h.b.ext hb, h.d, h.e0, h.e1⟩
theorem Both.own_ge (h : Both n0 w s r s2 T t v L M) {g : Nat} (hg : v.ownBlock = some g) : s2 < g := by
  rcases h.b.own.2 with ⟨rfl, _⟩ | ⟨g', cap, cur, rfl, hbb, _⟩
  · simp [Value.ownBlock] at hg
  · simp [Value.ownBlock] at hg; omega
theorem Both.own_ne (h : Both n0 w s r s2 T t v L M) {g : Nat} (hg : v.ownBlock = some g) : g ≠ r := fun e => by
  obtain ⟨es, cl, h2, _⟩ := h.a.map
  rcases h.b.own.2 with ⟨rfl, _⟩ | ⟨g', cap, cur, rfl, hbb, hgg, _⟩
  · simp [Value.ownBlock] at hg
  · simp [Value.ownBlock] at hg
    subst hg; subst e
    rw [hgg] at h2; cases h2
theorem Both.ne (h : Both n0 w s r s2 T t v L M) : s2 ≠ r := fun e => by
  obtain ⟨es, cl, h2, _⟩ := h.a.map
  have h1 := h.b.c0
  subst e
  simp [World.cell?, h2] at h1
theorem Both.putA (h : Both n0 w s r s2 T t v L M) (ha : WatchIs w' s r T L') (hm : Mut (fun k => k = r) w w') : Both n0 w' s r s2 T t v L' M :=
  ⟨ha, h.b.mut hm h.ne (fun _ hg => h.own_ne hg), h.d, h.e0, h.e1⟩
theorem Both.turnA (h : Both n0 w s r s2 T t v L M) (hn : n0 ≤ w.heap.size) (hr : w.heap.size ≤ r') (ha : WatchIs w' s r' T L') (hm : Mut (fun k => k = s) w w') : Both n0 w' s r' s2 T t v L' M :=
  ⟨ha, h.b.mut hm (by have := h.d; omega) (fun _ hg => by have := h.own_ge hg; have := h.d; omega), h.d, h.e0, by omega⟩
theorem Both.putB (h : Both n0 w s r s2 T t v L M) (hb : RefIs w' s2 t v M') (hm : Mut (fun k => v.ownBlock = some k) w w') : Both n0 w' s r s2 T t v L M' :=
  ⟨h.a.mut hm (fun e => by have := h.own_ge e; have := h.d; omega) (fun e => h.own_ne e rfl), hb, h.d, h.e0, h.e1⟩
theorem Both.turnB (h : Both n0 w s r s2 T t v L M) (hb : RefIs w' s2 t v' M') (hm : Mut (fun k => k = s2) w w') : Both n0 w' s r s2 T t v' L M' :=
  ⟨h.a.mut hm (by have := h.d; omega) (fun e => h.ne e.symm), hb, h.d, h.e0, h.e1⟩
end
/-! ### plain: the two hold the same -/
structure SameW (T : Int) (L M : List Aged) (n b : Nat) : Prop where
  same : ∀ p, look p L = look p M
  ris : Ris (keys M)
  age : AgeOk L n b
  top : ∀ p m, look p L = some m → m ≤ T
  len : M.length ≤ n
theorem look_map_val {f : Int → Int} {p : Pid} : ∀ {M : List Aged}, look p (M.map fun q => (q.1, f q.2)) = (look p M).map f
  | [] => rfl
  | x :: l => by
    simp only [List.map_cons, look]
    split
    · rfl
    · exact look_map_val (M := l)
theorem keys_map_val {f : Int → Int} (M : List Aged) : keys (M.map fun q => (q.1, f q.2)) = keys M := by unfold keys; rw [List.map_map]; rfl
theorem SameW.tick {T : Int} {L M : List Aged} {n b : Nat} (h : SameW T L M n b) (hT : 1 ≤ T) : SameW T (tickL T L) (tickR T M) n (b + 1) := by
  have e : tickR T M = M.map fun q => (q.1, (fun z => if z < T then z + 1 else z) q.2) := rfl
  refine ⟨fun p => ?_, by rw [e, keys_map_val (f := fun z => if z < T then z + 1 else z)]; exact h.ris, h.age.tick hT, fun p m hm => ?_, by rw [e]; simpa using h.len⟩
  · rw [look_tick, e, look_map_val (f := fun z => if z < T then z + 1 else z), ← h.same]
    cases hl : look p L with
    | none => rfl
    | some m =>
      have := h.top p m hl
      simp only [Option.map_some]
      congr 1
      split <;> omega
  · rw [look_tick] at hm
    cases hl : look p L with
    | none => rw [hl] at hm; cases hm
    | some k => rw [hl] at hm; simp at hm; omega
theorem look_followR {L : List Aged} {p : Pid} : ∀ {S : List Pid}, look p (followR L S) = if p ∈ S then some ((look p L).getD 0) else none
  | [] => by simp [followR, look]
  | q :: l => by
    have ih := look_followR (L := L) (p := p) (S := l)
    unfold followR at ih ⊢
    simp only [List.map_cons, look]
    by_cases h : p = q
    · subst h; simp
    · rw [if_neg h, ih]; simp [h]
theorem keys_followR {L : List Aged} {S : List Pid} : keys (followR L S) = S := by unfold keys followR; rw [List.map_map]; simp [Function.comp_def]
theorem SameW.follow {T : Int} {L M : List Aged} {n b m : Nat} {l : List Pid} (h : SameW T L M n b) (hT : 0 ≤ T) (hl : ∀ p ∈ l, ok p) (hm : l.length ≤ m) (hs : (sortR [] l).length ≤ m) : SameW T (followL L [] l) (followR M (sortR [] l)) m b := by
  refine ⟨fun p => ?_, by rw [keys_followR]; exact sortR_ris hl (by simp) List.Pairwise.nil, h.age.follow hl hm, fun p k hk => ?_, by unfold followR; simpa using hs⟩
  · rw [look_follow, look_followR, ← h.same]
    simp only [mem_sortR]
    by_cases hp : p ∈ l
    · simp [hp]
    · simp [hp]; rfl
  · rw [look_follow] at hk
    split at hk
    · cases hl : look p L with
      | none => rw [hl] at hk; simp at hk; omega
      | some z => rw [hl] at hk; simp at hk; have := h.top p z hl; omega
    · simp [look] at hk
theorem sortR_len (l : List Pid) : ∀ {acc : List Pid}, (sortR acc l).length ≤ acc.length + l.length := by
  induction l with
  | nil => intro acc; exact Nat.le_refl _
  | cons x l ih =>
    intro acc
    unfold sortR
    split
    · have := ih (acc := acc); simp; omega
    · have := ih (acc := insR x acc); rw [insR_len] at this; simp; omega
theorem SameW.late {T : Int} {L M : List Aged} {n b : Nat} (h : SameW T L M n b) : sortL (lateL T L) = lateR T M := by
  have hnd : (keys (L.filter fun p => decide (T ≤ p.2))).Nodup := h.age.nd.sublist (List.Sublist.map _ List.filter_sublist)
  refine (sortL_ris hnd fun p hp => ?_).eq (List.Pairwise.sublist (List.Sublist.map _ List.filter_sublist) h.ris) fun p => ?_
  · obtain ⟨q, hq, rfl⟩ := List.mem_map.1 hp
    exact h.age.ok _ (List.mem_map_of_mem (List.mem_filter.1 hq).1)
  · rw [mem_sortL]
    have key : ∀ {K : List Aged}, (keys K).Nodup → (p ∈ (K.filter fun q => decide (T ≤ q.2)).map (·.1) ↔ ∃ m, look p K = some m ∧ T ≤ m) := fun {K} hK => by
      constructor
      · intro hp
        obtain ⟨q, hq, rfl⟩ := List.mem_map.1 hp
        obtain ⟨h1, h2⟩ := List.mem_filter.1 hq
        exact ⟨q.2, look_of_nodup hK h1, by simpa using h2⟩
      · rintro ⟨m, h1, h2⟩
        exact List.mem_map.2 ⟨(p, m), List.mem_filter.2 ⟨mem_of_look h1, by simpa using h2⟩, rfl⟩
    have k1 := key h.age.nd
    have k2 := key h.ris.nodup
    show p ∈ (L.filter fun q => decide (T ≤ q.2)).map (·.1) ↔ p ∈ (M.filter fun q => decide (T ≤ q.2)).map (·.1)
    rw [k1, k2]
    simp only [h.same]
theorem look_set {p q : Pid} {z : Int} : ∀ {M : List Aged} {j : Nat} (hj : j < M.length), (keys M).Nodup → M[j].1 = p → look q (M.set j (p, z)) = if q = p then some z else look q M
  | x :: l, 0, _, hn, hp => by
    simp only [List.getElem_cons_zero] at hp
    simp only [List.set_cons_zero, look]
    by_cases h : q = p
    · simp [h]
    · rw [if_neg h, if_neg h, if_neg (by rw [hp]; exact h)]
  | x :: l, j + 1, hj, hn, hp => by
    have hn' := List.nodup_cons.1 hn
    have hm : p ∈ keys l := by
      rw [← hp]
      exact List.mem_map_of_mem (f := fun x : Aged => x.1) (List.getElem_mem _)
    have hx : x.1 ≠ p := fun e => hn'.1 (show x.1 ∈ keys l by rw [e]; exact hm)
    simp only [List.set_cons_succ, look]
    rw [look_set (M := l) (by simpa using hj) hn'.2 (by simpa using hp)]
    by_cases h : q = p
    · subst h; rw [if_neg (fun e => hx e.symm), if_pos rfl, if_pos rfl]
    · rw [if_neg h, if_neg h]
theorem keys_set {p : Pid} {z : Int} : ∀ {M : List Aged} {j : Nat} (hj : j < M.length), M[j].1 = p → keys (M.set j (p, z)) = keys M
  | x :: l, 0, _, hp => by simp only [List.getElem_cons_zero] at hp; simp [keys, hp]
  | x :: l, j + 1, hj, hp => by
    have := keys_set (z := z) (M := l) (j := j) (by simpa using hj) (by simpa using hp)
    simpa [keys] using this
theorem SameW.heard {T : Int} {L M : List Aged} {n b : Nat} {p : Pid} (h : SameW T L M n b) (hT : 0 ≤ T) {j : Nat} (hj : j < M.length) (hp : M[j].1 = p) : SameW T (if (look p L).isSome = true then ins p 0 L else L) (M.set j (p, 0)) n b := by
  have hs : (look p L).isSome = true := by
    rw [h.same, look_isSome, ← hp]
    exact List.mem_map_of_mem (f := fun x : Aged => x.1) (List.getElem_mem _)
  have hA := h.age.heard (p := p)
  rw [if_pos hs] at hA ⊢
  refine ⟨fun q => ?_, by rw [keys_set hj hp]; exact h.ris, hA, fun q m hm => ?_, by simpa using h.len⟩
  · rw [look_ins, look_set hj h.ris.nodup hp, h.same]
  · rw [look_ins] at hm
    split at hm
    · simp at hm; omega
    · exact h.top q m hm
end Go.Proofs.Ytjjahefedpfnaaa
