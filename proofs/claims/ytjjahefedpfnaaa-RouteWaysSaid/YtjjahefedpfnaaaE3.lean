import Derived.Test.YtjjahefedpfnaaaE2
import Derived.Maps.AppendAt
namespace Go.Proofs.Ytjjahefedpfnaaa
open Go.RowKit
theorem wpList_appendPat {w : World} {ops : Array Oper} {rest : List Oper} {o : Oper} {a : Act} {Q : Exit → Act → World → Prop} {s x : Operand} {base : Nat} {v : Value} {xs : List Pid} {p : Pid} (hown : OwnP w base v xs) {ad : Option Addr} {c : Nat} (hy : PidRow w ad [p])
    (hlen : xs.length + 1 ≤ 1099511627776) (hbase : base ≤ w.heap.size)
    (hg : o.guard = none) (ho : o.op = .call { callee := .builtin .append, args := #[s, x], argTypes := #[33, 33] }) (hs : a.eval s = v) (hx : a.eval x = .slice ad 1 c)
    (h : ∀ v' w', OwnP w' base v' (xs ++ [p]) → w.grownBy w' v.ownBlock → (v'.ownBlock = v.ownBlock ∨ v'.ownBlock = some w.heap.size) → wpList Try.prog ops Q rest (a.put o.dst v') w') : wpList Try.prog ops Q (o :: rest) a w := by
  obtain ⟨i0, hi, hz0, hz1, hz2⟩ := info_parts info36
  obtain ⟨b, off, rfl, hlt, hc⟩ := hy.get (by simp)
  obtain ⟨v', w', hr, h2, h3, h4, h5⟩ := run_append_own_at (P := Try.prog) w base 33 o.type 32 i0 _ 2 8 Try.underlying33 hi hz0 hz1 hz2 rfl (by decide) v xs.length (pidCells xs) hown ⟨b, off, none⟩ 1 c (pidCells [p]) (pidCells_length [p]) (PidRow.cells hc) (pidCells_one [p]) (by unfold maxLen; omega) (by omega) hbase
  refine Lib.wpList_append_run w hg s x 33 33 ho _ _ hs hx v' w' hr (h v' w' ?_ h3 h5)
  unfold OwnP; rw [List.length_append, pidCells_append]; exact h2
theorem hasRu_is {r : Nat → Int} {x y : Int} {w : World} {b : Bool} (hx : 0 ≤ x) (h : Hid (hasRu r (x, y) = b)) : Calls Try.prog 118 #[.agg (rumC r), .agg #[.int .u16 x, .int .u32 y]] w fun e w' => e = .returned (.bool b) ∧ Below w.heap.size w w' := by
  have := hasRu_any r x y w hx
  rw [h.out] at this
  exact this

/-- a rumor's sixteen cells -/
def RumBox (w : World) (b : Nat) (r : Nat → Int) : Prop := ∀ i, i < 16 → w.cell? ⟨b, i, none⟩ = some (.int .u32 (r i))
theorem RumBox.made (w : World) (r : Nat → Int) : RumBox (w.alloc (.cells (rumC r) 70)) w.heap.size r := fun i h => by
  have hr0 : (w.alloc (.cells (rumC r) 70)).heap[w.heap.size]? = some (.cells (rumC r) 70) := by
    show (w.heap.push _)[w.heap.size]? = _
    simp only [Array.getElem?_push_size]
  simp only [World.cell?, hr0]
  exact rumC_get r h
theorem RumBox.ext {w w' : World} {b : Nat} {r : Nat → Int} (h : RumBox w b r) {B : Nat} (hb : Below B w w') (hB : b < B) : RumBox w' b r := fun i hi => (hb.cell (by exact hB)).trans (h i hi)
theorem RumBox.all {w : World} {b : Nat} {r : Nat → Int} (h : RumBox w b r) : w.cell? ⟨b, 0, none⟩ = some (.int .u32 (r 0)) ∧ w.cell? ⟨b, 1, none⟩ = some (.int .u32 (r 1)) ∧ w.cell? ⟨b, 2, none⟩ = some (.int .u32 (r 2)) ∧ w.cell? ⟨b, 3, none⟩ = some (.int .u32 (r 3)) ∧ w.cell? ⟨b, 4, none⟩ = some (.int .u32 (r 4)) ∧ w.cell? ⟨b, 5, none⟩ = some (.int .u32 (r 5)) ∧ w.cell? ⟨b, 6, none⟩ = some (.int .u32 (r 6)) ∧ w.cell? ⟨b, 7, none⟩ = some (.int .u32 (r 7)) ∧ w.cell? ⟨b, 8, none⟩ = some (.int .u32 (r 8)) ∧ w.cell? ⟨b, 9, none⟩ = some (.int .u32 (r 9)) ∧ w.cell? ⟨b, 10, none⟩ = some (.int .u32 (r 10)) ∧ w.cell? ⟨b, 11, none⟩ = some (.int .u32 (r 11)) ∧ w.cell? ⟨b, 12, none⟩ = some (.int .u32 (r 12)) ∧ w.cell? ⟨b, 13, none⟩ = some (.int .u32 (r 13)) ∧ w.cell? ⟨b, 14, none⟩ = some (.int .u32 (r 14)) ∧ w.cell? ⟨b, 15, none⟩ = some (.int .u32 (r 15)) :=
  ⟨h 0 (by decide), h 1 (by decide), h 2 (by decide), h 3 (by decide), h 4 (by decide), h 5 (by decide), h 6 (by decide), h 7 (by decide), h 8 (by decide), h 9 (by decide), h 10 (by decide), h 11 (by decide), h 12 (by decide), h 13 (by decide), h 14 (by decide), h 15 (by decide)⟩
theorem soundL_drop {S : Pid → Bool} {xs : List Pid} {k : Nat} (h : k < xs.length) {x y : Int} (hx : (x, y) = xs[k]) : soundL S (xs.drop k) = if S (x, y) = true then soundL S (xs.drop (k + 1)) else (x, y) :: soundL S (xs.drop (k + 1)) := by
  unfold soundL
  rw [filter_drop h hx]
  cases S (x, y) <;> simp

def Apart (v u : Value) : Prop := ∀ g, v.ownBlock = some g → u.ownBlock = none ∨ u.ownBlock ≠ some g
theorem kept_r {w w' : World} {v u : Value} {A : List Pid} {b : Nat} (hv : OwnP w b v A) (hg : w.grownBy w' u.ownBlock) (hap : Apart v u) : OwnP w' b v A :=
  World.ownsRow.kept hv hg (by
    rcases hq : v.ownBlock with _ | g
    · exact .inl rfl
    · right; intro e; rcases hap g hq with h | h
      · rw [← e] at h; cases h
      · exact h e.symm)
theorem kept_l {w w' : World} {v u : Value} {B : List Pid} {b : Nat} (hu : OwnP w b u B) (hg : w.grownBy w' v.ownBlock) (hap : Apart v u) : OwnP w' b u B :=
  World.ownsRow.kept hu hg (by
    rcases hq : v.ownBlock with _ | g
    · rcases hu : u.ownBlock with _ | g
      · exact .inl rfl
      · right; simp
    · exact hap g hq)
theorem apart_r {w : World} {v u u' : Value} {A : List Pid} {b n : Nat} (hv : OwnP w b v A) (hn : w.heap.size ≤ n) (h : u'.ownBlock = u.ownBlock ∨ u'.ownBlock = some n) (hap : Apart v u) : Apart v u' := fun g hg => by
  rcases h with h | h
  · rw [h]; exact hap g hg
  · right; rw [h]; intro e
    have hgl := (World.ownsRow.lt hv g hg).2
    simp at e; omega
theorem apart_l {w : World} {v v' u : Value} {B : List Pid} {b n : Nat} (hu : OwnP w b u B) (hn : w.heap.size ≤ n) (h : v'.ownBlock = v.ownBlock ∨ v'.ownBlock = some n) (hap : Apart v u) : Apart v' u := fun g hg => by
  rcases h with h | h
  · exact hap g (by rw [← h]; exact hg)
  · rcases hq : u.ownBlock with _ | g'
    · exact .inl rfl
    · right; intro e
      have hgl := (World.ownsRow.lt hu g' hq).2
      rw [h] at hg
      simp at hg e; omega
set_option maxRecDepth 100000 in
set_option maxHeartbeats 3200000 in
theorem parted_any (r : Nat → Int) (a : Option Addr) (c : Nat) (xs : List Pid) (w : World) (hwf : WfPids xs) (hn : xs.length ≤ 549755813888) (hrow : PidRow w a xs) :
    Calls Try.prog 105 #[.agg (rumC r), .slice a xs.length c] w fun e w' => ∃ v u, e = .returned (.tuple #[v, u]) ∧ OwnP w' w.heap.size u (soundL (hasRu r) xs) ∧ Below w.heap.size w w' := by
  have hB1 : Below w.heap.size w (w.alloc (.cells (rumC r) 70)) := (Below.refl _ _).alloc (Nat.le_refl _) _
  have hR1 := RumBox.made w r
  have hx1 := hrow.ext hB1
  have hz1 : w.heap.size < (w.alloc (.cells (rumC r) 70)).heap.size := by simp
  go_enter Try.func105, Try.ntmps105
  go_wp2
  generalize w.alloc (.cells (rumC r) 70) = w1 at *
  go_loopw [4, 5, 10] (fun v u i wr => ∃ (k : Nat) (A B : List Pid), k ≤ xs.length ∧ i = .int .i64 k ∧ A.length ≤ k ∧ B.length ≤ k ∧ Hid (soundL (hasRu r) xs = B ++ soundL (hasRu r) (xs.drop k)) ∧ OwnP wr w1.heap.size v A ∧ OwnP wr w1.heap.size u B ∧ Apart v u ∧ Below w1.heap.size w1 wr) (fun _ _ i _ => xs.length - (intOf i).toNat)
  case atStart => exact ⟨0, [], [], Nat.zero_le _, rfl, Nat.le_refl _, Nat.le_refl _, rfl, OwnP.nil _ _, OwnP.nil _ _, (fun g hg => .inl rfl), Below.refl _ _⟩
  case round =>
    obtain ⟨k, A, B, hk, rfl, hA, hBl, hM, hvA, huB, hap, hb⟩ := hrel
    have hs0 := hb.size
    by_cases hlt : k < xs.length
    · obtain ⟨pb, po, x, y, rfl, hpx, d1, d2⟩ := hx1.at hb rfl hlt
      have hx0 : 0 ≤ x := by have := hwf (x, y) (by rw [hpx]; exact List.getElem_mem _); exact this.1
      have hfd := soundL_drop (S := hasRu r) hlt hpx
      have hB2 : Below w1.heap.size w1 (wr.alloc (.cells #[.int .u16 x, .int .u32 y] 32)) := hb.alloc hb.size _
      have hR2 := (hR1.ext hb hz1).ext (B := wr.heap.size) ((Below.refl wr.heap.size wr).alloc (Nat.le_refl _) (.cells #[.int .u16 x, .int .u32 y] 32)) (by omega)
      obtain ⟨q0, q1, q2, q3, q4, q5, q6, q7, q8, q9, q10, q11, q12, q13, q14, q15⟩ := hR2.all
      have p0 : (wr.alloc (.cells #[.int .u16 x, .int .u32 y] 32)).cell? ⟨wr.heap.size, 0, none⟩ = some (.int .u16 x) := by simp
      have p1 : (wr.alloc (.cells #[.int .u16 x, .int .u32 y] 32)).cell? ⟨wr.heap.size, 1, none⟩ = some (.int .u32 y) := by simp
      have HAP := hid hap
      have HX1 := hid hx1
      have HR1 := hid hR1
      have HR2 := hid hR2
      cases hs : hasRu r (x, y)
      · rw [hs] at hfd
        have HS := hid hs
        have HFD := hid hfd
        clear hs hfd hpx hrow hwf hap hx1 hR1 hR2
        go_wp2_with (first
          | (go_at_call 118; refine (hasRu_is hx0 HS).mono ?_; rintro e w3 ⟨rfl, hb3⟩; have z0 := cell_to p0 hb3; have z1 := cell_to p1 hb3)
          | (at_builtin; refine wpList_appendPat (((huB.alloc _).ext hb3).alloc _) (PidRow.one _ x y) ?cb ?cz rfl rfl rfl rfl ?_; rotate_right; intro v4 w4 hown4 hg4 hat4))
        case cb => omega
        case cz => have := hb3.size; simp at this; simp; omega
        have hz3 := hb3.size
        simp at hz3
        have hB3 := hB2.trans (hb3.mono hB2.size)
        have hB4 : Below w1.heap.size w1 w4 := (hB3.alloc hB3.size _).grown hg4 (by simp; omega) (fun g hg => (World.ownsRow.lt huB g hg).1)
        have hvA4 := kept_r (((hvA.alloc _).ext hb3).alloc _) hg4 HAP.out
        have hap4 := apart_r hvA (by simp; omega) hat4 HAP.out
        have HAT := hid hat4
        clear hat4
        go_roundw
        case rel => exact ⟨k + 1, A, B ++ [(x, y)], by omega, by go_num, by omega, by simp; omega, hid (hM.out.trans (by rw [HFD.out]; simp)), hvA4, hown4, hap4, hB4⟩
        case measure => simp [intOf]; omega
      · rw [hs] at hfd
        have HS := hid hs
        have HFD := hid hfd
        clear hs hfd hpx hrow hwf hap hx1 hR1 hR2
        go_wp2_with (first
          | (go_at_call 118; refine (hasRu_is hx0 HS).mono ?_; rintro e w3 ⟨rfl, hb3⟩; have z0 := cell_to p0 hb3; have z1 := cell_to p1 hb3)
          | (at_builtin; refine wpList_appendPat (((hvA.alloc _).ext hb3).alloc _) (PidRow.one _ x y) ?cb ?cz rfl rfl rfl rfl ?_; rotate_right; intro v4 w4 hown4 hg4 hat4))
        case cb => omega
        case cz => have := hb3.size; simp at this; simp; omega
        have hz3 := hb3.size
        simp at hz3
        have hB3 := hB2.trans (hb3.mono hB2.size)
        have hB4 : Below w1.heap.size w1 w4 := (hB3.alloc hB3.size _).grown hg4 (by simp; omega) (fun g hg => (World.ownsRow.lt hvA g hg).1)
        have huB4 := kept_l (((huB.alloc _).ext hb3).alloc _) hg4 HAP.out
        have hap4 := apart_l huB (by simp; omega) hat4 HAP.out
        have HAT := hid hat4
        clear hat4
        go_roundw
        case rel => exact ⟨k + 1, A ++ [(x, y)], B, by omega, by go_num, by simp; omega, by omega, hid (hM.out.trans (by rw [HFD.out]; simp)), hown4, huB4, hap4, hB4⟩
        case measure => simp [intOf]; omega
    · have hend : Hid (soundL (hasRu r) xs = B) := by
        have := hM.out
        rw [List.drop_eq_nil_of_le (by omega)] at this
        rw [Hid, this]; simp [soundL]
      go_wp2
      exact bodyPost_ret (v := .tuple #[_, _]) (by simp [results, Try.results105, go_sem]; exact ⟨rfl, rfl⟩) rfl ⟨_, _, rfl, by rw [hend.out]; exact huB.mono (by omega), hB1.trans (hb.mono (by omega))⟩

theorem sound_any (r : Nat → Int) (a : Option Addr) (c : Nat) (xs : List Pid) (w : World) (hwf : WfPids xs) (hn : xs.length ≤ 549755813888) (hrow : PidRow w a xs) :
    Calls Try.prog 97 #[.agg (rumC r), .slice a xs.length c] w fun e w' => ∃ u, e = .returned u ∧ OwnP w' w.heap.size u (soundL (hasRu r) xs) ∧ Below w.heap.size w w' := by
  have hB1 : Below w.heap.size w (w.alloc (.cells (rumC r) 70)) := (Below.refl _ _).alloc (Nat.le_refl _) _
  obtain ⟨q0, q1, q2, q3, q4, q5, q6, q7, q8, q9, q10, q11, q12, q13, q14, q15⟩ := (RumBox.made w r).all
  have hx1 := hrow.ext hB1
  go_enter Try.func97, Try.ntmps97
  go_wp2_with (go_at_call 105; refine (parted_any r _ _ xs _ hwf hn hx1).mono ?_; rintro e w3 ⟨v, u, rfl, hown, hb3⟩)
  go_ret
  exact ⟨_, rfl, hown.mono hB1.size, hB1.trans (hb3.mono hB1.size)⟩

end Go.Proofs.Ytjjahefedpfnaaa
