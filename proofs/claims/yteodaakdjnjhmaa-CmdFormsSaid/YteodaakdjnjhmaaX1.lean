import Derived.Test.YteodaakdjnjhmaaBA
import Derived.Laws.MakeOwn
import Derived.Laws.CopyOwn
import Derived.Maps.AppendAt
import Derived.Laws.BitsAllLaws
import Derived.Lib.SliceRun
import Derived.Lib.AppendZerosOnto
namespace Go.Proofs.Yteodaakdjnjhmaa
open Go.RowKit
/-! ### bytes -/
theorem addr_addB (b off n : Nat) : (⟨b, off, none⟩ : Addr).add n = ⟨b, off + n, none⟩ := by
  unfold Addr.add; split <;> simp_all
theorem cell_toB {w wr : World} {a : Addr} {v : Value} (h : w.cell? a = some v) (hb : Below w.heap.size w wr) : wr.cell? a = some v := (hb.cell (World.block_lt_of_cell? w _ h)).trans h
def u8V (b : Nat) : Value := .int .u8 b
def u8C (bs : List Nat) : List Value := bs.map u8V
theorem u8C_len (bs : List Nat) : (u8C bs).length = bs.length := by simp [u8C]
theorem u8C_app (xs ys : List Nat) : u8C (xs ++ ys) = u8C xs ++ u8C ys := by simp [u8C]
theorem u8C_one (xs : List Nat) : ∀ u ∈ u8C xs, u.oneCell' = true := by
  intro u hu
  obtain ⟨b, _, rfl⟩ := List.mem_map.1 hu
  rfl
/-- the row of bytes behind a slice's address -/
def ByteRow (w : World) (a : Option Addr) (bs : List Nat) : Prop :=
  bs = [] ∨ ∃ b off, a = some ⟨b, off, none⟩ ∧ b < w.heap.size ∧ ∀ i (h : i < bs.length), w.cell? ⟨b, off + i, none⟩ = some (.int .u8 (bs[i] : Nat))
theorem ByteRow.ext {w w' : World} {a : Option Addr} {bs : List Nat} (h : ByteRow w a bs) (hb : Below w.heap.size w w') : ByteRow w' a bs := by
  rcases h with rfl | ⟨b, off, rfl, hlt, hc⟩
  · exact .inl rfl
  · exact .inr ⟨b, off, rfl, by have := hb.size; omega, fun i hi => by rw [hb.cell (by exact hlt)]; exact hc i hi⟩
theorem ByteRow.extB {w w' : World} {a : Option Addr} {bs : List Nat} {B : Nat} (h : ByteRow w a bs) (hb : Below B w w') (hB : ∀ b off, a = some ⟨b, off, none⟩ → b < B) : ByteRow w' a bs := by
  rcases h with rfl | ⟨b, off, rfl, hlt, hc⟩
  · exact .inl rfl
  · exact .inr ⟨b, off, rfl, by have := hb.size; omega, fun i hi => by rw [hb.cell (by exact hB b off rfl)]; exact hc i hi⟩
theorem ByteRow.alloc {w : World} {a : Option Addr} {bs : List Nat} (h : ByteRow w a bs) (o : Obj) : ByteRow (w.alloc o) a bs := h.ext ((Below.refl _ _).alloc (Nat.le_refl _) _)
theorem ByteRow.grown {w w' : World} {a : Option Addr} {bs : List Nat} {row : Option Nat} (h : ByteRow w a bs) (hg : w.grownBy w' row) (hne : ∀ b off, a = some ⟨b, off, none⟩ → bs ≠ [] → row ≠ some b) : ByteRow w' a bs := by
  rcases h with rfl | ⟨b, off, rfl, hlt, hc⟩
  · exact .inl rfl
  · by_cases hl : bs = []
    · exact .inl hl
    · have hb := hg.block b hlt (fun e => hne b off rfl hl e.symm)
      exact .inr ⟨b, off, rfl, by have := hg.size; omega, fun i hi => (World.cell?_of_block (w := w) hb).trans (hc i hi)⟩
/-- the k-th byte, in any later world -/
theorem ByteRow.at {w wr : World} {a : Option Addr} {bs : List Nat} (h : ByteRow w a bs) {B : Nat} (hb : Below B w wr) (hB : B = w.heap.size) {k : Nat} (hk : k < bs.length) :
    ∃ b off x, a = some ⟨b, off, none⟩ ∧ x = bs[k] ∧ wr.cell? ⟨b, off + k, none⟩ = some (.int .u8 (x : Nat)) := by
  subst hB
  rcases h with rfl | ⟨b, off, rfl, hlt, hc⟩
  · simp at hk
  · exact ⟨b, off, bs[k], rfl, rfl, by rw [hb.cell (by exact hlt)]; exact hc k hk⟩
theorem ByteRow.cells {w : World} {b off : Nat} {bs : List Nat} (hc : ∀ i (h : i < bs.length), w.cell? ⟨b, off + i, none⟩ = some (.int .u8 (bs[i] : Nat))) :
    ∀ j u, (u8C bs)[j]? = some u → w.cell? ((⟨b, off, none⟩ : Addr).add j) = some u := by
  intro j u hu
  have hj : j < (u8C bs).length := (List.getElem?_eq_some_iff.1 hu).1
  rw [u8C_len] at hj
  rw [addr_addB]
  rw [hc j hj, ← hu]
  simp [u8C, u8V, hj]
/-- a cut of the row -/
theorem ByteRow.from {w : World} {a : Option Addr} {bs : List Nat} {k : Nat} {b off : Nat} (ha : a = some ⟨b, off, none⟩) (h : ByteRow w a bs) : ByteRow w (some ⟨b, off + k, none⟩) (bs.drop k) := by
  subst ha
  rcases h with rfl | ⟨b', off', e, hlt, hc⟩
  · exact .inl (by simp)
  · cases e
    refine .inr ⟨b, off + k, rfl, hlt, fun i hi => ?_⟩
    have := hc (k + i) (by simp at hi; omega)
    rw [List.getElem_drop, Nat.add_assoc]; exact this
theorem ByteRow.upto {w : World} {a : Option Addr} {bs : List Nat} (k : Nat) (h : ByteRow w a bs) : ByteRow w a (bs.take k) := by
  rcases h with rfl | ⟨b, off, rfl, hlt, hc⟩
  · exact .inl (by simp)
  · exact .inr ⟨b, off, rfl, hlt, fun i hi => by rw [List.getElem_take]; exact hc i (by simp at hi; omega)⟩

theorem infoB : (Try.prog.info? 5).map (fun i => (i.zero, i.size, i.bytes)) = some (some (.int .u8 0), 1, 1) := by kernel_rfl
/-- a slice value that owns a row of bytes, from block base on -/
def OwnB (w : World) (base : Nat) (v : Value) (bs : List Nat) : Prop := w.ownsRow base 5 1 v bs.length (u8C bs)
theorem OwnB.nil (w : World) (base : Nat) : OwnB w base (.slice none 0 0) [] := World.ownsRow_nil _ _ _ _
theorem OwnB.ext {w w' : World} {base : Nat} {v : Value} {bs : List Nat} (h : OwnB w base v bs) (hb : Below w.heap.size w w') : OwnB w' base v bs := by
  refine ⟨h.1, ?_⟩
  rcases h.2 with hn | ⟨g, cap, cur, rfl, hbb, hgg, rest⟩
  · exact .inl hn
  · exact .inr ⟨g, cap, cur, rfl, hbb, (hb.block g (Array.getElem?_eq_some_iff.1 hgg).1).trans hgg, rest⟩
theorem OwnB.alloc {w : World} {base : Nat} {v : Value} {bs : List Nat} (h : OwnB w base v bs) (o : Obj) : OwnB (w.alloc o) base v bs := h.ext ((Below.refl _ _).alloc (Nat.le_refl _) _)
theorem OwnB.mono {w : World} {b b' : Nat} {v : Value} {bs : List Nat} (h : OwnB w b v bs) (hb : b' ≤ b) : OwnB w b' v bs := by
  refine ⟨h.1, ?_⟩
  rcases h.2 with hn | ⟨g, cap, cur, rfl, hbb, rest⟩
  · exact .inl hn
  · exact .inr ⟨g, cap, cur, rfl, Nat.le_trans hb hbb, rest⟩
theorem OwnB.row {w : World} {base : Nat} {v : Value} {bs : List Nat} (h : OwnB w base v bs) : ∃ a c, v = .slice a bs.length c ∧ ByteRow w a bs ∧ ∀ b off, a = some ⟨b, off, none⟩ → base ≤ b := by
  have hcells := fun g => World.ownsRow.cells (g := g) h
  rcases h.2 with ⟨rfl, hn⟩ | ⟨g, cap, cur, rfl, hb, hg, hnc, hcm, hcs, htake⟩
  · exact ⟨none, 0, by rw [hn], .inl (List.length_eq_zero_iff.1 hn), by simp⟩
  · refine ⟨_, cap, rfl, .inr ⟨g, 0, rfl, (Array.getElem?_eq_some_iff.1 hg).1, fun i hi => ?_⟩, fun b off e => by cases e; exact hb⟩
    have h1 := hcells g rfl i (.int .u8 (bs[i] : Nat)) (by simp [u8C, u8V, hi])
    rw [addr_addB] at h1
    exact h1
theorem OwnB.butT {w w' : World} {base t : Nat} {v : Value} {bs : List Nat} (h : OwnB w base v bs) (hb : ∀ k, k ≠ t → w'.heap[k]? = w.heap[k]?) (ht : some t ≠ v.ownBlock) : OwnB w' base v bs := by
  refine ⟨h.1, ?_⟩
  rcases h.2 with hn | ⟨g, cap, cur, rfl, hbb, hgg, rest⟩
  · exact .inl hn
  · exact .inr ⟨g, cap, cur, rfl, hbb, (hb g (fun e => ht (by rw [e]; rfl))).trans hgg, rest⟩
theorem run_appendB {w : World} {base : Nat} {v : Value} {xs ys : List Nat} (hown : OwnB w base v xs) {a : Option Addr} {c : Nat} (hy : ByteRow w a ys) (hlen : xs.length + ys.length ≤ 1099511627776) (hbase : base ≤ w.heap.size) (ty : TypeId) :
    ∃ v' w', (Builtin.append_ #[40, 40] ty #[v, .slice a ys.length c]).run Try.prog w = .ok v' w' ∧ OwnB w' base v' (xs ++ ys) ∧ w.grownBy w' v.ownBlock ∧ (v'.ownBlock = v.ownBlock ∨ v'.ownBlock = some w.heap.size) := by
  obtain ⟨i0, hi, hz0, hz1, hz2⟩ := info_parts infoB
  have main : ∀ ad : Addr, a = some ad → (∀ j u, (u8C ys)[j]? = some u → w.cell? (ad.add j) = some u) → ∃ v' w', (Builtin.append_ #[40, 40] ty #[v, .slice a ys.length c]).run Try.prog w = .ok v' w' ∧ OwnB w' base v' (xs ++ ys) ∧ w.grownBy w' v.ownBlock ∧ (v'.ownBlock = v.ownBlock ∨ v'.ownBlock = some w.heap.size) := by
    intro ad he hc
    subst he
    obtain ⟨v', w', hr, h2, h3, h4, h5⟩ := run_append_own_at (P := Try.prog) w base 40 ty 5 i0 _ 1 1 Try.underlying40 hi hz0 hz1 hz2 rfl (by decide) v xs.length (u8C xs) hown ad ys.length c (u8C ys) (by rw [u8C_len]; omega) hc (u8C_one ys) (by unfold maxLen; omega) (by omega) hbase
    refine ⟨v', w', hr, ?_, h3, h5⟩
    unfold OwnB; rw [List.length_append, u8C_app]; exact h2
  rcases hy with rfl | ⟨b, off, rfl, hlt, hc⟩
  · cases a with
    | some ad => exact main ad rfl (by simp [u8C])
    | none =>
      refine ⟨v, w, ?_, by simpa using hown, ⟨rfl, rfl, rfl, Nat.le_refl _, fun _ _ _ => rfl⟩, .inl rfl⟩
      rcases hown.2 with ⟨rfl, hn⟩ | ⟨g, cap, cur, rfl, hb, hg, hnc, hcm, hcs, htake⟩
      · simp [Builtin.append_, run_underlying Try.underlying40, sizeOf, typeInfo, hi, Builtin.lenOf, Builtin.firstCells]
      · simp [Builtin.append_, run_underlying Try.underlying40, sizeOf, typeInfo, hi, Builtin.lenOf, Builtin.firstCells, hnc, storeCells]
  · exact main _ rfl (ByteRow.cells hc)
/-- 'append(out, ys...)' at the operation -/
theorem wpList_appendB {w : World} {ops : Array Oper} {rest : List Oper} {o : Oper} {a : Act} {Q : Exit → Act → World → Prop} {s x : Operand} {base : Nat} {v : Value} {xs ys : List Nat} (hown : OwnB w base v xs) {ad : Option Addr} {c n : Nat} (hy : ByteRow w ad ys) (hn : Hid (ys.length = n))
    (hlen : xs.length + n ≤ 1099511627776) (hbase : base ≤ w.heap.size)
    (hg : o.guard = none) (ho : o.op = .call { callee := .builtin .append, args := #[s, x], argTypes := #[40, 40] }) (hs : a.eval s = v) (hx : a.eval x = .slice ad n c)
    (h : ∀ v' w', OwnB w' base v' (xs ++ ys) → w.grownBy w' v.ownBlock → (v'.ownBlock = v.ownBlock ∨ v'.ownBlock = some w.heap.size) → wpList Try.prog ops Q rest (a.put o.dst v') w') : wpList Try.prog ops Q (o :: rest) a w := by
  have hn := hn.out; subst hn
  obtain ⟨v', w', hr, h2, h3, h4⟩ := run_appendB hown (c := c) hy hlen hbase o.type
  exact Lib.wpList_append_run w hg s x 40 40 ho _ _ hs hx v' w' hr (h v' w' h2 h3 h4)
/-- one byte in a block of its own -/
theorem ByteRow.one (w : World) (x : Nat) : ByteRow (w.alloc (.cells #[.int .u8 x] 5)) (some ⟨w.heap.size, 0, none⟩) [x] :=
  .inr ⟨w.heap.size, 0, rfl, by simp, fun i hi => by have : i = 0 := by simpa using hi
                                                     subst this; simp⟩
theorem below_of_grown {B : Nat} {w0 w w' : World} {base : Nat} {v : Value} {xs : List Nat} (hb : Below B w0 w) (hg : w.grownBy w' v.ownBlock) (hown : OwnB w base v xs) (hB : B ≤ w.heap.size) (hbase : B ≤ base) : Below B w0 w' :=
  hb.grown hg hB (fun g hg => Nat.le_trans hbase (World.ownsRow.lt hown g hg).1)
theorem run_makeB (w : World) (n m : Nat) (h : n + m ≤ 1099511627776) : (Instr.makeSlice 40 (.int .i64 (n : Nat)) (.int .i64 ((n : Int) + (m : Int)))).run Try.prog w = .ok (.slice (some ⟨w.heap.size, 0, none⟩) n (n + m)) (w.alloc (.cells (madeCells #[.int .u8 0] (n + m)) 5)) := by
  obtain ⟨i0, hi, hz0, hz1, hz2⟩ := info_parts infoB
  have := run_make (P := Try.prog) w 40 5 i0 (.int .u8 0) Try.underlying40 hi hz0 .i64 .i64 (n : Nat) ((n : Int) + (m : Int)) (by omega) (by omega) (by rw [hz2]; omega) (by omega)
  rw [hz1] at this
  have e1 : ((n : Int) + (m : Int)).toNat = n + m := by omega
  have e2 : ((n : Nat) : Int).toNat = n := by omega
  rw [e1, e2] at this
  simpa [Value.cells] using this

/-! ### short forms -/
def short (n : Nat) : List Nat := if h : n < 128 then [n] else (n % 128 + 128) :: short (n / 128)
termination_by n
decreasing_by omega
theorem short_lt {n : Nat} (h : n < 128) : short n = [n] := by rw [short]; simp [h]
theorem short_ge {n : Nat} (h : ¬ n < 128) : short n = (n % 128 + 128) :: short (n / 128) := by rw [short]; simp [h]
theorem short_len : ∀ (k n : Nat), n < 128 ^ (k + 1) → (short n).length ≤ k + 1
  | 0, n, h => by rw [short_lt (by simpa using h)]; simp
  | k + 1, n, h => by
    by_cases hn : n < 128
    · rw [short_lt hn]; simp
    · rw [short_ge hn]
      have := short_len k (n / 128) (by rw [Nat.pow_succ] at h; omega)
      simp; omega
theorem short_len10 {n : Nat} (h : n < 18446744073709551616) : (short n).length ≤ 10 := short_len 9 n (by omega)
theorem short_byte : ∀ (k n : Nat), n < 128 ^ k → ∀ b ∈ short n, b < 256
  | 0, n, h, b, hb => by
    have : n = 0 := by simpa using h
    subst this; rw [short_lt (by decide)] at hb; simp at hb; omega
  | k + 1, n, h, b, hb => by
    by_cases hn : n < 128
    · rw [short_lt hn] at hb; simp at hb; omega
    · rw [short_ge hn] at hb
      rcases List.mem_cons.1 hb with rfl | hb
      · omega
      · exact short_byte k (n / 128) (by rw [Nat.pow_succ] at h; omega) b hb
theorem short_bytes {n : Nat} (h : n < 18446744073709551616) : ∀ b ∈ short n, b < 256 := short_byte 10 n (by omega)
theorem short_pos (n : Nat) : 0 < (short n).length := by
  by_cases hn : n < 128
  · rw [short_lt hn]; simp
  · rw [short_ge hn]; simp
/-- what a short form at the beginning says: the number, how many bytes, and what is wrong -/
def getFrom : Nat → Nat → List Nat → Nat × Nat × Nat
  | _, _, [] => (0, 0, 2)
  | i, n, c :: cs => if i = 9 ∧ 1 < c then (0, 0, 5) else if c < 128 then (if c = 0 ∧ 0 < i then (0, 0, 5) else (n + c % 128 * 128 ^ i, i + 1, 0)) else getFrom (i + 1) (n + c % 128 * 128 ^ i) cs
def getS (bs : List Nat) : Nat × Nat × Nat := getFrom 0 0 bs
theorem getFrom_drop {bs : List Nat} {i n k : Nat} (h : k < bs.length) {c : Nat} (hc : c = bs[k]) : getFrom i n (bs.drop k) = if i = 9 ∧ 1 < c then (0, 0, 5) else if c < 128 then (if c = 0 ∧ 0 < i then (0, 0, 5) else (n + c % 128 * 128 ^ i, i + 1, 0)) else getFrom (i + 1) (n + c % 128 * 128 ^ i) (bs.drop (k + 1)) := by
  rw [List.drop_eq_getElem_cons h, ← hc]; rfl
/-- the bounds of what is read -/
theorem getFrom_ok : ∀ (bs : List Nat) (i n : Nat), i ≤ 9 → n < 128 ^ i → (getFrom i n bs).2.2 = 0 → (getFrom i n bs).1 < 18446744073709551616 ∧ i < (getFrom i n bs).2.1 ∧ (getFrom i n bs).2.1 ≤ i + bs.length ∧ (getFrom i n bs).2.1 ≤ 10
  | [], i, n, _, _, h => by simp [getFrom] at h
  | c :: cs, i, n, hi, hn, h => by
    unfold getFrom at h ⊢
    by_cases h1 : i = 9 ∧ 1 < c
    · rw [if_pos h1] at h; simp at h
    · rw [if_neg h1] at h ⊢
      by_cases h2 : c < 128
      · rw [if_pos h2] at h ⊢
        by_cases h3 : c = 0 ∧ 0 < i
        · rw [if_pos h3] at h; simp at h
        · rw [if_neg h3] at h ⊢
          refine ⟨?_, by simp, by simp <;> omega, by simp <;> omega⟩
          have hc : c % 128 = c := Nat.mod_eq_of_lt h2
          simp only [hc]
          by_cases h9 : i = 9
          · subst h9; have : c ≤ 1 := by omega
            have : (128 : Nat) ^ 9 = 9223372036854775808 := by decide
            have : c * 128 ^ 9 ≤ 1 * 128 ^ 9 := Nat.mul_le_mul_right _ ‹c ≤ 1›
            omega
          · have h8 : 128 ^ i * 128 ≤ 128 ^ 9 := by rw [← Nat.pow_succ]; exact Nat.pow_le_pow_right (by decide) (by omega)
            have : (128 : Nat) ^ 9 = 9223372036854775808 := by decide
            have : c * 128 ^ i ≤ 127 * 128 ^ i := Nat.mul_le_mul_right _ (by omega)
            omega
      · rw [if_neg h2] at h ⊢
        by_cases h9 : i = 9
        · subst h9; exact absurd ⟨rfl, by omega⟩ h1
        · have hm : n + c % 128 * 128 ^ i < 128 ^ (i + 1) := by
            rw [Nat.pow_succ]
            have : c % 128 * 128 ^ i ≤ 127 * 128 ^ i := Nat.mul_le_mul_right _ (by omega)
            omega
          have := getFrom_ok cs (i + 1) _ (by omega) hm h
          simp only [List.length_cons]; omega
/-- a short form is read as its number, whatever stands behind it -/
theorem getFrom_short : ∀ (m : Nat) (i n : Nat) (r : List Nat), i ≤ 9 → n + m * 128 ^ i < 18446744073709551616 → (0 < i → 0 < m) → getFrom i n (short m ++ r) = (n + m * 128 ^ i, i + (short m).length, 0) := by
  intro m
  induction m using Nat.strongRecOn with
  | _ m ih =>
    intro i n r hi hb hp
    by_cases hm : m < 128
    · rw [short_lt hm, List.singleton_append]
      unfold getFrom
      have h1 : ¬ (i = 9 ∧ 1 < m) := by
        rintro ⟨rfl, h⟩
        have : 2 * 128 ^ 9 ≤ m * 128 ^ 9 := Nat.mul_le_mul_right _ h
        have : (128 : Nat) ^ 9 = 9223372036854775808 := by decide
        omega
      have h3 : ¬ (m = 0 ∧ 0 < i) := by rintro ⟨rfl, h⟩; have := hp h; omega
      rw [if_neg h1, if_pos hm, if_neg h3, Nat.mod_eq_of_lt hm]; rfl
    · rw [short_ge hm, List.cons_append]
      unfold getFrom
      have hi9 : i ≠ 9 := by
        rintro rfl
        have : 128 * 128 ^ 9 ≤ m * 128 ^ 9 := Nat.mul_le_mul_right _ (by omega)
        have : (128 : Nat) ^ 9 = 9223372036854775808 := by decide
        omega
      rw [if_neg (by omega), if_neg (by omega)]
      have e1 : (m % 128 + 128) % 128 = m % 128 := by omega
      have e2 : n + m % 128 * 128 ^ i + m / 128 * 128 ^ (i + 1) = n + m * 128 ^ i := by
        have : m * 128 ^ i = (128 * (m / 128) + m % 128) * 128 ^ i := by rw [Nat.div_add_mod]
        rw [this, Nat.pow_succ, Nat.add_mul, Nat.mul_comm (128 ^ i) 128, ← Nat.mul_assoc, Nat.mul_comm 128 (m / 128)]; omega
      rw [e1, ih (m / 128) (by omega) (i + 1) _ r (by omega) (by rw [e2]; exact hb) (by omega), e2]
      simp; omega
theorem getS_short {m : Nat} (h : m < 18446744073709551616) (r : List Nat) : getS (short m ++ r) = (m, (short m).length, 0) := by
  have := getFrom_short m 0 0 r (by decide) (by simpa using h) (by omega)
  simpa [getS] using this
end Go.Proofs.Yteodaakdjnjhmaa
