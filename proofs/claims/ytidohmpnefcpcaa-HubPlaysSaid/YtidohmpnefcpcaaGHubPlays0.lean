/- Parts of the proof: Base X1 X8 Maps W3 W5 W6 W8 R1 X5 X9 X10 X11 K1 K2 K3 K4 K5 K6. -/
import Derived.Test.YtidohmpnefcpcaaRows
import Derived.ChangeOld
import Derived.ShutString
import Derived.JoinedOf
import Derived.Test.YtidohmpnefcpcaaChecked
import Derived.WalkKit
import Derived.WalkLawsBesides
import Derived.WalkSpells
import Derived.Deep.QuietTactic
import Derived.BigQuiet
import Derived.Laws.MakeOwn
import Derived.Laws.CopyOwn
import Derived.Maps.AppendAt
import Derived.Laws.BitsAllLaws
import Derived.Lib.SliceRun
import Derived.Lib.AppendZerosOnto
import Derived.Deep.RegionWith
import Derived.Deep.RegionHeld3
import Derived.Maps.OwnSet
import Derived.Defers
import Derived.ArgAppend
import Derived.Deep.DeepCutAuto
namespace Go.Proofs.Ytidohmpnefcpcaa
open Go.RowKit
theorem hid {p : Prop} (h : p) : Hid p := h
theorem ret_int {k : IntKind} {a b : Int} (h : a = b) : Ending.returned (.int k a) = .returned (.int k b) := by rw [h]
theorem ret_bool {a b : Bool} (h : a = b) : Ending.returned (.bool a) = .returned (.bool b) := by rw [h]

abbrev Pid := Int × Int
/-- the row of processes behind a slice's address -/
def PidRow (w : World) (a : Option Addr) (xs : List Pid) : Prop :=
  xs = [] ∨ ∃ b off, a = some ⟨b, off, none⟩ ∧ b < w.heap.size ∧ ∀ i (h : i < xs.length), w.cell? ⟨b, off + i * 2, none⟩ = some (.int .u16 xs[i].1) ∧ w.cell? ⟨b, off + i * 2 + 1, none⟩ = some (.int .u32 xs[i].2)
theorem PidRow.get {w : World} {a : Option Addr} {xs : List Pid} (h : PidRow w a xs) (h0 : 0 < xs.length) :
    ∃ b off, a = some ⟨b, off, none⟩ ∧ b < w.heap.size ∧ ∀ i (h : i < xs.length), w.cell? ⟨b, off + i * 2, none⟩ = some (.int .u16 xs[i].1) ∧ w.cell? ⟨b, off + i * 2 + 1, none⟩ = some (.int .u32 xs[i].2) := by
  rcases h with rfl | h
  · simp at h0
  · exact h
theorem PidRow.below {w w' : World} {a : Option Addr} {xs : List Pid} (h : PidRow w a xs) {B : Nat} (hb : Below B w w') (hB : ∀ b off, a = some ⟨b, off, none⟩ → b < B) : PidRow w' a xs := by
  rcases h with rfl | ⟨b, off, rfl, hlt, hc⟩
  · exact .inl rfl
  · refine .inr ⟨b, off, rfl, by have := hb.size; omega, fun i hi => ?_⟩
    have := hB b off rfl
    rw [hb.cell (by exact this), hb.cell (by exact this)]
    exact hc i hi
theorem PidRow.ext {w w' : World} {a : Option Addr} {xs : List Pid} (h : PidRow w a xs) (hb : Below w.heap.size w w') : PidRow w' a xs := by
  rcases h with rfl | ⟨b, off, rfl, hlt, hc⟩
  · exact .inl rfl
  · exact PidRow.below (.inr ⟨b, off, rfl, hlt, hc⟩) hb (fun b' off' e => by cases e; exact hlt)
/-- the k-th cell pair, in any later world -/
theorem PidRow.at {w wr : World} {a : Option Addr} {xs : List Pid} (h : PidRow w a xs) {B : Nat} (hb : Below B w wr) (hB : B = w.heap.size) {k : Nat} (hk : k < xs.length) :
    ∃ b off x y, a = some ⟨b, off, none⟩ ∧ (x, y) = xs[k] ∧ wr.cell? ⟨b, off + k * 2, none⟩ = some (.int .u16 x) ∧ wr.cell? ⟨b, off + k * 2 + 1, none⟩ = some (.int .u32 y) := by
  subst hB
  obtain ⟨b, off, rfl, hlt, hc⟩ := h.get (by omega)
  refine ⟨b, off, xs[k].1, xs[k].2, rfl, rfl, ?_, ?_⟩
  · rw [hb.cell (by exact hlt)]; exact (hc k hk).1
  · rw [hb.cell (by exact hlt)]; exact (hc k hk).2
theorem below_drewN {B : Nat} {a w : World} (h : Below B a w) (n : Nat) : Below B a (w.drewN n) := ⟨h.os, h.tape, h.output, h.size, h.block⟩
/-- the rows behind a slice of slices -/
def LeafRow (w : World) (a : Option Addr) (ls : List (List Pid)) : Prop :=
  ls = [] ∨ ∃ b off, a = some ⟨b, off, none⟩ ∧ b < w.heap.size ∧ ∀ i (h : i < ls.length), ∃ ai ci, w.cell? ⟨b, off + i, none⟩ = some (.slice ai ls[i].length ci) ∧ PidRow w ai ls[i]
theorem LeafRow.ext {w w' : World} {a : Option Addr} {ls : List (List Pid)} (h : LeafRow w a ls) (hb : Below w.heap.size w w') : LeafRow w' a ls := by
  rcases h with rfl | ⟨b, off, rfl, hlt, hc⟩
  · exact .inl rfl
  · refine .inr ⟨b, off, rfl, by have := hb.size; omega, fun i hi => ?_⟩
    obtain ⟨ai, ci, h1, h2⟩ := hc i hi
    exact ⟨ai, ci, by rw [hb.cell (by exact hlt)]; exact h1, h2.ext hb⟩
theorem LeafRow.at {w wr : World} {a : Option Addr} {ls : List (List Pid)} (h : LeafRow w a ls) {B : Nat} (hb : Below B w wr) (hB : B = w.heap.size) {k : Nat} (hk : k < ls.length) :
    ∃ b off ai ci l, a = some ⟨b, off, none⟩ ∧ l = ls[k] ∧ wr.cell? ⟨b, off + k, none⟩ = some (.slice ai l.length ci) ∧ PidRow wr ai l := by
  subst hB
  rcases h with rfl | ⟨b, off, rfl, hlt, hc⟩
  · simp at hk
  · obtain ⟨ai, ci, h1, h2⟩ := hc k hk
    exact ⟨b, off, ai, ci, ls[k], rfl, rfl, by rw [hb.cell (by exact hlt)]; exact h1, h2.ext hb⟩
/-- a view, as data -/
structure View where
  id : Int
  ms : List Pid
  ls : List (List Pid)
  ds : List Pid
structure ViewR (w : World) (am al ad : Option Addr) (V : View) : Prop where
  ms : PidRow w am V.ms
  ls : LeafRow w al V.ls
  ds : PidRow w ad V.ds
  lm : V.ms.length ≤ 70368744177664
  ll : V.ls.length ≤ 70368744177664
  ld : V.ds.length ≤ 70368744177664
  le : ∀ l ∈ V.ls, l.length ≤ 70368744177664
theorem ViewR.ext {w w' : World} {am al ad : Option Addr} {V : View} (h : ViewR w am al ad V) (hb : Below w.heap.size w w') : ViewR w' am al ad V :=
  ⟨h.ms.ext hb, h.ls.ext hb, h.ds.ext hb, h.lm, h.ll, h.ld, h.le⟩
theorem eql_pid (a b c d : Int) (w : World) : (binOp .eql 30 (.agg #[.int .u16 a, .int .u32 b]) (.agg #[.int .u16 c, .int .u32 d])).run Try.prog w = .ok (.bool (decide ((a, b) = (c, d)))) w := by
  have hS : Try.prog.underlying 30 = some (.struct (Try.prog.fieldsOf 30)) := by kernel_rfl
  have hp : Try.prog.stoodInHeld 30 = false := by kernel_rfl
  rw [run_eql_struct, show (10000 : Nat) = 9999 + 1 from rfl, run_equalIn_agg w 9999 30 _ _ hS hp]
  simp only [Program.fieldsOf, Try.underlying30]
  go_simp
  by_cases h1 : a = c <;> by_cases h2 : b = d <;> simp [h1, h2]
theorem neq_pid (a b c d : Int) (w : World) : (binOp .neq 30 (.agg #[.int .u16 a, .int .u32 b]) (.agg #[.int .u16 c, .int .u32 d])).run Try.prog w = .ok (.bool (!decide ((a, b) = (c, d)))) w := by
  have hS : Try.prog.underlying 30 = some (.struct (Try.prog.fieldsOf 30)) := by kernel_rfl
  have hp : Try.prog.stoodInHeld 30 = false := by kernel_rfl
  rw [run_neq_struct, show (10000 : Nat) = 9999 + 1 from rfl, run_equalIn_agg w 9999 30 _ _ hS hp]
  simp only [Program.fieldsOf, Try.underlying30]
  go_simp
  by_cases h1 : a = c <;> by_cases h2 : b = d <;> simp [h1, h2]
end Go.Proofs.Ytidohmpnefcpcaa

namespace Go.Proofs.Ytidohmpnefcpcaa
open Go.RowKit
/-! ### bytes -/
theorem addr_addB (b off n : Nat) : (⟨b, off, none⟩ : Addr).add n = ⟨b, off + n, none⟩ := by
  unfold Addr.add; split <;> simp_all
theorem cell_toB {w wr : World} {a : Addr} {v : Value} (h : w.cell? a = some v) (hb : Below w.heap.size w wr) : wr.cell? a = some v := (hb.cell (World.block_lt_of_cell? w _ h)).trans h
def u8V (b : Nat) : Value := .int .u8 b
def u8C (bs : List Nat) : List Value := bs.map u8V
theorem u8C_len (bs : List Nat) : (u8C bs).length = bs.length := by simp [u8C]
theorem u8C_app (xs ys : List Nat) : u8C (xs ++ ys) = u8C xs ++ u8C ys := by simp [u8C]
theorem u8C_one (xs : List Nat) : ∀ u ∈ u8C xs, u.oneCell' = true := by
  intro u hu
  obtain ⟨b, _, rfl⟩ := List.mem_map.1 hu
  rfl
/-- the row of bytes behind a slice's address -/
def ByteRow (w : World) (a : Option Addr) (bs : List Nat) : Prop :=
  bs = [] ∨ ∃ b off, a = some ⟨b, off, none⟩ ∧ b < w.heap.size ∧ ∀ i (h : i < bs.length), w.cell? ⟨b, off + i, none⟩ = some (.int .u8 (bs[i] : Nat))
theorem ByteRow.ext {w w' : World} {a : Option Addr} {bs : List Nat} (h : ByteRow w a bs) (hb : Below w.heap.size w w') : ByteRow w' a bs := by
  rcases h with rfl | ⟨b, off, rfl, hlt, hc⟩
  · exact .inl rfl
  · exact .inr ⟨b, off, rfl, by have := hb.size; omega, fun i hi => by rw [hb.cell (by exact hlt)]; exact hc i hi⟩
theorem ByteRow.alloc {w : World} {a : Option Addr} {bs : List Nat} (h : ByteRow w a bs) (o : Obj) : ByteRow (w.alloc o) a bs := h.ext ((Below.refl _ _).alloc (Nat.le_refl _) _)
theorem ByteRow.grown {w w' : World} {a : Option Addr} {bs : List Nat} {row : Option Nat} (h : ByteRow w a bs) (hg : w.grownBy w' row) (hne : ∀ b off, a = some ⟨b, off, none⟩ → bs ≠ [] → row ≠ some b) : ByteRow w' a bs := by
  rcases h with rfl | ⟨b, off, rfl, hlt, hc⟩
  · exact .inl rfl
  · by_cases hl : bs = []
    · exact .inl hl
    · have hb := hg.block b hlt (fun e => hne b off rfl hl e.symm)
      exact .inr ⟨b, off, rfl, by have := hg.size; omega, fun i hi => (World.cell?_of_block (w := w) hb).trans (hc i hi)⟩
/-- the k-th byte, in any later world -/
theorem ByteRow.at {w wr : World} {a : Option Addr} {bs : List Nat} (h : ByteRow w a bs) {B : Nat} (hb : Below B w wr) (hB : B = w.heap.size) {k : Nat} (hk : k < bs.length) :
    ∃ b off x, a = some ⟨b, off, none⟩ ∧ x = bs[k] ∧ wr.cell? ⟨b, off + k, none⟩ = some (.int .u8 (x : Nat)) := by
  subst hB
  rcases h with rfl | ⟨b, off, rfl, hlt, hc⟩
  · simp at hk
  · exact ⟨b, off, bs[k], rfl, rfl, by rw [hb.cell (by exact hlt)]; exact hc k hk⟩
theorem ByteRow.cells {w : World} {b off : Nat} {bs : List Nat} (hc : ∀ i (h : i < bs.length), w.cell? ⟨b, off + i, none⟩ = some (.int .u8 (bs[i] : Nat))) :
    ∀ j u, (u8C bs)[j]? = some u → w.cell? ((⟨b, off, none⟩ : Addr).add j) = some u := by
  intro j u hu
  have hj : j < (u8C bs).length := (List.getElem?_eq_some_iff.1 hu).1
  rw [u8C_len] at hj
  rw [addr_addB]
  rw [hc j hj, ← hu]
  simp [u8C, u8V, hj]
/-- a cut of the row -/
theorem ByteRow.from {w : World} {a : Option Addr} {bs : List Nat} {k : Nat} {b off : Nat} (ha : a = some ⟨b, off, none⟩) (h : ByteRow w a bs) : ByteRow w (some ⟨b, off + k, none⟩) (bs.drop k) := by
  subst ha
  rcases h with rfl | ⟨b', off', e, hlt, hc⟩
  · exact .inl (by simp)
  · cases e
    refine .inr ⟨b, off + k, rfl, hlt, fun i hi => ?_⟩
    have := hc (k + i) (by simp at hi; omega)
    rw [List.getElem_drop, Nat.add_assoc]; exact this
theorem ByteRow.upto {w : World} {a : Option Addr} {bs : List Nat} (k : Nat) (h : ByteRow w a bs) : ByteRow w a (bs.take k) := by
  rcases h with rfl | ⟨b, off, rfl, hlt, hc⟩
  · exact .inl (by simp)
  · exact .inr ⟨b, off, rfl, hlt, fun i hi => by rw [List.getElem_take]; exact hc i (by simp at hi; omega)⟩

theorem infoB : (Try.prog.info? 5).map (fun i => (i.zero, i.size, i.bytes)) = some (some (.int .u8 0), 1, 1) := by kernel_rfl
/-- a slice value that owns a row of bytes, from block base on -/
def OwnB (w : World) (base : Nat) (v : Value) (bs : List Nat) : Prop := w.ownsRow base 5 1 v bs.length (u8C bs)
theorem OwnB.nil (w : World) (base : Nat) : OwnB w base (.slice none 0 0) [] := World.ownsRow_nil _ _ _ _
theorem OwnB.ext {w w' : World} {base : Nat} {v : Value} {bs : List Nat} (h : OwnB w base v bs) (hb : Below w.heap.size w w') : OwnB w' base v bs := by
  refine ⟨h.1, ?_⟩
  rcases h.2 with hn | ⟨g, cap, cur, rfl, hbb, hgg, rest⟩
  · exact .inl hn
  · exact .inr ⟨g, cap, cur, rfl, hbb, (hb.block g (Array.getElem?_eq_some_iff.1 hgg).1).trans hgg, rest⟩
theorem OwnB.alloc {w : World} {base : Nat} {v : Value} {bs : List Nat} (h : OwnB w base v bs) (o : Obj) : OwnB (w.alloc o) base v bs := h.ext ((Below.refl _ _).alloc (Nat.le_refl _) _)
theorem OwnB.mono {w : World} {b b' : Nat} {v : Value} {bs : List Nat} (h : OwnB w b v bs) (hb : b' ≤ b) : OwnB w b' v bs := by
  refine ⟨h.1, ?_⟩
  rcases h.2 with hn | ⟨g, cap, cur, rfl, hbb, rest⟩
  · exact .inl hn
  · exact .inr ⟨g, cap, cur, rfl, Nat.le_trans hb hbb, rest⟩
theorem OwnB.row {w : World} {base : Nat} {v : Value} {bs : List Nat} (h : OwnB w base v bs) : ∃ a c, v = .slice a bs.length c ∧ ByteRow w a bs ∧ ∀ b off, a = some ⟨b, off, none⟩ → base ≤ b := by
  have hcells := fun g => World.ownsRow.cells (g := g) h
  rcases h.2 with ⟨rfl, hn⟩ | ⟨g, cap, cur, rfl, hb, hg, hnc, hcm, hcs, htake⟩
  · exact ⟨none, 0, by rw [hn], .inl (List.length_eq_zero_iff.1 hn), by simp⟩
  · refine ⟨_, cap, rfl, .inr ⟨g, 0, rfl, (Array.getElem?_eq_some_iff.1 hg).1, fun i hi => ?_⟩, fun b off e => by cases e; exact hb⟩
    have h1 := hcells g rfl i (.int .u8 (bs[i] : Nat)) (by simp [u8C, u8V, hi])
    rw [addr_addB] at h1
    exact h1
theorem run_appendB {w : World} {base : Nat} {v : Value} {xs ys : List Nat} (hown : OwnB w base v xs) {a : Option Addr} {c : Nat} (hy : ByteRow w a ys) (hlen : xs.length + ys.length ≤ 1099511627776) (hbase : base ≤ w.heap.size) (ty : TypeId) :
    ∃ v' w', (Builtin.append_ #[32, 32] ty #[v, .slice a ys.length c]).run Try.prog w = .ok v' w' ∧ OwnB w' base v' (xs ++ ys) ∧ w.grownBy w' v.ownBlock ∧ (v'.ownBlock = v.ownBlock ∨ v'.ownBlock = some w.heap.size) := by
  obtain ⟨i0, hi, hz0, hz1, hz2⟩ := info_parts infoB
  have main : ∀ ad : Addr, a = some ad → (∀ j u, (u8C ys)[j]? = some u → w.cell? (ad.add j) = some u) → ∃ v' w', (Builtin.append_ #[32, 32] ty #[v, .slice a ys.length c]).run Try.prog w = .ok v' w' ∧ OwnB w' base v' (xs ++ ys) ∧ w.grownBy w' v.ownBlock ∧ (v'.ownBlock = v.ownBlock ∨ v'.ownBlock = some w.heap.size) := by
    intro ad he hc
    subst he
    obtain ⟨v', w', hr, h2, h3, h4, h5⟩ := run_append_own_at (P := Try.prog) w base 32 ty 5 i0 _ 1 1 Try.underlying32 hi hz0 hz1 hz2 rfl (by decide) v xs.length (u8C xs) hown ad ys.length c (u8C ys) (by rw [u8C_len]; omega) hc (u8C_one ys) (by unfold maxLen; omega) (by omega) hbase
    refine ⟨v', w', hr, ?_, h3, h5⟩
    unfold OwnB; rw [List.length_append, u8C_app]; exact h2
  rcases hy with rfl | ⟨b, off, rfl, hlt, hc⟩
  · cases a with
    | some ad => exact main ad rfl (by simp [u8C])
    | none =>
      refine ⟨v, w, ?_, by simpa using hown, ⟨rfl, rfl, rfl, Nat.le_refl _, fun _ _ _ => rfl⟩, .inl rfl⟩
      rcases hown.2 with ⟨rfl, hn⟩ | ⟨g, cap, cur, rfl, hb, hg, hnc, hcm, hcs, htake⟩
      · simp [Builtin.append_, run_underlying Try.underlying32, sizeOf, typeInfo, hi, Builtin.lenOf, Builtin.firstCells]
      · simp [Builtin.append_, run_underlying Try.underlying32, sizeOf, typeInfo, hi, Builtin.lenOf, Builtin.firstCells, hnc, storeCells]
  · exact main _ rfl (ByteRow.cells hc)
/-- 'append(out, ys...)' at the operation -/
theorem wpList_appendB {w : World} {ops : Array Oper} {rest : List Oper} {o : Oper} {a : Act} {Q : Exit → Act → World → Prop} {s x : Operand} {base : Nat} {v : Value} {xs ys : List Nat} (hown : OwnB w base v xs) {ad : Option Addr} {c n : Nat} (hy : ByteRow w ad ys) (hn : Hid (ys.length = n))
    (hlen : xs.length + n ≤ 1099511627776) (hbase : base ≤ w.heap.size)
    (hg : o.guard = none) (ho : o.op = .call { callee := .builtin .append, args := #[s, x], argTypes := #[32, 32] }) (hs : a.eval s = v) (hx : a.eval x = .slice ad n c)
    (h : ∀ v' w', OwnB w' base v' (xs ++ ys) → w.grownBy w' v.ownBlock → (v'.ownBlock = v.ownBlock ∨ v'.ownBlock = some w.heap.size) → wpList Try.prog ops Q rest (a.put o.dst v') w') : wpList Try.prog ops Q (o :: rest) a w := by
  have hn := hn.out; subst hn
  obtain ⟨v', w', hr, h2, h3, h4⟩ := run_appendB hown (c := c) hy hlen hbase o.type
  exact Lib.wpList_append_run w hg s x 32 32 ho _ _ hs hx v' w' hr (h v' w' h2 h3 h4)
/-- one byte in a block of its own -/
theorem ByteRow.one (w : World) (x : Nat) : ByteRow (w.alloc (.cells #[.int .u8 x] 5)) (some ⟨w.heap.size, 0, none⟩) [x] :=
  .inr ⟨w.heap.size, 0, rfl, by simp, fun i hi => by have : i = 0 := by simpa using hi
                                                     subst this; simp⟩
theorem below_of_grown {B : Nat} {w0 w w' : World} {base : Nat} {v : Value} {xs : List Nat} (hb : Below B w0 w) (hg : w.grownBy w' v.ownBlock) (hown : OwnB w base v xs) (hB : B ≤ w.heap.size) (hbase : B ≤ base) : Below B w0 w' :=
  hb.grown hg hB (fun g hg => Nat.le_trans hbase (World.ownsRow.lt hown g hg).1)
/-! ### short forms -/
def short (n : Nat) : List Nat := if h : n < 128 then [n] else (n % 128 + 128) :: short (n / 128)
termination_by n
decreasing_by omega
end Go.Proofs.Ytidohmpnefcpcaa

namespace Go.Proofs.Ytidohmpnefcpcaa
open Go.RowKit
theorem ByteRow.cut {w : World} {a : Option Addr} {bs : List Nat} (h : ByteRow w a bs) {k c : Nat} (hc : bs.length ≤ c) : ByteRow w (if c = k then a else a.map (·.add (k * 1))) (bs.drop k) := by
  by_cases hk : k < bs.length
  · rw [if_neg (by omega)]
    rcases h with rfl | ⟨b, off, rfl, hb, hcell⟩
    · simp at hk
    · refine .inr ⟨b, off + k, by simp [addr_addB], hb, fun i hi => ?_⟩
      simp only [List.length_drop] at hi
      have := hcell (k + i) (by omega)
      rw [List.getElem_drop, show off + k + i = off + (k + i) by omega]
      exact this
  · rw [List.drop_eq_nil_of_le (by omega)]; exact .inl rfl
end Go.Proofs.Ytidohmpnefcpcaa

namespace Go.Proofs.Ytidohmpnefcpcaa
open Go.RowKit
open Go.Instr Go.MapKept

/-- first place and value at a key -/
def lookI {α β : Type} [DecidableEq α] (x : α) : List (α × β) → Nat → Option (Nat × β)
  | [], _ => none
  | p :: l, i => if x = p.1 then some (i, p.2) else lookI x l (i + 1)
def look {α β : Type} [DecidableEq α] (x : α) : List (α × β) → Option β
  | [] => none
  | p :: l => if x = p.1 then some p.2 else look x l
def ins {α β : Type} [DecidableEq α] (x : α) (v : β) : List (α × β) → List (α × β)
  | [] => [(x, v)]
  | p :: l => if x = p.1 then (x, v) :: l else p :: ins x v l
def del {α β : Type} [DecidableEq α] (x : α) : List (α × β) → List (α × β)
  | [] => []
  | p :: l => if x = p.1 then l else p :: del x l

/-- what the laws ask of a key type -/
structure KeyOk (P : Program) (K : TypeId) {α : Type} [DecidableEq α] (ke : α → Value) : Prop where
  find : ∀ (x : α) (L : List (α × Value)) (es : List MapEntry) (w : World), es.map (fun e => (e.key, e.val)) = L.map (fun p => (ke p.1, p.2)) →
    (findKey K (ke x) es).run P w = .ok (lookI x L 0) w
  check : ∀ (b : Bool) (x : α) (w : World), (checkKey b 10000 K (ke x)).run P w = .ok () w
  same : ∀ x, sameBits 10000 (ke x) (ke x) = true

def bornOk (es : Array MapEntry) (clock : Nat) : Prop := (es.toList.map (·.born)).Nodup ∧ ∀ e ∈ es.toList, e.born < clock

def MapIs {α β : Type} (w : World) (r : Nat) (ke : α → Value) (ve : β → Value) (L : List (α × β)) : Prop :=
  ∃ es clock, w.heap[r]? = some (.map es clock) ∧ es.toList.map (fun e => (e.key, e.val)) = L.map (fun p => (ke p.1, ve p.2)) ∧ bornOk es clock

section
set_option linter.unusedSectionVars false
variable {α β : Type} [DecidableEq α] {ke : α → Value} {ve : β → Value} {P : Program} {K : TypeId}

theorem MapIs.lt {w : World} {r : Nat} {L : List (α × β)} (h : MapIs w r ke ve L) : r < w.heap.size := by
  obtain ⟨es, clock, hb, _⟩ := h
  exact (Array.getElem?_eq_some_iff.1 hb).1
theorem MapIs.same {w w' : World} {r : Nat} {L : List (α × β)} (h : MapIs w r ke ve L) (hb : w'.heap[r]? = w.heap[r]?) : MapIs w' r ke ve L := by
  obtain ⟨es, clock, h1, h2⟩ := h
  exact ⟨es, clock, hb.trans h1, h2⟩
theorem MapIs.ext {w w' : World} {r : Nat} {L : List (α × β)} (h : MapIs w r ke ve L) (hb : Below w.heap.size w w') : MapIs w' r ke ve L :=
  h.same (hb.block _ h.lt)
theorem MapIs.alloc {w : World} {r : Nat} {L : List (α × β)} (h : MapIs w r ke ve L) (o : Obj) : MapIs (w.alloc o) r ke ve L :=
  h.ext ((Below.refl _ _).alloc (Nat.le_refl _) _)
theorem MapIs.setCell {w : World} {r : Nat} {L : List (α × β)} (h : MapIs w r ke ve L) {p : Addr} (hp : r ≠ p.block) (u : Value) : MapIs (w.setCell p u) r ke ve L :=
  h.same (Below.heap_setCell _ _ _ _ hp)
theorem MapIs.made (w : World) : MapIs (w.alloc (.map #[] 0)) w.heap.size ke ve ([] : List (α × β)) :=
  ⟨#[], 0, (MapKept.heap_alloc w _).1, rfl, by simp [bornOk]⟩

theorem lookI_map (f : β → Value) (x : α) : ∀ (L : List (α × β)) (i : Nat), lookI x (L.map fun p => (p.1, f p.2)) i = (lookI x L i).map fun q => (q.1, f q.2)
  | [], _ => rfl
  | p :: l, i => by
    simp only [List.map_cons, lookI]
    split
    · rfl
    · exact lookI_map f x l (i + 1)
theorem lookI_look (x : α) : ∀ (L : List (α × β)) (i : Nat), (lookI x L i).map (·.2) = look x L
  | [], _ => rfl
  | p :: l, i => by
    simp only [lookI, look]
    split
    · rfl
    · exact lookI_look x l (i + 1)
theorem lookI_some {x : α} : ∀ {L : List (α × β)} {i j : Nat} {v : β}, lookI x L i = some (j, v) → i ≤ j ∧ j - i < L.length ∧ (∃ u, L[j - i]? = some (x, u)) ∧ ∀ u, ins x u L = L.set (j - i) (x, u)
  | [], _, _, _, h => by simp [lookI] at h
  | p :: l, i, j, v, h => by
    simp only [lookI] at h
    split at h
    · next hx =>
      simp only [Option.some.injEq, Prod.mk.injEq] at h
      obtain ⟨rfl, rfl⟩ := h
      refine ⟨Nat.le_refl _, by simp, ⟨p.2, by simp [hx]⟩, fun u => by simp [ins, hx]⟩
    · next hx =>
      obtain ⟨h1, h2, h3, h4⟩ := lookI_some h
      have e : j - i = (j - (i + 1)) + 1 := by omega
      refine ⟨by omega, by simp; omega, ?_, fun u => ?_⟩
      · rw [e]; simpa using h3
      · rw [e]; simp only [ins, if_neg hx, List.set_cons_succ, h4 u]
theorem lookI_none {x : α} : ∀ {L : List (α × β)} {i : Nat}, lookI x L i = none → ∀ u, ins x u L = L ++ [(x, u)]
  | [], _, _, u => rfl
  | p :: l, i, h, u => by
    simp only [lookI] at h
    split at h
    · simp at h
    · next hx => simp [ins, if_neg hx, lookI_none h u]

theorem find_run {w : World} {L : List (α × β)} (kk : KeyOk P K ke) {es : Array MapEntry} (he : es.toList.map (fun e => (e.key, e.val)) = L.map (fun p => (ke p.1, ve p.2))) (x : α) :
    (findKey K (ke x) es.toList).run P w = .ok ((lookI x L 0).map fun q => (q.1, ve q.2)) w := by
  rw [kk.find x (L.map fun p => (p.1, ve p.2)) es.toList w (by rw [he]; simp), lookI_map]

theorem MapIs.lookup_ok {w : World} {r : Nat} {L : List (α × β)} (h : MapIs w r ke ve L) (kk : KeyOk P K ke) {t e : TypeId} (ht : P.underlying t = some (.map K e))
    {z : Value} (hz : (zeroValue e).run P w = .ok z w) (x : α) :
    (Instr.lookup t (.map (some r)) (ke x) true).run P w = .ok (.tuple #[((look x L).map ve).getD z, .bool (look x L).isSome]) w := by
  obtain ⟨es, clock, hb, he, _⟩ := h
  have hf := find_run (w := w) kk he x
  have hl := lookI_look x L 0
  cases hq : lookI x L 0 with
  | none =>
    rw [hq] at hl hf
    simp [Instr.lookup, run_underlying ht, MapKept.run_getObj_map hb, kk.check, hf, Result.andThen, ← hl, hz]
  | some q =>
    rw [hq] at hl hf
    simp [Instr.lookup, run_underlying ht, MapKept.run_getObj_map hb, kk.check, hf, Result.andThen, ← hl]
theorem MapIs.lookup_no {w : World} {r : Nat} {L : List (α × β)} (h : MapIs w r ke ve L) (kk : KeyOk P K ke) {t e : TypeId} (ht : P.underlying t = some (.map K e))
    {z : Value} (hz : (zeroValue e).run P w = .ok z w) (x : α) :
    (Instr.lookup t (.map (some r)) (ke x) false).run P w = .ok (((look x L).map ve).getD z) w := by
  obtain ⟨es, clock, hb, he, _⟩ := h
  have hf := find_run (w := w) kk he x
  have hl := lookI_look x L 0
  cases hq : lookI x L 0 with
  | none =>
    rw [hq] at hl hf
    simp [Instr.lookup, run_underlying ht, MapKept.run_getObj_map hb, kk.check, hf, Result.andThen, ← hl, hz]
  | some q =>
    rw [hq] at hl hf
    simp [Instr.lookup, run_underlying ht, MapKept.run_getObj_map hb, kk.check, hf, Result.andThen, ← hl]

/-- w' is w but for block r -/
structure But (r : Nat) (w w' : World) : Prop where
  os : w'.os = w.os
  tape : w'.tape = w.tape
  output : w'.output = w.output
  size : w'.heap.size = w.heap.size
  block : ∀ k, k ≠ r → w'.heap[k]? = w.heap[k]?
theorem But.below {r B : Nat} {w w' : World} (h : But r w w') (hB : B ≤ r) : Below B w w' :=
  ⟨h.os, h.tape, h.output, by rw [h.size]; exact Nat.le_refl _, fun k hk => h.block k (by omega)⟩
theorem But.cell {r : Nat} {w w' : World} (h : But r w w') {p : Addr} (hp : p.block ≠ r) : w'.cell? p = w.cell? p := World.cell?_of_block (w := w) (h.block p.block hp)
theorem But.frozen {r : Nat} {w w' : World} (h : But r w w') {p : Addr} (hp : p.block ≠ r) : w'.frozen? p = w.frozen? p := World.frozen?_of_block (w := w) (h.block p.block hp)
theorem But.of_set (w : World) (r : Nat) (o : Obj) : But r w { w with heap := w.heap.setIfInBounds r o } :=
  ⟨rfl, rfl, rfl, by simp, fun k hk => by simp [Ne.symm hk]⟩

theorem lookI_lt {x : α} {L : List (α × β)} {q : Nat × β} (h : lookI x L 0 = some q) : q.1 < L.length := by
  obtain ⟨j, v⟩ := q
  have := (lookI_some h).2.1
  simpa using this

theorem MapIs.update {w : World} {r : Nat} {L : List (α × β)} (h : MapIs w r ke ve L) (kk : KeyOk P K ke) {t e : TypeId} (ht : P.underlying t = some (.map K e)) (x : α) (v : β) :
    ∃ w', (Instr.mapUpdate t (.map (some r)) (ke x) (ve v)).run P w = .ok () w' ∧ MapIs w' r ke ve (ins x v L) ∧ But r w w' := by
  obtain ⟨es, clock, hb, he, hbn⟩ := h
  have hf := find_run (w := w) kk he x
  have hlen : es.toList.length = L.length := by simpa using congrArg List.length he
  cases hq : lookI x L 0 with
  | none =>
    rw [hq] at hf
    refine ⟨{ w with heap := w.heap.setIfInBounds r (.map (es.push { key := ke x, val := ve v, born := clock }) (clock + 1)) },
      by simp [Instr.mapUpdate, run_underlying ht, MapKept.run_getObj_map hb, kk.check, hf, run_setObj_map _ hb, Result.andThen], ⟨_, _, (heap_set hb).1, ?_, ?_⟩, But.of_set _ _ _⟩
    · rw [lookI_none hq]; simp [he]
    · obtain ⟨h1, h2⟩ := hbn
      refine ⟨?_, ?_⟩
      · simp only [Array.toList_push, List.map_append, List.map_cons, List.map_nil]
        rw [List.nodup_append]
        refine ⟨h1, by simp, ?_⟩
        intro a ha b hb' 
        simp at hb'; subst hb'
        obtain ⟨e0, he0, rfl⟩ := List.mem_map.1 ha
        exact Nat.ne_of_lt (h2 e0 he0)
      · intro e0 he0
        simp only [Array.toList_push, List.mem_append, List.mem_singleton] at he0
        rcases he0 with he0 | rfl
        · have := h2 e0 he0; omega
        · simp
  | some q =>
    obtain ⟨j, u⟩ := q
    have hlt := lookI_lt hq
    obtain ⟨_, _, ⟨u', hu'⟩, hins⟩ := lookI_some hq
    simp only [Nat.sub_zero] at hu' hins hlt
    rw [hq] at hf
    have hj : ∃ e0, es[j]? = some e0 ∧ e0.key = ke x := by
      have : (es.toList.map (fun e => (e.key, e.val)))[j]? = some (ke x, ve u') := by rw [he, List.getElem?_map, hu']; rfl
      rw [List.getElem?_map] at this
      cases hej : es.toList[j]? with
      | none => rw [hej] at this; simp at this
      | some e0 =>
        rw [hej] at this
        simp at this
        exact ⟨e0, by simpa using hej, this.1⟩
    obtain ⟨e0, hej, hek⟩ := hj
    refine ⟨{ w with heap := w.heap.setIfInBounds r (.map (es.modify j fun e => { e with key := ke x, val := ve v }) clock) },
      by simp [Instr.mapUpdate, run_underlying ht, MapKept.run_getObj_map hb, kk.check, hf, hej, hek, Instr.keyThatStays, kk.same, run_setObj_map _ hb, Result.andThen], ⟨_, _, (heap_set hb).1, ?_, ?_⟩, But.of_set _ _ _⟩
    · rw [hins]
      apply List.ext_getElem?
      intro i
      have hi : (es.toList.map (fun e => (e.key, e.val)))[i]? = (L.map (fun p => (ke p.1, ve p.2)))[i]? := by rw [he]
      simp only [List.getElem?_map, Array.toList_modify, List.getElem?_modify, List.getElem?_set] at hi ⊢
      by_cases hij : j = i
      · subst hij
        simp [hlt, hej]
      · simp [hij] at hi ⊢
        exact hi
    · obtain ⟨h1, h2⟩ := hbn
      have hborn : (es.modify j fun e => { e with key := ke x, val := ve v }).toList.map (·.born) = es.toList.map (·.born) := by
        apply List.ext_getElem?
        intro i
        simp only [List.getElem?_map, Array.toList_modify, List.getElem?_modify]
        split
        · cases es.toList[i]? <;> simp
        · simp
      refine ⟨by rw [hborn]; exact h1, fun e1 he1 => ?_⟩
      have : e1.born ∈ es.toList.map (·.born) := by rw [← hborn]; exact List.mem_map_of_mem he1
      obtain ⟨e2, he2, heq⟩ := List.mem_map.1 this
      rw [← heq]; exact h2 e2 he2

theorem MapIs.len {w : World} {r : Nat} {L : List (α × β)} (h : MapIs w r ke ve L) {t e : TypeId} (ht : P.underlying t = some (.map K e)) (ty : TypeId) :
    (Builtin.len_ #[t] ty #[.map (some r)]).run P w = .ok (.int .i64 L.length) w := by
  obtain ⟨es, clock, hb, he, _⟩ := h
  have hlen : es.size = L.length := by simpa using congrArg List.length he
  simp [Builtin.len_, run_underlying ht, MapKept.run_getObj_map hb, Result.andThen, goInt, hlen]
end

/-- a lookup with ok, at the operation -/
theorem wpList_lookup_is {α β : Type} [DecidableEq α] {ke : α → Value} {ve : β → Value} {P : Program} {K : TypeId} (kk : KeyOk P K ke) {w : World} {ops : Array Oper} {rest : List Oper} {o : Oper} {a : Act} {Q : Exit → Act → World → Prop}
    {m x : Operand} {t e : TypeId} (ht : P.underlying t = some (.map K e)) (z : Value) (hz : ∀ w, (zeroValue e).run P w = .ok z w) {r : Nat} {L : List (α × β)} (hM : MapIs w r ke ve L) (y : α) (V : Value) (hV : ((look y L).map ve).getD z = V) {bs : Bool} (hs : Hid ((look y L).isSome = bs))
    (hg : o.guard = none) (hop : o.op = Op.lookup t m x true) (hm : a.eval m = .map (some r)) (hx : a.eval x = ke y)
    (hK : wpList P ops Q rest (a.put o.dst (.tuple #[V, .bool bs])) w) :
    wpList P ops Q (o :: rest) a w := by
  refine wpList_plain hg fun K' hK' => ?_
  have hrun := hM.lookup_ok kk ht (hz w) y
  rw [hV, hs.out] at hrun
  unfold Oper.wp
  simp [execOp, hop, hm, hx, hrun, Result.andThen]
  exact hK' _ _ hK
abbrev eU : Unit → Value := fun _ => .agg #[]
theorem look_unit {α : Type} [DecidableEq α] (y : α) (L : List (α × Unit)) : ((look y L).map eU).getD (.agg #[]) = .agg #[] := by cases look y L <;> rfl
theorem wpList_mapUpdate_is {α β : Type} [DecidableEq α] {ke : α → Value} {ve : β → Value} {P : Program} {K : TypeId} (kk : KeyOk P K ke) {w : World} {ops : Array Oper} {rest : List Oper} {o : Oper} {a : Act} {Q : Exit → Act → World → Prop}
    {m x v : Operand} {t e : TypeId} (ht : P.underlying t = some (.map K e)) {r : Nat} {L : List (α × β)} (hM : MapIs w r ke ve L) (y : α) (u : β)
    (hg : o.guard = none) (hop : o.op = Op.mapUpdate t m x v) (hm : a.eval m = .map (some r)) (hx : a.eval x = ke y) (hv : a.eval v = ve u)
    (hK : ∀ w', MapIs w' r ke ve (ins y u L) → But r w w' → wpList P ops Q rest (a.put o.dst undef) w') :
    wpList P ops Q (o :: rest) a w := by
  refine wpList_plain hg fun K' hK' => ?_
  obtain ⟨w', hrun, r1, r2⟩ := hM.update kk ht y u
  unfold Oper.wp
  simp [execOp, hop, hm, hx, hv, hrun, Result.andThen]
  exact hK' _ _ (hK w' r1 r2)

/-! ### the two key types -/
abbrev pidV (p : Pid) : Value := .agg #[.int .u16 p.1, .int .u32 p.2]
theorem equal_pid (a b c d : Int) (w : World) : (Op.equal 30 (.agg #[.int .u16 a, .int .u32 b]) (.agg #[.int .u16 c, .int .u32 d])).run Try.prog w = .ok (decide ((a, b) = (c, d))) w := by
  have hS : Try.prog.underlying 30 = some (.struct (Try.prog.fieldsOf 30)) := by kernel_rfl
  have hp : Try.prog.stoodInHeld 30 = false := by kernel_rfl
  unfold Op.equal Op.maxDepth
  rw [show (10000 : Nat) = 9999 + 1 from rfl, run_equalIn_agg w 9999 30 _ _ hS hp]
  simp only [Program.fieldsOf, Try.underlying30]
  go_simp
  by_cases h1 : a = c <;> by_cases h2 : b = d <;> simp [h1, h2]
theorem keyPid : KeyOk Try.prog 30 pidV where
  find := by
    intro x L es w h
    cases es with
    | nil =>
      cases L with
      | nil => simp [findKey, run_underlying Try.underlying30, Result.andThen, findNow, lookI]
      | cons _ _ => simp at h
    | cons e es =>
      have hn : ∀ d, findNow (.struct d) (pidV x) (e :: es) 0 = none := by intro d; simp [findNow, sameNow]
      simp only [findKey, Sem.run_bind, run_underlying Try.underlying30, Result.andThen, hn]
      generalize e :: es = es' at h
      have : ∀ (es : List MapEntry) (L : List (Pid × Value)) (i : Nat), es.map (fun e => (e.key, e.val)) = L.map (fun p => (pidV p.1, p.2)) → (findAsking 30 (pidV x) es i).run Try.prog w = .ok (lookI x L i) w := by
        intro es
        induction es with
        | nil => intro L i h; cases L with | nil => simp [findAsking, lookI] | cons _ _ => simp at h
        | cons e es ih =>
          intro L i h
          cases L with
          | nil => simp at h
          | cons p L =>
            simp only [List.map_cons, List.cons.injEq, Prod.mk.injEq] at h
            obtain ⟨⟨h1, h2⟩, h3⟩ := h
            have he := equal_pid x.1 x.2 p.1.1 p.1.2 w
            simp only [findAsking, h1, Sem.run_bind, he, Result.andThen, lookI]
            by_cases hx : x = p.1
            · simp [hx, h2]
            · simp [hx, ih L (i + 1) h3]
      exact this es' L 0 h
  check := by
    intro b x w
    kernel_rfl
  same := by intro x; simp [sameBits]
theorem zero106 (w : World) : (zeroValue 106).run Try.prog w = .ok (.agg #[]) w := by kernel_rfl
end Go.Proofs.Ytidohmpnefcpcaa

namespace Go.Proofs.Ytidohmpnefcpcaa
open Go.RowKit

def mayB (p : Pid) : Bool := decide (p.1 < 16) && (p.2 != 0)
theorem may_any (x y : Int) (w : World) : Calls Try.prog 49 #[.agg #[.int .u16 x, .int .u32 y]] w fun e w' => e = .returned (.bool (mayB (x, y))) ∧ Below w.heap.size w w' := by
  have hB : Below w.heap.size w (w.alloc (.cells #[.int .u16 x, .int .u32 y] 30)) := (Below.refl _ _).alloc (Nat.le_refl _) _
  by_cases h1 : x < 16
  · have h1' : decide (x < 16) = true := by simpa using h1
    go_enter Try.func49, Try.ntmps49
    go_wp2
    go_ret
    exact ⟨ret_bool (by simp [mayB, h1]), hB⟩
  · have h1' : decide (x < 16) = false := by simpa using h1
    go_enter Try.func49, Try.ntmps49
    go_wp2
    go_ret
    exact ⟨ret_bool (by unfold mayB; rw [show decide ((x, y).1 < 16) = false from h1']; rfl), hB⟩

theorem may_is {x y : Int} {w : World} {bm : Bool} (h : Hid (mayB (x, y) = bm)) : Calls Try.prog 49 #[.agg #[.int .u16 x, .int .u32 y]] w fun e w' => e = .returned (.bool bm) ∧ Below w.heap.size w w' := by
  have := may_any x y w
  rw [h.out] at this
  exact this

end Go.Proofs.Ytidohmpnefcpcaa

namespace Go.Proofs.Ytidohmpnefcpcaa
open Go.RowKit

/-- the set behind a pointer: its box at block s holds the map in block r -/
structure SetIs (w : World) (s r : Nat) (L : List (Pid × Unit)) : Prop where
  box : w.cell? ⟨s, 0, none⟩ = some (.map (some r))
  map : MapIs w r pidV eU L
theorem SetIs.lt {w : World} {s r : Nat} {L : List (Pid × Unit)} (h : SetIs w s r L) : s < w.heap.size := World.block_lt_of_cell? w _ h.box
theorem SetIs.ext {w w' : World} {s r : Nat} {L : List (Pid × Unit)} (h : SetIs w s r L) (hb : Below w.heap.size w w') : SetIs w' s r L :=
  ⟨by rw [hb.cell (by exact h.lt)]; exact h.box, h.map.ext hb⟩
theorem SetIs.alloc {w : World} {s r : Nat} {L : List (Pid × Unit)} (h : SetIs w s r L) (o : Obj) : SetIs (w.alloc o) s r L := h.ext ((Below.refl _ _).alloc (Nat.le_refl _) _)
theorem SetIs.drew {w : World} {s r : Nat} {L : List (Pid × Unit)} (h : SetIs w s r L) : SetIs w.drew s r L := h.ext (Below.refl _ _).drew

/-- w' is w, grown, but for the blocks of F -/
structure Mut (F : Nat → Prop) (w w' : World) : Prop where
  os : w'.os = w.os
  tape : w'.tape = w.tape
  output : w'.output = w.output
  size : w.heap.size ≤ w'.heap.size
  block : ∀ k, k < w.heap.size → ¬ F k → w'.heap[k]? = w.heap[k]?
theorem Mut.refl (F : Nat → Prop) (w : World) : Mut F w w := ⟨rfl, rfl, rfl, Nat.le_refl _, fun _ _ _ => rfl⟩
theorem Mut.trans {F : Nat → Prop} {a b c : World} (h : Mut F a b) (k : Mut F b c) : Mut F a c :=
  ⟨k.os.trans h.os, k.tape.trans h.tape, k.output.trans h.output, Nat.le_trans h.size k.size, fun i hi hf => (k.block i (Nat.lt_of_lt_of_le hi h.size) hf).trans (h.block i hi hf)⟩
theorem Mut.of_below {F : Nat → Prop} {w w' : World} (h : Below w.heap.size w w') : Mut F w w' := ⟨h.os, h.tape, h.output, h.size, fun k hk _ => h.block k hk⟩
theorem Mut.of_but {F : Nat → Prop} {r : Nat} {w w' : World} (h : But r w w') (hr : F r) : Mut F w w' :=
  ⟨h.os, h.tape, h.output, by rw [h.size]; exact Nat.le_refl _, fun k _ hf => h.block k (fun e => hf (e ▸ hr))⟩
theorem Mut.mono {F G : Nat → Prop} {w w' : World} (h : Mut F w w') (hFG : ∀ k, k < w.heap.size → F k → G k) : Mut G w w' :=
  ⟨h.os, h.tape, h.output, h.size, fun k hk hg => h.block k hk (fun hf => hg (hFG k hk hf))⟩
theorem Mut.below {F : Nat → Prop} {w w' : World} (h : Mut F w w') {B : Nat} (hB : B ≤ w.heap.size) (hF : ∀ k, F k → B ≤ k) : Below B w w' :=
  ⟨h.os, h.tape, h.output, h.size, fun k hk => h.block k (by omega) (fun hf => by have := hF k hf; omega)⟩
theorem Mut.cell {F : Nat → Prop} {w w' : World} (h : Mut F w w') {p : Addr} (hp : p.block < w.heap.size) (hf : ¬ F p.block) : w'.cell? p = w.cell? p := World.cell?_of_block (w := w) (h.block p.block hp hf)

/-- a process into a set -/
def add1 (p : Pid) (L : List (Pid × Unit)) : List (Pid × Unit) := if (look p L).isSome = true then L else ins p () L

/-- what a set holds after Union -/
def unionL : List (Pid × Unit) → List Pid → List (Pid × Unit)
  | L, [] => L
  | L, p :: l => unionL (add1 p L) l
theorem unionL_drop {L : List (Pid × Unit)} {xs : List Pid} {k : Nat} (h : k < xs.length) {x y : Int} (hx : (x, y) = xs[k]) : unionL L (xs.drop k) = unionL (add1 (x, y) L) (xs.drop (k + 1)) := by
  rw [List.drop_eq_getElem_cons h, ← hx]; rfl
theorem PidRow.mut {F : Nat → Prop} {w w' : World} {a : Option Addr} {xs : List Pid} (h : PidRow w a xs) (hm : Mut F w w') (hF : ∀ b off, a = some ⟨b, off, none⟩ → 0 < xs.length → ¬ F b) : PidRow w' a xs := by
  rcases h with rfl | ⟨b, off, rfl, hlt, hc⟩
  · exact .inl rfl
  · by_cases h0 : 0 < xs.length
    · refine .inr ⟨b, off, rfl, by have := hm.size; omega, fun i hi => ?_⟩
      have := hF b off rfl h0
      rw [hm.cell (by exact hlt) (by exact this), hm.cell (by exact hlt) (by exact this)]
      exact hc i hi
    · exact .inl (List.length_eq_zero_iff.1 (by omega))
/-- a row of cells is no map -/
theorem PidRow.ne_map {w : World} {a : Option Addr} {xs : List Pid} (h : PidRow w a xs) {r : Nat} {es : Array MapEntry} {cl : Nat} (hr : w.heap[r]? = some (.map es cl)) {b off : Nat} (ha : a = some ⟨b, off, none⟩) (h0 : 0 < xs.length) : b ≠ r := by
  obtain ⟨b', off', rfl, _, hc⟩ := h.get h0
  cases ha
  intro e
  subst e
  have := (hc 0 h0).1
  simp [World.cell?, hr] at this
end Go.Proofs.Ytidohmpnefcpcaa

namespace Go.Proofs.Ytidohmpnefcpcaa
open Go.RowKit

theorem info36 : (Try.prog.info? 30).map (fun i => (i.zero, i.size, i.bytes)) = some (some (.agg #[.int .u16 0, .int .u32 0]), 2, 8) := by kernel_rfl

def pidCells (xs : List Pid) : List Value := xs.flatMap fun p => [.int .u16 p.1, .int .u32 p.2]
theorem pidCells_length : ∀ (xs : List Pid), (pidCells xs).length = xs.length * 2
  | [] => rfl
  | p :: l => by
    have := pidCells_length l
    unfold pidCells at this ⊢
    simp only [List.flatMap_cons, List.length_append, List.length_cons, List.length_nil, this]
    omega
theorem pidCells_append (xs ys : List Pid) : pidCells (xs ++ ys) = pidCells xs ++ pidCells ys := by simp [pidCells]
theorem pidCells_get : ∀ (xs : List Pid) (i : Nat) (h : i < xs.length), (pidCells xs)[i * 2]? = some (.int .u16 xs[i].1) ∧ (pidCells xs)[i * 2 + 1]? = some (.int .u32 xs[i].2)
  | p :: l, 0, _ => by simp [pidCells]
  | p :: l, i + 1, h => by
    have := pidCells_get l i (by simpa using h)
    have e : pidCells (p :: l) = [.int .u16 p.1, .int .u32 p.2] ++ pidCells l := by simp [pidCells]
    rw [e, show (i + 1) * 2 = i * 2 + 2 by omega]
    constructor
    · rw [List.getElem?_append_right (by simp)]
      simpa using this.1
    · rw [List.getElem?_append_right (by simp)]
      simpa using this.2
theorem pidCells_one (xs : List Pid) : ∀ u ∈ pidCells xs, u.oneCell' = true := by
  intro u hu
  obtain ⟨p, _, hp⟩ := List.mem_flatMap.1 hu
  simp at hp
  rcases hp with rfl | rfl <;> rfl
theorem addr_add (b off n : Nat) : (⟨b, off, none⟩ : Addr).add n = ⟨b, off + n, none⟩ := by
  unfold Addr.add; split <;> simp_all
/-- the cells of a row, one by one -/
theorem PidRow.cells {w : World} {b off : Nat} {xs : List Pid} (hc : ∀ i (h : i < xs.length), w.cell? ⟨b, off + i * 2, none⟩ = some (.int .u16 xs[i].1) ∧ w.cell? ⟨b, off + i * 2 + 1, none⟩ = some (.int .u32 xs[i].2)) :
    ∀ j u, (pidCells xs)[j]? = some u → w.cell? ((⟨b, off, none⟩ : Addr).add j) = some u := by
  intro j u hu
  have hj : j < (pidCells xs).length := (List.getElem?_eq_some_iff.1 hu).1
  rw [pidCells_length] at hj
  rw [addr_add]
  have hi : j / 2 < xs.length := by omega
  obtain ⟨h1, h2⟩ := hc (j / 2) hi
  obtain ⟨g1, g2⟩ := pidCells_get xs (j / 2) hi
  rcases Nat.mod_two_eq_zero_or_one j with hm | hm
  · have e : j / 2 * 2 = j := by omega
    rw [e] at h1 g1
    rw [h1, ← g1, hu]
  · have e : j / 2 * 2 + 1 = j := by omega
    rw [e] at g2
    rw [show off + j = off + j / 2 * 2 + 1 by omega, h2, ← g2, hu]

/-- a slice value that owns a row of processes, from block base on -/
def OwnP (w : World) (base : Nat) (v : Value) (xs : List Pid) : Prop := w.ownsRow base 30 2 v xs.length (pidCells xs)
theorem OwnP.nil (w : World) (base : Nat) : OwnP w base (.slice none 0 0) [] := World.ownsRow_nil _ _ _ _
theorem OwnP.row {w : World} {base : Nat} {v : Value} {xs : List Pid} (h : OwnP w base v xs) : ∃ a c, v = .slice a xs.length c ∧ PidRow w a xs ∧ ∀ b off, a = some ⟨b, off, none⟩ → base ≤ b := by
  have hcells := fun g => World.ownsRow.cells (g := g) h
  rcases h.2 with ⟨rfl, hn⟩ | ⟨g, cap, cur, rfl, hb, hg, hnc, hcm, hcs, htake⟩
  · exact ⟨none, 0, by rw [hn], .inl (List.length_eq_zero_iff.1 hn), by simp⟩
  · refine ⟨_, cap, rfl, .inr ⟨g, 0, rfl, (Array.getElem?_eq_some_iff.1 hg).1, fun i hi => ?_⟩, fun b off e => by cases e; exact hb⟩
    obtain ⟨g1, g2⟩ := pidCells_get xs i hi
    have h1 := hcells g rfl _ _ g1
    have h2 := hcells g rfl _ _ g2
    rw [addr_add] at h1 h2
    exact ⟨h1, h2⟩
theorem OwnP.ext {w w' : World} {base : Nat} {v : Value} {xs : List Pid} (h : OwnP w base v xs) (hb : Below w.heap.size w w') : OwnP w' base v xs := by
  refine ⟨h.1, ?_⟩
  rcases h.2 with hn | ⟨g, cap, cur, rfl, hbb, hgg, rest⟩
  · exact .inl hn
  · exact .inr ⟨g, cap, cur, rfl, hbb, (hb.block g (Array.getElem?_eq_some_iff.1 hgg).1).trans hgg, rest⟩

theorem run_appendP {w : World} {base : Nat} {v : Value} {xs ys : List Pid} (hown : OwnP w base v xs) {a : Option Addr} {c : Nat} (hy : PidRow w a ys) (hlen : xs.length + ys.length ≤ 1099511627776) (hbase : base ≤ w.heap.size) (ty : TypeId) :
    ∃ v' w', (Builtin.append_ #[60, 60] ty #[v, .slice a ys.length c]).run Try.prog w = .ok v' w' ∧ OwnP w' base v' (xs ++ ys) ∧ w.grownBy w' v.ownBlock ∧ (v' = .slice none 0 0 ↔ v = .slice none 0 0 ∧ ys = []) := by
  obtain ⟨i0, hi, hz0, hz1, hz2⟩ := info_parts info36
  rcases hy with rfl | ⟨b, off, rfl, hlt, hc⟩
  · refine ⟨v, w, ?_, by simpa using hown, ⟨rfl, rfl, rfl, Nat.le_refl _, fun _ _ _ => rfl⟩, by simp⟩
    rcases hown.2 with ⟨rfl, hn⟩ | ⟨g, cap, cur, rfl, hb, hg, hnc, hcm, hcs, htake⟩
    · cases a <;> simp [Builtin.append_, run_underlying Try.underlying60, sizeOf, typeInfo, hi, Builtin.lenOf, Builtin.firstCells, loadCells, loadCellsFrom]
    · cases a <;> simp [Builtin.append_, run_underlying Try.underlying60, sizeOf, typeInfo, hi, Builtin.lenOf, Builtin.firstCells, loadCells, loadCellsFrom, hnc, storeCells]
  · obtain ⟨v', w', hr, h2, h3, h4⟩ := run_append_own (P := Try.prog) w base 60 ty 30 i0 _ 2 8 Try.underlying60 hi hz0 hz1 hz2 rfl (by decide) v xs.length (pidCells xs) hown ⟨b, off, none⟩ ys.length c (pidCells ys) (pidCells_length ys) (PidRow.cells hc) (pidCells_one ys) (by unfold maxLen; omega) (by omega) hbase
    refine ⟨v', w', hr, ?_, h3, ?_⟩
    · unfold OwnP; rw [List.length_append, pidCells_append]; exact h2
    · rw [h4, List.length_eq_zero_iff]

/-- 'append(out, ys...)' at the operation -/
theorem wpList_appendP {w : World} {ops : Array Oper} {rest : List Oper} {o : Oper} {a : Act} {Q : Exit → Act → World → Prop} {s x : Operand} {base : Nat} {v : Value} {xs ys : List Pid} (hown : OwnP w base v xs) {ad : Option Addr} {c : Nat} (hy : PidRow w ad ys)
    (hlen : xs.length + ys.length ≤ 1099511627776) (hbase : base ≤ w.heap.size)
    (hg : o.guard = none) (ho : o.op = .call { callee := .builtin .append, args := #[s, x], argTypes := #[60, 60] }) (hs : a.eval s = v) (hx : a.eval x = .slice ad ys.length c)
    (h : ∀ v' w', OwnP w' base v' (xs ++ ys) → w.grownBy w' v.ownBlock → (v' = .slice none 0 0 ↔ v = .slice none 0 0 ∧ ys = []) → wpList Try.prog ops Q rest (a.put o.dst v') w') : wpList Try.prog ops Q (o :: rest) a w := by
  obtain ⟨v', w', hr, h2, h3, h4⟩ := run_appendP hown (c := c) hy hlen hbase o.type
  exact Lib.wpList_append_run w hg s x 60 60 ho _ _ hs hx v' w' hr (h v' w' h2 h3 h4)

end Go.Proofs.Ytidohmpnefcpcaa

namespace Go.Proofs.Ytidohmpnefcpcaa
open Go.RowKit

theorem PidRow.one (w : World) (x y : Int) : PidRow (w.alloc (.cells #[.int .u16 x, .int .u32 y] 30)) (some ⟨w.heap.size, 0, none⟩) [(x, y)] :=
  .inr ⟨_, 0, rfl, by simp, fun i hi => by
    have : i = 0 := by simpa using hi
    subst this
    exact ⟨by simp, by simp⟩⟩
theorem PidRow.drew {w : World} {a : Option Addr} {xs : List Pid} (h : PidRow w a xs) : PidRow w.drew a xs := h.ext (Below.refl _ _).drew

/-- a view in a box of its own -/
structure ViewBox (w : World) (b : Nat) (V : View) (am al ad : Option Addr) (cm cl cd : Nat) : Prop where
  c0 : w.cell? ⟨b, 0, none⟩ = some (.int .u64 V.id)
  c1 : w.cell? ⟨b, 1, none⟩ = some (.slice am V.ms.length cm)
  c2 : w.cell? ⟨b, 2, none⟩ = some (.slice al V.ls.length cl)
  c3 : w.cell? ⟨b, 3, none⟩ = some (.slice ad V.ds.length cd)
section
variable {w w' : World} {b : Nat} {V : View} {am al ad : Option Addr} {cm cl cd : Nat}
theorem ViewBox.lt (h : ViewBox w b V am al ad cm cl cd) : b < w.heap.size := World.block_lt_of_cell? w _ h.c0
theorem ViewBox.ext (h : ViewBox w b V am al ad cm cl cd) {B : Nat} (hb : Below B w w') (hB : b < B) : ViewBox w' b V am al ad cm cl cd :=
  ⟨by rw [hb.cell (by exact hB)]; exact h.c0, by rw [hb.cell (by exact hB)]; exact h.c1, by rw [hb.cell (by exact hB)]; exact h.c2, by rw [hb.cell (by exact hB)]; exact h.c3⟩
end
theorem ViewR.of (w : World) {am al ad : Option Addr} {V : View} (h : ViewR w am al ad V) (o : Obj) : ViewR (w.alloc o) am al ad V := h.ext ((Below.refl _ _).alloc (Nat.le_refl _) _)

end Go.Proofs.Ytidohmpnefcpcaa

namespace Go.Proofs.Ytidohmpnefcpcaa
open Go.RowKit

/-- w, grown -/
structure ExtW (w : World) where
  W : World
  h : Below w.heap.size w W
instance extW_some (w : World) : Nonempty (ExtW w) := ⟨⟨w, Below.refl _ _⟩⟩
theorem wp_region_ext {P : Program} {w wr : World} {id : Nat} {Q : Exit → Act → World → Prop} {a : Act} {l : List Oper} (hb : Below w.heap.size w wr) (hm : P.follows .mixedOrders = true) (hB : Region.lexB .any l.toArray = true)
    (h : wpQuiet P l.toArray (fun w' => ∃ U : ExtW w, w' = U.W) (fun a' => ∀ w', (∃ U : ExtW w, w' = U.W) → Q .normal a' w') l a) : (Code.region id l.toArray true).wp P Q a wr :=
  wp_region_quiet (C := fun w' => ∃ U : ExtW w, w' = U.W) hm hB ⟨⟨wr.drew, hb.drew⟩, rfl⟩ (by simpa using h)
def mayR (p : Pid) : Bool := decide (p.1 < 16) && decide (0 < p.2)
theorem mayR_any (x y : Int) (w : World) : Calls Try.prog 28 #[.agg #[.int .u16 x, .int .u32 y]] w fun e w' => e = .returned (.bool (mayR (x, y))) ∧ Below w.heap.size w w' := by
  have hB : Below w.heap.size w (w.alloc (.cells #[.int .u16 x, .int .u32 y] 30)) := (Below.refl _ _).alloc (Nat.le_refl _) _
  by_cases h1 : x < 16
  · have h1' : decide (x < 16) = true := by simpa using h1
    go_enter Try.func28, Try.ntmps28
    go_wp2
    go_ret
    exact ⟨ret_bool (by simp [mayR, h1]), hB⟩
  · have h1' : decide (x < 16) = false := by simpa using h1
    go_enter Try.func28, Try.ntmps28
    go_wp2
    go_ret
    exact ⟨ret_bool (by unfold mayR; rw [show decide ((x, y).1 < 16) = false from h1']; rfl), hB⟩
theorem mayR_is {x y : Int} {w : World} {bm : Bool} (h : Hid (mayR (x, y) = bm)) : Calls Try.prog 28 #[.agg #[.int .u16 x, .int .u32 y]] w fun e w' => e = .returned (.bool bm) ∧ Below w.heap.size w w' := by
  have := mayR_any x y w
  rw [h.out] at this
  exact this

/-- cells of a row, in every later world -/
theorem PidRow.all {w : World} {b off : Nat} {xs : List Pid} (hrow : PidRow w (some ⟨b, off, none⟩) xs) {k : Nat} (hlt : k < xs.length) {x y : Int} (hx : (x, y) = xs[k]) :
    (∀ W, Below w.heap.size w W → W.cell? ⟨b, off + k * 2, none⟩ = some (.int .u16 x)) ∧ (∀ W, Below w.heap.size w W → W.cell? ⟨b, off + k * 2 + 1, none⟩ = some (.int .u32 y)) := by
  constructor <;> intro W h <;> obtain ⟨b', off', x', y', e, hx', h1, h2⟩ := hrow.at h rfl hlt <;> cases e <;> rw [← hx] at hx' <;> cases hx' <;> assumption

end Go.Proofs.Ytidohmpnefcpcaa

namespace Go.Proofs.Ytidohmpnefcpcaa
open Go.RowKit
/-! ### the forms, and the readers, in plain words -/
/-- what is left to read, and what stopped it -/
structure RS where
  b : List Nat
  e : Nat
/-! ### what was laid is read as it was -/
end Go.Proofs.Ytidohmpnefcpcaa

namespace Go.Proofs.Ytidohmpnefcpcaa
open Go.RowKit
theorem ByteRow.nilA {w : World} {bs : List Nat} (h : ByteRow w none bs) : bs = [] := by
  rcases h with h | ⟨b, off, h, _⟩
  · exact h
  · cases h
set_option maxRecDepth 100000 in
set_option maxHeartbeats 800000 in
theorem cloneB_any {a : Option Addr} {c n : Nat} {bs : List Nat} {w : World} (hn : Hid (bs.length = n)) (hl : n ≤ 549755813888) (hrow : ByteRow w a bs) :
   Calls Try.prog 51 #[.slice a n c] w fun e w' => ∃ v, e = .returned v ∧ OwnB w' w.heap.size v bs ∧ Below w.heap.size w w' := by
  cases a with
  | none =>
    have hx := hrow.nilA
    subst hx
    have hn0 : n = 0 := hn.out.symm
    subst hn0
    have hnil : ∀ W, (binOp .eql 32 (.slice none 0 c) (.slice none 0 0)).run Try.prog W = .ok (.bool true) W := fun W => Lib.run_eql_slice_nil W 32 5 none 0 c 0 0 Try.underlying32
    go_enter Try.func51, Try.ntmps51
    go_wp2
    go_ret
    exact ⟨_, rfl, OwnB.nil _ _, Below.refl _ _⟩
  | some a =>
    have hnil : ∀ W, (binOp .eql 32 (.slice (some a) n c) (.slice none 0 0)).run Try.prog W = .ok (.bool false) W := fun W => Lib.run_eql_slice_nil W 32 5 (some a) n c 0 0 Try.underlying32
    have hown : OwnB (w.alloc (.cells #[] 5)) w.heap.size (.slice (some ⟨w.heap.size, 0, none⟩) 0 0) [] := World.ownsRow_made (w := w) #[] 0 (Nat.le_refl _) (by unfold maxLen; omega) (by simp)
    have hB : Below w.heap.size w (w.alloc (.cells #[] 5)) := (Below.refl _ _).alloc (Nat.le_refl _) _
    have hr1 := hrow.ext hB
    go_enter Try.func51, Try.ntmps51
    go_wp2_with (at_builtin; refine wpList_appendB hown hr1 hn ?cb ?cz rfl rfl rfl rfl ?_; rotate_right; intro v4 w4 hown4 hg4 hat4)
    case cb => simp; omega
    case cz => simp
    go_ret
    exact ⟨v4, rfl, by simpa using hown4, below_of_grown hB hg4 hown hB.size (Nat.le_refl _)⟩
theorem OwnB.cap {w : World} {base : Nat} {v : Value} {bs : List Nat} (h : OwnB w base v bs) : ∀ a n c, v = .slice a n c → bs.length ≤ c := by
  intro a n c e
  rcases h.2 with ⟨rfl, hn⟩ | ⟨g, cap, cur, rfl, hb, hg, hnc, _⟩
  · cases e; omega
  · cases e; exact hnc
/-- the writer behind a pointer -/
structure WrIs (w : World) (s : Nat) (v : Value) (bs : List Nat) : Prop where
  c : w.cell? ⟨s, 0, none⟩ = some v
  f : w.frozen? ⟨s, 0, none⟩ = false
  own : OwnB w (s + 1) v bs
theorem WrIs.lt {w : World} {s : Nat} {v : Value} {bs : List Nat} (h : WrIs w s v bs) : s < w.heap.size := World.block_lt_of_cell? w _ h.c
theorem WrIs.ext {w w' : World} {s : Nat} {v : Value} {bs : List Nat} (h : WrIs w s v bs) (hb : Below w.heap.size w w') : WrIs w' s v bs :=
  ⟨cell_toB h.c hb, (hb.frozen (by exact h.lt)).trans h.f, h.own.ext hb⟩
theorem WrIs.alloc {w : World} {s : Nat} {v : Value} {bs : List Nat} (h : WrIs w s v bs) (o : Obj) : WrIs (w.alloc o) s v bs := h.ext ((Below.refl _ _).alloc (Nat.le_refl _) _)
theorem WrIs.made (w : World) (t : TypeId) : WrIs (w.alloc (.cells #[.slice none 0 0] t)) w.heap.size (.slice none 0 0) [] := ⟨by simp, by simp, OwnB.nil _ _⟩
/-- what a call of the writer leaves -/
structure Wrote (w w' : World) (s : Nat) (v' : Value) (bs : List Nat) : Prop where
  wr : WrIs w' s v' bs
  own : OwnB w' w.heap.size v' bs
  mt : Mut (fun k => k = s) w w'
theorem ByteRow.mutT {G : Nat → Prop} {w w' : World} {a : Option Addr} {bs : List Nat} (h : ByteRow w a bs) (hm : Mut G w w') (hne : ∀ b off, a = some ⟨b, off, none⟩ → bs ≠ [] → ¬ G b) : ByteRow w' a bs := by
  rcases h with rfl | ⟨b, off, rfl, hlt, hc⟩
  · exact .inl rfl
  · by_cases hl : bs = []
    · exact .inl hl
    · have hb := hm.block b hlt (hne b off rfl hl)
      exact .inr ⟨b, off, rfl, by have := hm.size; omega, fun i hi => (World.cell?_of_block (w := w) hb).trans (hc i hi)⟩
end Go.Proofs.Ytidohmpnefcpcaa

namespace Go.Proofs.Ytidohmpnefcpcaa
open Go.RowKit
theorem PidRow.mutT {G : Nat → Prop} {w w' : World} {a : Option Addr} {l : List Pid} (h : PidRow w a l) (hm : Mut G w w') (hne : ∀ b off, a = some ⟨b, off, none⟩ → l ≠ [] → ¬ G b) : PidRow w' a l := by
  rcases h with rfl | ⟨b, off, rfl, hlt, hc⟩
  · exact .inl rfl
  · by_cases hl : l = []
    · exact .inl hl
    · have hb := hm.block b hlt (hne b off rfl hl)
      exact .inr ⟨b, off, rfl, by have := hm.size; omega, fun i hi => ⟨(World.cell?_of_block (w := w) hb).trans (hc i hi).1, (World.cell?_of_block (w := w) hb).trans (hc i hi).2⟩⟩
theorem Wrote.trans {w w1 w1' w2 : World} {s : Nat} {v1 v2 : Value} {b1 b2 : List Nat} (h : Wrote w w1 s v1 b1) (hb : Below w1.heap.size w1 w1') (h2 : Wrote w1' w2 s v2 b2) : Wrote w w2 s v2 b2 :=
  ⟨h2.wr, h2.own.mono (Nat.le_trans h.mt.size hb.size), (h.mt.trans (Mut.of_below hb)).trans h2.mt⟩
/-! ### the reference's forms -/
end Go.Proofs.Ytidohmpnefcpcaa

namespace Go.Proofs.Ytidohmpnefcpcaa
open Go.RowKit
/-- the reader behind a pointer -/
structure RdIs (w : World) (s : Nat) (a : Option Addr) (c : Nat) (S : RS) : Prop where
  c0 : w.cell? ⟨s, 0, none⟩ = some (.slice a S.b.length c)
  c1 : w.cell? ⟨s, 1, none⟩ = some (.int .i64 S.e)
  f0 : w.frozen? ⟨s, 0, none⟩ = false
  f1 : w.frozen? ⟨s, 1, none⟩ = false
  row : ByteRow w a S.b
  far : ∀ b off, a = some ⟨b, off, none⟩ → S.b ≠ [] → b < s
  cap : S.b.length ≤ c
  byt : ∀ b ∈ S.b, b < 256
  len : S.b.length ≤ 70368744177664
theorem RdIs.lt {w : World} {s c : Nat} {a : Option Addr} {S : RS} (h : RdIs w s a c S) : s < w.heap.size := World.block_lt_of_cell? w _ h.c0
theorem RdIs.ext {w w' : World} {s c : Nat} {a : Option Addr} {S : RS} (h : RdIs w s a c S) (hb : Below w.heap.size w w') : RdIs w' s a c S :=
  ⟨cell_toB h.c0 hb, cell_toB h.c1 hb, (hb.frozen (by exact h.lt)).trans h.f0, (hb.frozen (by exact h.lt)).trans h.f1, h.row.ext hb, h.far, h.cap, h.byt, h.len⟩
theorem RdIs.alloc {w : World} {s c : Nat} {a : Option Addr} {S : RS} (h : RdIs w s a c S) (o : Obj) : RdIs (w.alloc o) s a c S := h.ext ((Below.refl _ _).alloc (Nat.le_refl _) _)
theorem ByteRow.setFar {w : World} {a : Option Addr} {bs : List Nat} {s i : Nat} {v : Value} (h : ByteRow w a bs) (hf : ∀ b off, a = some ⟨b, off, none⟩ → bs ≠ [] → b < s) : ByteRow (w.setCell ⟨s, i, none⟩ v) a bs := by
  rcases h with rfl | ⟨b, off, rfl, hlt, hc⟩
  · exact .inl rfl
  · by_cases hl : bs = []
    · exact .inl hl
    · have hb : b ≠ s := Nat.ne_of_lt (hf b off rfl hl)
      exact .inr ⟨b, off, rfl, by simpa using hlt, fun j hj => by rw [World.cell?_setCell_far _ _ _ _ (by exact fun e => hb e.symm)]; exact hc j hj⟩
/-- other bytes -/
theorem RdIs.put {w : World} {s c c' : Nat} {a a' : Option Addr} {S : RS} {b' : List Nat} (h : RdIs w s a c S) {n : Nat} (hn : n = b'.length) (hrow : ByteRow w a' b') (hfar : ∀ b off, a' = some ⟨b, off, none⟩ → b' ≠ [] → b < s) (hcap : b'.length ≤ c') (hby : ∀ b ∈ b', b < 256) (hlen : b'.length ≤ 70368744177664) : RdIs (w.setCell ⟨s, 0, none⟩ (.slice a' n c')) s a' c' ⟨b', S.e⟩ := by
  subst hn
  exact ⟨World.cell?_setCell_same _ _ _ h.c0, by rw [World.cell?_setCell_other _ _ _ _ (by simp)]; exact h.c1, by simp [h.f0], by simp [h.f1], hrow.setFar hfar, hfar, hcap, hby, hlen⟩
theorem mut1 {w : World} {s i : Nat} {v : Value} : Mut (fun k => k = s) w (w.setCell ⟨s, i, none⟩ v) :=
  ⟨rfl, rfl, rfl, by simp, fun k _ hf => Below.heap_setCell _ _ _ _ (by exact hf)⟩
end Go.Proofs.Ytidohmpnefcpcaa

namespace Go.Proofs.Ytidohmpnefcpcaa
open Go.RowKit
/-! ### a row of one-cell elements that may begin behind its block's beginning: append, cut -/
def RowO (w : World) (base : Nat) (v : Value) (xs : List Value) : Prop :=
  (v = .slice none 0 0 ∧ xs = []) ∨ ∃ g off cap, v = .slice (some ⟨g, off, none⟩) xs.length cap ∧ base ≤ g ∧ g < w.heap.size ∧ xs.length ≤ cap ∧ cap ≤ maxLen ∧
    (∀ k u, xs[k]? = some u → w.cell? ⟨g, off + k, none⟩ = some u) ∧ (∀ k, k < cap → (w.cell? ⟨g, off + k, none⟩).isSome = true ∧ w.frozen? ⟨g, off + k, none⟩ = false)
theorem RowO.nil (w : World) (base : Nat) : RowO w base (.slice none 0 0) [] := .inl ⟨rfl, rfl⟩
theorem RowO.blk {w : World} {base : Nat} {v : Value} {xs : List Value} (h : RowO w base v xs) {g : Nat} (hg : v.ownBlock = some g) : base ≤ g ∧ g < w.heap.size := by
  rcases h with ⟨rfl, -⟩ | ⟨g', off, cap, rfl, h1, h2, -⟩
  · cases hg
  · cases hg; exact ⟨h1, h2⟩
theorem RowO.sli {w : World} {base : Nat} {v : Value} {xs : List Value} (h : RowO w base v xs) : ∃ a c, v = .slice a xs.length c ∧ xs.length ≤ c := by
  rcases h with ⟨rfl, rfl⟩ | ⟨g', off, cap, rfl, h1, h2, h3, -⟩
  · exact ⟨_, _, rfl, Nat.le_refl _⟩
  · exact ⟨_, _, rfl, h3⟩
theorem RowO.mutN {G : Nat → Prop} {w w' : World} {base : Nat} {v : Value} {xs : List Value} (h : RowO w base v xs) (hm : Mut G w w') (hG : ∀ g, v.ownBlock = some g → ¬ G g) : RowO w' base v xs := by
  rcases h with h | ⟨g, off, cap, rfl, h1, h2, h3, h4, h5, h6⟩
  · exact .inl h
  · have hn := hG g rfl
    have e : ∀ o, w'.cell? ⟨g, o, none⟩ = w.cell? ⟨g, o, none⟩ := fun o => hm.cell h2 hn
    have f : ∀ o, w'.frozen? ⟨g, o, none⟩ = w.frozen? ⟨g, o, none⟩ := fun o => World.frozen?_of_block (w := w) (a := ⟨g, o, none⟩) (hm.block g h2 hn)
    exact .inr ⟨g, off, cap, rfl, h1, by have := hm.size; omega, h3, h4, fun k u hk => by rw [e]; exact h5 k u hk, fun k hk => by rw [e, f]; exact h6 k hk⟩
theorem RowO.ext {w w' : World} {base : Nat} {v : Value} {xs : List Value} (h : RowO w base v xs) (hb : Below w.heap.size w w') : RowO w' base v xs :=
  h.mutN (Mut.of_below (F := fun _ => False) hb) fun _ _ e => e
theorem RowO.at {w : World} {base : Nat} {v : Value} {xs : List Value} (h : RowO w base v xs) {k : Nat} {u : Value} (hk : xs[k]? = some u) : ∃ g off cap, v = .slice (some ⟨g, off, none⟩) xs.length cap ∧ w.cell? ⟨g, off + k, none⟩ = some u ∧ g < w.heap.size := by
  rcases h with ⟨rfl, rfl⟩ | ⟨g, off, cap, rfl, h1, h2, h3, h4, h5, h6⟩
  · simp at hk
  · exact ⟨g, off, cap, rfl, h5 k u hk, h2⟩
theorem RowO.of_owns {w : World} {base : Nat} {e : TypeId} {v : Value} {xs : List Value} (h : w.ownsRow base e 1 v xs.length xs) : RowO w base v xs := by
  rcases h.2 with ⟨rfl, hn⟩ | ⟨g, cap, cur, rfl, hb, hg, hnc, hcm, hcs, htake⟩
  · exact .inl ⟨rfl, List.length_eq_zero_iff.1 hn⟩
  · have hlt := (Array.getElem?_eq_some_iff.1 hg).1
    have hc : ∀ k, w.cell? ⟨g, k, none⟩ = cur[k]? := fun k => by simp [World.cell?, hg]
    have hf : ∀ k, w.frozen? ⟨g, k, none⟩ = false := fun k => by simp [World.frozen?, hg]
    refine .inr ⟨g, 0, cap, rfl, hb, hlt, hnc, hcm, fun k u hk => ?_, fun k hk => ?_⟩
    · have hkl : k < xs.length := (List.getElem?_eq_some_iff.1 hk).1
      rw [Nat.zero_add, hc, ← hk, ← htake, List.getElem?_take, if_pos (by omega)]
      simp
    · rw [Nat.zero_add, hc, hf]
      refine ⟨?_, rfl⟩
      rw [Array.getElem?_eq_getElem (by omega)]; rfl
/-- one element more -/
theorem RowO.append {w : World} {base : Nat} {v u : Value} {xs : List Value} (h : RowO w base v xs) {P : Program} (t ty e : TypeId) (i : TypeInfo) (z : Value) (bytes : Nat) (ht : P.underlying t = some (.slice e)) (hi : P.info? e = some i) (hz : i.zero = some z) (hsize : i.size = 1) (hby : i.bytes = bytes) (hzs : z.cells.size = 1)
    {b o c : Nat} (hu : w.cell? ⟨b, o, none⟩ = some u) (h1 : u.oneCell' = true) (hl : xs.length + 1 ≤ 1000000) (hbt : bytes ≤ 1000) (hbase : base ≤ w.heap.size) :
    ∃ v' w', (Builtin.append_ #[t, t] ty #[v, .slice (some ⟨b, o, none⟩) 1 c]).run P w = .ok v' w' ∧ RowO w' base v' (xs ++ [u]) ∧ Mut (fun g => v.ownBlock = some g) w w' ∧ (∀ g, v'.ownBlock = some g → v.ownBlock = some g ∨ w.heap.size ≤ g) := by
  have hby2 : (xs.length + 1) * bytes ≤ 140737488355328 := Nat.le_trans (Nat.mul_le_mul hl hbt) (by decide)
  have hnew : ∀ j x, [u][j]? = some x → w.cell? ((⟨b, o, none⟩ : Addr).add j) = some x := fun j x hx => by
    have hj : j = 0 := by have := (List.getElem?_eq_some_iff.1 hx).1; simpa using this
    subst hj
    simp at hx; subst hx
    rw [Addr.add_lit, Nat.add_zero]; exact hu
  have hone : ∀ x ∈ [u], x.oneCell' = true := fun x hx => by rw [List.mem_singleton.1 hx]; exact h1
  rcases h with ⟨rfl, rfl⟩ | ⟨g, off, cap, rfl, hb, hlt, hnc, hcm, hc, hs⟩
  · obtain ⟨v', w', hr, h2, h3, h4, h5⟩ := run_append_own_at (P := P) w base t ty e i z 1 bytes ht hi hz hsize hby hzs (by decide) (.slice none 0 0) 0 [] (World.ownsRow_nil _ _ _ _) ⟨b, o, none⟩ 1 c [u] rfl hnew hone (by unfold maxLen; omega) (by simpa using hby2) hbase
    refine ⟨v', w', hr, RowO.of_owns (e := e) (by simpa using h2), ?_, fun g hg => ?_⟩
    rotate_left
    · rcases h5 with h5 | h5
      · exact .inl (by rw [← h5]; exact hg)
      · rw [h5] at hg; cases hg; exact .inr (Nat.le_refl _)
    exact ⟨h3.os, h3.tape, h3.output, h3.size, fun k hk hf => h3.block k hk (fun e => by cases e)⟩
  · by_cases hr : xs.length + 1 ≤ cap
    · have hsp := hs xs.length (by omega)
      have hrun := run_append_room_cells (P := P) w t ty e i ht hi g off xs.length cap ⟨b, o, none⟩ 1 c [u] (by rw [hsize]; rfl) hnew hone hr (fun j hj => by
        have : j = 0 := by simpa using hj
        subst this; rw [hsize, Nat.mul_one, Nat.add_zero]; exact hsp.1) (fun j hj => by
        have : j = 0 := by simpa using hj
        subst this; rw [hsize, Nat.mul_one, Nat.add_zero]; exact hsp.2)
      rw [hsize, Nat.mul_one] at hrun
      refine ⟨_, _, hrun, .inr ⟨g, off, cap, by rw [List.length_append]; rfl, hb, ?_, by rw [List.length_append]; exact hr, hcm, fun k x hk => ?_, fun k hk => ?_⟩, ?_, fun _ hg => .inl hg⟩
      · show g < (w.setCell ⟨g, off + xs.length, none⟩ u).heap.size
        simp; omega
      · show (w.setCell ⟨g, off + xs.length, none⟩ u).cell? _ = _
        by_cases hkx : k < xs.length
        · rw [List.getElem?_append_left hkx] at hk
          rw [World.cell?_setCell_other _ _ _ _ (by intro e; injection e with _ e2; omega)]
          exact hc k x hk
        · have hk2 : k = xs.length := by
            have := (List.getElem?_eq_some_iff.1 hk).1
            simp at this; omega
          subst hk2
          rw [List.getElem?_append_right (Nat.le_refl _), Nat.sub_self] at hk
          simp at hk; subst hk
          exact World.cell?_setCell_same' _ _ _ hsp.1
      · show ((w.setCell ⟨g, off + xs.length, none⟩ u).cell? ⟨g, off + k, none⟩).isSome = true ∧ (w.setCell ⟨g, off + xs.length, none⟩ u).frozen? ⟨g, off + k, none⟩ = false
        refine ⟨?_, by rw [World.frozen?_setCell]; exact (hs k hk).2⟩
        by_cases hkx : k = xs.length
        · subst hkx
          rw [World.cell?_setCell_same' _ _ _ hsp.1]; rfl
        · rw [World.cell?_setCell_other _ _ _ _ (by intro e; injection e with _ e2; omega)]
          exact (hs k hk).1
      · exact (mut1 (w := w) (s := g) (i := off + xs.length) (v := u)).mono fun k _ e => by have e : k = g := e; rw [e]; rfl
    · obtain ⟨v', w', hrun, r1, r2⟩ := run_append_arg_grows (P := P) w t ty e i z 1 bytes ht hi hz hsize hby hzs (by decide) ⟨g, off, none⟩ xs.length cap xs (by rw [Nat.mul_one]) (fun j x hx => by rw [Addr.add_lit]; exact hc j x hx) ⟨b, o, none⟩ 1 c [u] rfl hnew (by omega) (by unfold maxLen; omega) hby2
      have r1' : w'.ownsRow w.heap.size e 1 v' (xs ++ [u]).length (xs ++ [u]) := by rw [List.length_append]; exact r1
      have hro := RowO.of_owns r1'
      refine ⟨v', w', hrun, ?_, ⟨r2.os, r2.tape, r2.output, r2.size, fun k hk hf => r2.block k hk (fun e => by cases e)⟩, fun q hq => .inr ?_⟩
      · rcases hro with ⟨-, e⟩ | ⟨g', off', cap', e1, e2, e3⟩
        · simp at e
        · exact .inr ⟨g', off', cap', e1, by omega, e3⟩
      · exact (hro.blk hq).1
/-- the head is let go -/
theorem RowO.drop {w : World} {base : Nat} {xs : List Value} {a : Option Addr} {c : Nat} (h : RowO w base (.slice a xs.length c) xs) {k : Nat} (hk : k ≤ xs.length) : RowO w base (.slice (if c = k then a else a.map (·.add (k * 1))) (xs.length - k) (c - k)) (xs.drop k) := by
  rcases h with ⟨e, rfl⟩ | ⟨g, off, cap, e, h1, h2, h3, h4, h5, h6⟩
  · cases e
    have : k = 0 := by simpa using hk
    subst this
    exact .inl ⟨rfl, rfl⟩
  · cases e
    by_cases hck : c = k
    · rw [if_pos hck]
      have hx : xs.drop k = [] := List.drop_eq_nil_of_le (by omega)
      rw [hx]
      refine .inr ⟨g, off, c - k, by simp; omega, h1, h2, Nat.zero_le _, by omega, fun j u hj => by simp at hj, fun j hj => by omega⟩
    · rw [if_neg hck]
      refine .inr ⟨g, off + k, c - k, by rw [List.length_drop]; simp [Addr.add_lit], h1, h2, by rw [List.length_drop]; omega, by omega, fun j u hj => ?_, fun j hj => ?_⟩
      · rw [List.getElem?_drop] at hj
        rw [Nat.add_assoc]; exact h5 _ u hj
      · rw [Nat.add_assoc]; exact h6 _ (by omega)
end Go.Proofs.Ytidohmpnefcpcaa

namespace Go.Proofs.Ytidohmpnefcpcaa
open Go.RowKit
/-! ### the sender's side of a link, in the heap -/
/-- a text that stays: it lies in none of the blocks N that are written -/
def ItemAt (w : World) (N : Nat → Prop) (u : Value) (bs : List Nat) : Prop :=
  ∃ a c, u = .slice a bs.length c ∧ ByteRow w a bs ∧ (∀ x ∈ bs, x < 256) ∧ ∀ b off, a = some ⟨b, off, none⟩ → b < w.heap.size ∧ ¬ N b
theorem ItemAt.mut {w w' : World} {N G : Nat → Prop} {u : Value} {bs : List Nat} (h : ItemAt w N u bs) (hm : Mut G w w') (hG : ∀ b, b < w.heap.size → G b → N b) : ItemAt w' N u bs := by
  obtain ⟨a, c, rfl, hr, hx, hb⟩ := h
  refine ⟨a, c, rfl, hr.mutT hm fun b off e _ hg => ?_, hx, fun b off e => ⟨by have := (hb b off e).1; have := hm.size; omega, (hb b off e).2⟩⟩
  exact (hb b off e).2 (hG b (hb b off e).1 hg)
theorem ItemAt.grow {w : World} {N N' : Nat → Prop} {u : Value} {bs : List Nat} (h : ItemAt w N u bs) (hN : ∀ b, N' b → N b ∨ w.heap.size ≤ b) : ItemAt w N' u bs := by
  obtain ⟨a, c, rfl, hr, hx, hb⟩ := h
  refine ⟨a, c, rfl, hr, hx, fun b off e => ⟨(hb b off e).1, fun hn => ?_⟩⟩
  rcases hN b hn with h1 | h1
  · exact (hb b off e).2 h1
  · have := (hb b off e).1; omega
theorem ItemAt.one {w : World} {N : Nat → Prop} {u : Value} {bs : List Nat} (h : ItemAt w N u bs) : u.oneCell' = true := by
  obtain ⟨a, c, rfl, -⟩ := h; rfl
/-- a clone is such a text -/
theorem ItemAt.own {w : World} {N : Nat → Prop} {base : Nat} {v : Value} {bs : List Nat} (h : OwnB w base v bs) (hx : ∀ x ∈ bs, x < 256) (hN : ∀ b, base ≤ b → b < w.heap.size → ¬ N b) : ItemAt w N v bs := by
  obtain ⟨a, c, e, hr, hb⟩ := h.row
  refine ⟨a, c, e, hr, hx, fun b off ea => ?_⟩
  have hlt : b < w.heap.size := by
    have := World.ownsRow.lt h b (by rw [e, ea]; rfl)
    exact this.2
  exact ⟨hlt, hN b (hb b off ea) hlt⟩
def ItemsAt (w : World) (N : Nat → Prop) (us : List Value) (ls : List (List Nat)) : Prop := us.length = ls.length ∧ ∀ k (h : k < ls.length), ∃ u, us[k]? = some u ∧ ItemAt w N u ls[k]
theorem ItemsAt.nil (w : World) (N : Nat → Prop) : ItemsAt w N [] [] := ⟨rfl, fun k h => by simp at h⟩
theorem ItemsAt.mut {w w' : World} {N G : Nat → Prop} {us : List Value} {ls : List (List Nat)} (h : ItemsAt w N us ls) (hm : Mut G w w') (hG : ∀ b, b < w.heap.size → G b → N b) : ItemsAt w' N us ls :=
  ⟨h.1, fun k hk => by obtain ⟨u, h1, h2⟩ := h.2 k hk; exact ⟨u, h1, h2.mut hm hG⟩⟩
theorem ItemsAt.grow {w : World} {N N' : Nat → Prop} {us : List Value} {ls : List (List Nat)} (h : ItemsAt w N us ls) (hN : ∀ b, N' b → N b ∨ w.heap.size ≤ b) : ItemsAt w N' us ls :=
  ⟨h.1, fun k hk => by obtain ⟨u, h1, h2⟩ := h.2 k hk; exact ⟨u, h1, h2.grow hN⟩⟩
theorem ItemsAt.snoc {w : World} {N : Nat → Prop} {us : List Value} {ls : List (List Nat)} {u : Value} {bs : List Nat} (h : ItemsAt w N us ls) (hu : ItemAt w N u bs) : ItemsAt w N (us ++ [u]) (ls ++ [bs]) := by
  refine ⟨by simp [h.1], fun k hk => ?_⟩
  by_cases hlt : k < ls.length
  · obtain ⟨x, h1, h2⟩ := h.2 k hlt
    exact ⟨x, by rw [List.getElem?_append_left (by rw [h.1]; exact hlt)]; exact h1, by rw [List.getElem_append_left hlt]; exact h2⟩
  · have hk2 : k = ls.length := by simp at hk; omega
    subst hk2
    refine ⟨u, by rw [List.getElem?_append_right (by rw [h.1]; exact Nat.le_refl _), h.1]; simp, ?_⟩
    rw [List.getElem_append_right (Nat.le_refl _)]
    simpa using hu
theorem ItemsAt.drop {w : World} {N : Nat → Prop} {us : List Value} {ls : List (List Nat)} (h : ItemsAt w N us ls) (n : Nat) : ItemsAt w N (us.drop n) (ls.drop n) := by
  refine ⟨by rw [List.length_drop, List.length_drop, h.1], fun k hk => ?_⟩
  rw [List.length_drop] at hk
  obtain ⟨u, h1, h2⟩ := h.2 (n + k) (by omega)
  exact ⟨u, by rw [List.getElem?_drop]; exact h1, by rw [List.getElem_drop]; exact h2⟩
/-- what a sender holds -/
structure SndD where
  base : Nat
  wait : List (List Nat)
  told : Nat
  ever : Nat
  once : Nat
  more : Nat
/-- a block of six cells that may be written -/
structure Box6 (w : World) (b : Nat) (v0 v1 v2 v3 v4 v5 : Value) : Prop where
  c0 : w.cell? ⟨b, 0, none⟩ = some v0
  c1 : w.cell? ⟨b, 1, none⟩ = some v1
  c2 : w.cell? ⟨b, 2, none⟩ = some v2
  c3 : w.cell? ⟨b, 3, none⟩ = some v3
  c4 : w.cell? ⟨b, 4, none⟩ = some v4
  c5 : w.cell? ⟨b, 5, none⟩ = some v5
  f : ∀ j, w.frozen? ⟨b, j, none⟩ = false
section
variable {w w' : World} {b : Nat} {v0 v1 v2 v3 v4 v5 : Value}
theorem Box6.lt (h : Box6 w b v0 v1 v2 v3 v4 v5) : b < w.heap.size := World.block_lt_of_cell? w _ h.c0
theorem Box6.mut {G : Nat → Prop} (h : Box6 w b v0 v1 v2 v3 v4 v5) (hm : Mut G w w') (hG : ¬ G b) : Box6 w' b v0 v1 v2 v3 v4 v5 :=
  ⟨(hm.cell h.lt hG).trans h.c0, (hm.cell h.lt hG).trans h.c1, (hm.cell h.lt hG).trans h.c2, (hm.cell h.lt hG).trans h.c3, (hm.cell h.lt hG).trans h.c4, (hm.cell h.lt hG).trans h.c5, fun j => (World.frozen?_of_block (w := w) (a := ⟨b, j, none⟩) (hm.block b h.lt hG)).trans (h.f j)⟩
theorem Box6.made (w : World) (t : TypeId) (v0 v1 v2 v3 v4 v5 : Value) : Box6 (w.alloc (.cells #[v0, v1, v2, v3, v4, v5] t)) w.heap.size v0 v1 v2 v3 v4 v5 := ⟨by simp, by simp, by simp, by simp, by simp, by simp, fun j => by simp⟩
theorem cellOff {w : World} {b q j : Nat} {x : Value} (hc : j ≠ q) : (w.setCell ⟨b, q, none⟩ x).cell? ⟨b, j, none⟩ = w.cell? ⟨b, j, none⟩ :=
  World.cell?_setCell_other _ _ _ _ (by intro e; injection e with e1 e2; exact hc e2.symm)
theorem Box6.set0 (h : Box6 w b v0 v1 v2 v3 v4 v5) (u : Value) : Box6 (w.setCell ⟨b, 0, none⟩ u) b u v1 v2 v3 v4 v5 :=
  ⟨World.cell?_setCell_same _ _ _ h.c0, by rw [cellOff (by omega)]; exact h.c1, by rw [cellOff (by omega)]; exact h.c2, by rw [cellOff (by omega)]; exact h.c3, by rw [cellOff (by omega)]; exact h.c4, by rw [cellOff (by omega)]; exact h.c5, fun j => by simp [h.f j]⟩
theorem Box6.set1 (h : Box6 w b v0 v1 v2 v3 v4 v5) (u : Value) : Box6 (w.setCell ⟨b, 1, none⟩ u) b v0 u v2 v3 v4 v5 :=
  ⟨by rw [cellOff (by omega)]; exact h.c0, World.cell?_setCell_same _ _ _ h.c1, by rw [cellOff (by omega)]; exact h.c2, by rw [cellOff (by omega)]; exact h.c3, by rw [cellOff (by omega)]; exact h.c4, by rw [cellOff (by omega)]; exact h.c5, fun j => by simp [h.f j]⟩
theorem Box6.set2 (h : Box6 w b v0 v1 v2 v3 v4 v5) (u : Value) : Box6 (w.setCell ⟨b, 2, none⟩ u) b v0 v1 u v3 v4 v5 :=
  ⟨by rw [cellOff (by omega)]; exact h.c0, by rw [cellOff (by omega)]; exact h.c1, World.cell?_setCell_same _ _ _ h.c2, by rw [cellOff (by omega)]; exact h.c3, by rw [cellOff (by omega)]; exact h.c4, by rw [cellOff (by omega)]; exact h.c5, fun j => by simp [h.f j]⟩
theorem Box6.set3 (h : Box6 w b v0 v1 v2 v3 v4 v5) (u : Value) : Box6 (w.setCell ⟨b, 3, none⟩ u) b v0 v1 v2 u v4 v5 :=
  ⟨by rw [cellOff (by omega)]; exact h.c0, by rw [cellOff (by omega)]; exact h.c1, by rw [cellOff (by omega)]; exact h.c2, World.cell?_setCell_same _ _ _ h.c3, by rw [cellOff (by omega)]; exact h.c4, by rw [cellOff (by omega)]; exact h.c5, fun j => by simp [h.f j]⟩
theorem Box6.set4 (h : Box6 w b v0 v1 v2 v3 v4 v5) (u : Value) : Box6 (w.setCell ⟨b, 4, none⟩ u) b v0 v1 v2 v3 u v5 :=
  ⟨by rw [cellOff (by omega)]; exact h.c0, by rw [cellOff (by omega)]; exact h.c1, by rw [cellOff (by omega)]; exact h.c2, by rw [cellOff (by omega)]; exact h.c3, World.cell?_setCell_same _ _ _ h.c4, by rw [cellOff (by omega)]; exact h.c5, fun j => by simp [h.f j]⟩
theorem Box6.set5 (h : Box6 w b v0 v1 v2 v3 v4 v5) (u : Value) : Box6 (w.setCell ⟨b, 5, none⟩ u) b v0 v1 v2 v3 v4 u :=
  ⟨by rw [cellOff (by omega)]; exact h.c0, by rw [cellOff (by omega)]; exact h.c1, by rw [cellOff (by omega)]; exact h.c2, by rw [cellOff (by omega)]; exact h.c3, by rw [cellOff (by omega)]; exact h.c4, World.cell?_setCell_same _ _ _ h.c5, fun j => by simp [h.f j]⟩
end
/-- a sender in the heap: its box s, its row wv of texts; both among the blocks N that are written -/
structure SndIs (w : World) (N : Nat → Prop) (s : Nat) (wv : Value) (us : List Value) (d : SndD) : Prop where
  box : Box6 w s (.int .u64 d.base) wv (.int .u32 d.told) (.int .u32 d.ever) (.int .u64 d.once) (.int .u64 d.more)
  row : RowO w 0 wv us
  it : ItemsAt w N us d.wait
  ns : N s
  nw : ∀ g, wv.ownBlock = some g → N g ∧ g ≠ s
  b0 : d.base < 9223372036854775808
  b2 : d.told < 4294967296
  b3 : d.ever < 4294967296
  b4 : d.once < 18446744073709551616
  b5 : d.more < 18446744073709551616
  bl : d.wait.length ≤ 128
/-- the blocks that a sender's own functions write -/
def fpS (s : Nat) (wv : Value) (b : Nat) : Prop := b = s ∨ wv.ownBlock = some b
theorem SndIs.mut {w w' : World} {N G : Nat → Prop} {s : Nat} {wv : Value} {us : List Value} {d : SndD} (h : SndIs w N s wv us d) (hm : Mut G w w') (hG : ∀ b, b < w.heap.size → G b → N b) (hf : ∀ b, fpS s wv b → ¬ G b) : SndIs w' N s wv us d :=
  ⟨h.box.mut hm (hf s (.inl rfl)), h.row.mutN hm fun g e => hf g (.inr e), h.it.mut hm hG, h.ns, h.nw, h.b0, h.b2, h.b3, h.b4, h.b5, h.bl⟩
theorem SndIs.ext {w w' : World} {N : Nat → Prop} {s : Nat} {wv : Value} {us : List Value} {d : SndD} (h : SndIs w N s wv us d) (hb : Below w.heap.size w w') : SndIs w' N s wv us d :=
  h.mut (Mut.of_below (F := fun _ => False) hb) (fun _ _ e => e.elim) fun _ _ e => e
theorem SndIs.grow {w : World} {N N' : Nat → Prop} {s : Nat} {wv : Value} {us : List Value} {d : SndD} (h : SndIs w N s wv us d) (h1 : ∀ b, N b → N' b) (h2 : ∀ b, N' b → N b ∨ w.heap.size ≤ b) : SndIs w N' s wv us d :=
  ⟨h.box, h.row, h.it.grow h2, h1 _ h.ns, fun g e => ⟨h1 _ (h.nw g e).1, (h.nw g e).2⟩, h.b0, h.b2, h.b3, h.b4, h.b5, h.bl⟩
def sndNew : SndD := ⟨1, [], 0, 0, 0, 0⟩
theorem SndIs.made (w : World) (t : TypeId) (N : Nat → Prop) (hN : N w.heap.size) : SndIs (w.alloc (.cells #[.int .u64 1, .slice none 0 0, .int .u32 0, .int .u32 0, .int .u64 0, .int .u64 0] t)) N w.heap.size (.slice none 0 0) [] sndNew :=
  ⟨Box6.made w t _ _ _ _ _ _, RowO.nil _ _, ItemsAt.nil _ _, hN, fun g e => (by cases e), by decide, by decide, by decide, by decide, by decide, by decide⟩
end Go.Proofs.Ytidohmpnefcpcaa

namespace Go.Proofs.Ytidohmpnefcpcaa
open Go.RowKit
/-! ### window: New, Tick, Len, Next -/
theorem cell_extY0 {w : World} {a : Addr} {v : Value} (h : w.cell? a = some v) : ∀ U : ExtW w, U.W.cell? a = some v := fun U => (U.h.cell (World.block_lt_of_cell? w _ h)).trans h
theorem SndIs.lit {w : World} {N : Nat → Prop} {s : Nat} {wv : Value} {us : List Value} {d : SndD} (h : SndIs w N s wv us d) : ∃ a c, wv = .slice a d.wait.length c ∧ d.wait.length ≤ c := by
  obtain ⟨a, c, e, hc⟩ := h.row.sli
  rw [h.it.1] at e hc
  exact ⟨a, c, e, hc⟩
theorem wnew_any (w : World) : Calls Try.prog 60 #[] w fun e w' => e = .returned (.pointer (some ⟨w.heap.size, 0, none⟩)) ∧ w' = w.alloc (.cells #[.int .u64 1, .slice none 0 0, .int .u32 0, .int .u32 0, .int .u64 0, .int .u64 0] 100) := by
  go_enter Try.func60, Try.ntmps60
  go_wp2_with fail
  go_ret
  exact ⟨rfl, rfl⟩
theorem wtick_any {w : World} {N : Nat → Prop} {s : Nat} {wv : Value} {us : List Value} {d : SndD} (h : SndIs w N s wv us d) :
    Calls Try.prog 32 #[.pointer (some ⟨s, 0, none⟩)] w fun e w' => e = .returned (.tuple #[]) ∧ SndIs w' N s wv us { d with told := 0 } ∧ Mut (fun b => b = s) w w' := by
  have c2 := h.box.c2
  have f2 := h.box.f 2
  have hm : Mut (fun b => b = s) w (w.setCell ⟨s, 2, none⟩ (.int .u32 0)) := mut1
  have HR : Hid (SndIs (w.setCell ⟨s, 2, none⟩ (.int .u32 0)) N s wv us { d with told := 0 }) := hid ⟨h.box.set2 _, h.row.mutN hm fun g e => fun e2 => (h.nw g e).2 e2, h.it.mut hm (fun b _ e => by have e : b = s := e; rw [e]; exact h.ns), h.ns, h.nw, h.b0, (by show 0 < 4294967296; decide), h.b3, h.b4, h.b5, h.bl⟩
  have HM := hid hm
  clear h hm
  go_enter Try.func32, Try.ntmps32
  go_wp2_with fail
  go_end0
  exact ⟨rfl, HR.out, HM.out⟩
theorem wlen_any {w : World} {N : Nat → Prop} {s : Nat} {wv : Value} {us : List Value} {d : SndD} (h : SndIs w N s wv us d) :
    Calls Try.prog 38 #[.pointer (some ⟨s, 0, none⟩)] w fun e w' => e = .returned (.int .i64 d.wait.length) ∧ w' = w := by
  obtain ⟨a, c, e, -⟩ := h.lit
  have c1 := h.box.c1
  rw [e] at c1
  obtain ⟨n, hn⟩ : ∃ n, d.wait.length = n := ⟨_, rfl⟩
  rw [hn] at c1 ⊢
  clear h e hn
  go_enter Try.func38, Try.ntmps38
  go_wp2_with fail
  go_ret
  exact ⟨rfl, rfl⟩
theorem wnext_any {w : World} {N : Nat → Prop} {s : Nat} {wv : Value} {us : List Value} {d : SndD} (h : SndIs w N s wv us d) :
    Calls Try.prog 52 #[.pointer (some ⟨s, 0, none⟩)] w fun e w' => e = .returned (.int .u64 (d.base + d.wait.length : Nat)) ∧ Below w.heap.size w w' := by
  obtain ⟨a, c, e, -⟩ := h.lit
  have c0 := h.box.c0
  have c1 := h.box.c1
  rw [e] at c1
  have hb := h.b0
  have hl := h.bl
  obtain ⟨n, hn⟩ : ∃ n, d.wait.length = n := ⟨_, rfl⟩
  rw [hn] at c1 hl ⊢
  have f0 := cell_extY0 c0
  have f1 := cell_extY0 c1
  have i1 : IntKind.u64.wrap (n : Int) = (n : Int) := by rw [IntKind.wrap_u64]; omega
  have i2 : IntKind.u64.wrap ((d.base : Int) + (n : Int)) = ((d.base + n : Nat) : Int) := by rw [IntKind.wrap_u64]; omega
  clear h e hn
  go_enter Try.func52, Try.ntmps52
  go_wp2_with fail
  refine wp_region_ext (w := w) (Below.refl _ _) (by kernel_rfl) (by kernel_rfl) ?_
  repeat (go_big_quiet_step (fail))
  refine wpQuiet_nil ?_
  rintro w9 ⟨⟨_, hb9⟩, rfl⟩
  have HB9 := hid hb9
  clear hb9 f0 f1 c0 c1
  go_wp2_with fail
  go_ret
  exact ⟨by simp, HB9.out⟩
end Go.Proofs.Ytidohmpnefcpcaa

namespace Go.Proofs.Ytidohmpnefcpcaa
open Go.RowKit
/-! ### window: Put -/
def putC (d : SndD) (bs : List Nat) : Int := if 4096 < bs.length then 3 else if 128 ≤ d.wait.length then 13 else 0
def putD (d : SndD) (bs : List Nat) : SndD := if 4096 < bs.length then d else if 128 ≤ d.wait.length then d else { d with wait := d.wait ++ [bs] }
theorem infoBs : (Try.prog.info? 32).map (fun i => (i.zero, i.size, i.bytes)) = some (some (.slice none 0 0), 1, 24) := by kernel_rfl
/-- append of a text at an operation of a region that draws -/
theorem step_appendO {w : World} {o : Oper} {a : Go.Act} {K : Go.Act → World → Prop} {Q : Exit → Go.Act → World → Prop} {y : Nat → Option Bool} {s x : Operand} {base : Nat} {v u : Value} {xs : List Value} {b ob c : Nat} (hw : Region.wanted o y = true) (hown : RowO w base v xs) (hu : w.cell? ⟨b, ob, none⟩ = some u) (h1 : u.oneCell' = true)
    (hl : xs.length + 1 ≤ 1000000) (hbase : base ≤ w.heap.size)
    (ho : o.op = .call { callee := .builtin .append, args := #[s, x], argTypes := #[22, 22] }) (hs : a.eval s = v) (hx : a.eval x = .slice (some ⟨b, ob, none⟩) 1 c)
    (h : ∀ v' w', RowO w' base v' (xs ++ [u]) → Mut (fun g => v.ownBlock = some g) w w' → (∀ g, v'.ownBlock = some g → v.ownBlock = some g ∨ w.heap.size ≤ g) → K (a.put o.dst v') w') : if Region.wanted o y = true then Oper.wp Try.prog o a w K Q else K (a.put o.dst undef) w := by
  rw [if_pos hw]
  obtain ⟨i0, hi, hz0, hz1, hz2⟩ := info_parts infoBs
  obtain ⟨v', w', hr, h2, h3, h4⟩ := hown.append (c := c) 22 o.type 32 i0 _ 24 Try.underlying22 hi hz0 hz1 hz2 rfl hu h1 hl (by decide) hbase
  exact Lib.wp_append_run w s x 22 22 ho _ _ hs hx v' w' hr (h v' w' h2 h3 h4)
/-- what Put leaves -/
structure PutR (w w' : World) (N : Nat → Prop) (s : Nat) (wv : Value) (d : SndD) (wv' : Value) : Prop where
  is : ∃ us', SndIs w' (fun b => N b ∨ wv'.ownBlock = some b) s wv' us' d
  new : ∀ g, wv'.ownBlock = some g → wv.ownBlock = some g ∨ w.heap.size ≤ g
  mt : Mut (fpS s wv) w w'
theorem PutR.same {w w' : World} {N : Nat → Prop} {s : Nat} {wv : Value} {us : List Value} {d : SndD} (h : SndIs w N s wv us d) (hb : Below w.heap.size w w') : PutR w w' N s wv d wv :=
  ⟨⟨us, (h.ext hb).grow (fun b e => .inl e) fun b e => .inl (e.elim id fun e => (h.nw b e).1)⟩, fun g e => .inl e, Mut.of_below hb⟩
theorem PutR.put {w w2 w3 w4 : World} {N : Nat → Prop} {s : Nat} {wv wv' u : Value} {us : List Value} {d : SndD} {bs : List Nat} (h : SndIs w N s wv us d) (hN : ∀ b, N b → b < w.heap.size) (hb2 : Below w.heap.size w w2) (hu : OwnB w2 w.heap.size u bs) (hx : ∀ x ∈ bs, x < 256) (hb3 : Below w2.heap.size w2 w3) (hrow : RowO w4 0 wv' (us ++ [u])) (hm : Mut (fun g => wv.ownBlock = some g) w3 w4) (hnew : ∀ g, wv'.ownBlock = some g → wv.ownBlock = some g ∨ w3.heap.size ≤ g) (hl : d.wait.length < 128) :
    PutR w (w4.setCell ⟨s, 1, none⟩ wv') N s wv { d with wait := d.wait ++ [bs] } wv' ∧ w4.cell? ⟨s, 1, none⟩ = some wv ∧ w4.frozen? ⟨s, 1, none⟩ = false := by
  have hs23 := hb3.size
  have hs12 := hb2.size
  have hbb : Below w.heap.size w w3 := hb2.trans (hb3.mono hs12)
  have hm4 : Mut (fun g => wv.ownBlock = some g) w w4 := (Mut.of_below hbb).trans ⟨hm.os, hm.tape, hm.output, hm.size, hm.block⟩
  have hsl := h.box.lt
  have hsn : ¬ (wv.ownBlock = some s) := fun e => (h.nw s e).2 rfl
  have hbox := h.box.mut hm4 hsn
  have hms : Mut (fun k => k = s) w4 (w4.setCell ⟨s, 1, none⟩ wv') := mut1
  have hmN : Mut (fpS s wv) w (w4.setCell ⟨s, 1, none⟩ wv') := (hm4.mono fun k _ e => .inr e).trans (hms.mono fun k _ e => .inl e)
  have hNb : ∀ b, fpS s wv b → N b := fun b e => by
    rcases e with e | e
    · rw [e]; exact h.ns
    · exact (h.nw b e).1
  have hnw : ∀ g, wv'.ownBlock = some g → wv.ownBlock = some g ∨ w.heap.size ≤ g := fun g e => (hnew g e).imp id (fun h => by omega)
  have hit : ItemsAt (w4.setCell ⟨s, 1, none⟩ wv') (fun b => N b ∨ wv'.ownBlock = some b) us d.wait := by
    refine ItemsAt.mut (w := w) (G := fpS s wv) (h.it.grow fun b e => ?_) hmN fun b _ e => .inl (hNb b e)
    rcases e with e | e
    · exact .inl e
    · rcases hnw b e with e | e
      · exact .inl (h.nw b e).1
      · exact .inr e
  have hi2 : ItemAt w2 (fun b => N b ∨ wv'.ownBlock = some b) u bs := ItemAt.own hu hx fun b h1 h2 e => by
    rcases e with e | e
    · have := hN b e; omega
    · rcases hnew b e with e | e
      · have := hN b (h.nw b e).1; omega
      · omega
  have hi4 : ItemAt (w4.setCell ⟨s, 1, none⟩ wv') (fun b => N b ∨ wv'.ownBlock = some b) u bs := by
    have h3 := hi2.mut (Mut.of_below (F := fun _ => False) hb3) fun b _ e => e.elim
    have hm34 : Mut (fpS s wv) w3 (w4.setCell ⟨s, 1, none⟩ wv') := (hm.mono fun k _ e => .inr e).trans (hms.mono fun k _ e => .inl e)
    exact h3.mut hm34 fun b _ e => .inl (hNb b e)
  refine ⟨⟨⟨us ++ [u], hbox.set1 _, hrow.mutN hms fun g e => fun e2 => ?_, hit.snoc hi4, .inl h.ns, fun g e => ⟨.inr e, ?_⟩, h.b0, h.b2, h.b3, h.b4, h.b5, by show (d.wait ++ [bs]).length ≤ 128; simp; omega⟩, hnw, hmN⟩, hbox.c1, hbox.f 1⟩
  · have e2 : g = s := e2
    rcases hnw g e with e | e
    · exact (h.nw g e).2 e2
    · omega
  · rcases hnw g e with e | e
    · exact (h.nw g e).2
    · omega
set_option maxRecDepth 100000 in
set_option maxHeartbeats 6400000 in
theorem wput_any {w : World} {N : Nat → Prop} {s : Nat} {wv : Value} {us : List Value} {d : SndD} {ba : Option Addr} {bc n : Nat} {bs : List Nat} (h : SndIs w N s wv us d) (hN : ∀ b, N b → b < w.heap.size) (hn : Hid (bs.length = n)) (hnl : n ≤ 549755813888) (hr : ByteRow w ba bs) (hx : ∀ x ∈ bs, x < 256) :
    Calls Try.prog 31 #[.pointer (some ⟨s, 0, none⟩), .slice ba n bc] w fun e w' => ∃ wv', e = .returned (.int .i64 (putC d bs)) ∧ PutR w w' N s wv (putD d bs) wv' := by
  obtain ⟨a, c, hlit, -⟩ := h.lit
  subst hlit
  have c1 := h.box.c1
  obtain ⟨m, hm⟩ : ∃ m, d.wait.length = m := ⟨_, rfl⟩
  rw [hm] at c1
  by_cases h1 : 4096 < n
  · have t1 : decide ((n : Int) > 4096) = true := decide_eq_true (by omega)
    have t2 : decide (4096 < (n : Int)) = true := decide_eq_true (by omega)
    have t3 : decide (4096 < n) = true := decide_eq_true h1
    have HC : Hid (putC d bs = 3) := hid (by unfold putC; rw [hn.out, if_pos h1])
    have HD : Hid (putD d bs = d) := hid (by unfold putD; rw [hn.out, if_pos h1])
    have HR := hid (PutR.same h (Below.refl _ _))
    clear h hr
    go_enter Try.func31, Try.ntmps31
    go_wp2_with fail
    go_ret
    exact ⟨_, by rw [HC.out]; rfl, by rw [HD.out]; exact HR.out⟩
  have t1 : decide ((n : Int) > 4096) = false := decide_eq_false (by omega)
  have t2 : decide (4096 < (n : Int)) = false := decide_eq_false (by omega)
  have t3 : decide (4096 < n) = false := decide_eq_false h1
  by_cases h2 : 128 ≤ m
  · have s1 : decide ((m : Int) ≥ 128) = true := decide_eq_true (by omega)
    have s2 : decide (128 ≤ (m : Int)) = true := decide_eq_true (by omega)
    have s3 : decide (128 ≤ m) = true := decide_eq_true h2
    have HC : Hid (putC d bs = 13) := hid (by unfold putC; rw [hn.out, if_neg h1, hm, if_pos h2])
    have HD : Hid (putD d bs = d) := hid (by unfold putD; rw [hn.out, if_neg h1, hm, if_pos h2])
    have HR := hid (PutR.same h (Below.refl _ _))
    clear h hr
    go_enter Try.func31, Try.ntmps31
    go_wp2_with fail
    go_ret
    exact ⟨_, by rw [HC.out]; rfl, by rw [HD.out]; exact HR.out⟩
  have s1 : decide ((m : Int) ≥ 128) = false := decide_eq_false (by omega)
  have s2 : decide (128 ≤ (m : Int)) = false := decide_eq_false (by omega)
  have s3 : decide (128 ≤ m) = false := decide_eq_false h2
  have HC : Hid (putC d bs = 0) := hid (by unfold putC; rw [hn.out, if_neg h1, hm, if_neg h2])
  have HD : Hid (putD d bs = { d with wait := d.wait ++ [bs] }) := hid (by unfold putD; rw [hn.out, if_neg h1, hm, if_neg h2])
  have CL := hid (cloneB_any (c := bc) hn hnl (show ByteRow w.drew ba bs from hr.ext (Below.refl _ _).drew))
  have HI := hid h
  have HNN := hid hN
  have HXX := hid hx
  have HM : Hid (d.wait.length < 128) := hid (by omega)
  have HUL : Hid (us.length + 1 ≤ 1000000) := hid (by rw [h.it.1]; omega)
  have HCD : Hid (w.drew.cell? ⟨s, 1, none⟩ = some (.slice a m c)) := hid c1
  rw [hm] at HI
  have HMM := hid hm
  clear h hr hm h1 h2 hN hx
  go_enter Try.func31, Try.ntmps31
  go_upto_region 7 with fail
  clear t1 t2 t3 s1 s2 s3
  go_cut [19] (fun t wx => ∃ wv', PutR w wx N s (.slice a m c) (putD d bs) wv')
  case first =>
    refine wp_region_held_drew (S := fun _ => True) (by kernel_rfl) (trivial) (fun hHeld => ?_)
    refine wpAnyH_take (i := 0) (oi := _) (v := .pointer (some ⟨s, 0, none⟩)) rfl (by kernel_rfl) (by kernel_rfl) (by kernel_rfl) (fun _ _ _ h => h) (Or.inl ⟨by rfl, ?_⟩) (by assumption) ?_
    · intro W hSw
      try dsimp only at hSw
      go_simp
    try simp only [Act.put, List.getElem_toArray, List.getElem_cons_succ, List.getElem_cons_zero, List.setIfInBounds_toArray, List.set_cons_zero, List.set_cons_succ]
    refine wpAnyH_take (i := 1) (oi := _) (v := .pointer (some ⟨s, 0, none⟩)) rfl (by kernel_rfl) (by kernel_rfl) (by kernel_rfl) (fun _ _ _ h => h) (Or.inl ⟨by rfl, ?_⟩) (by assumption) ?_
    · intro W hSw
      try dsimp only at hSw
      go_simp
    try simp only [Act.put, List.getElem_toArray, List.getElem_cons_succ, List.getElem_cons_zero, List.setIfInBounds_toArray, List.set_cons_zero, List.set_cons_succ]
    refine wpAnyH_take (i := 2) (oi := _) (v := .pointer (some ⟨s, 0, none⟩)) rfl (by kernel_rfl) (by kernel_rfl) (by kernel_rfl) (fun _ _ _ h => h) (Or.inl ⟨by rfl, ?_⟩) (by assumption) ?_
    · intro W hSw
      try dsimp only at hSw
      go_simp
    try simp only [Act.put, List.getElem_toArray, List.getElem_cons_succ, List.getElem_cons_zero, List.setIfInBounds_toArray, List.set_cons_zero, List.set_cons_succ]
    refine wpAnyH_take (i := 3) (oi := _) (v := .pointer (some ⟨s, 1, none⟩)) rfl (by kernel_rfl) (by kernel_rfl) (by kernel_rfl) (fun _ _ _ h => h) (Or.inl ⟨by rfl, ?_⟩) (by assumption) ?_
    · intro W hSw
      try dsimp only at hSw
      go_simp
    try simp only [Act.put, List.getElem_toArray, List.getElem_cons_succ, List.getElem_cons_zero, List.setIfInBounds_toArray, List.set_cons_zero, List.set_cons_succ]
    refine wpAnyH_take (i := 5) (oi := _) (v := .slice ba n bc) rfl (by kernel_rfl) (by kernel_rfl) (by kernel_rfl) (fun _ _ _ h => h) (Or.inl ⟨by rfl, ?_⟩) (by assumption) ?_
    · intro W hSw
      try dsimp only at hSw
      go_simp
    try simp only [Act.put, List.getElem_toArray, List.getElem_cons_succ, List.getElem_cons_zero, List.setIfInBounds_toArray, List.set_cons_zero, List.set_cons_succ]
    refine wpAnyH_ready (rs := [4, 6]) (by kernel_rfl) (by simp) ?_
    refine AllReadyH.cons (o := _) rfl (fun K hK => ?_) (AllReadyH.cons (o := _) rfl (fun K hK => ?_) AllReadyH.nil)
    · have hcd := HCD.out
      go_simp
      refine hK.out _ _ (trivial) (fun hHeld => ?_)
      clear hK K
      try simp only [Act.put, List.getElem_toArray, List.getElem_cons_succ, List.getElem_cons_zero, List.setIfInBounds_toArray, List.set_cons_zero, List.set_cons_succ]
      refine wpAnyH_ready (rs := [6]) (by kernel_rfl) (by simp) ?_
      refine AllReadyH.cons (o := _) rfl (fun K hK => ?_) AllReadyH.nil
      go_simp
      (refine CL.out.mono ?_)
      rintro e w2 ⟨u, rfl, hown, hb2⟩
      have hb2' : Below w.heap.size w w2 := (Below.refl _ _).drew.trans hb2
      obtain ⟨ua, uc, ue, -, -⟩ := id hown.row
      rw [hn.out] at ue
      subst ue
      have HU : Hid (OwnB w2 w.heap.size (.slice ua n uc) bs) := hid hown
      have HB2 := hid hb2'
      have HCE : Hid (w2.cell? ⟨s, 1, none⟩ = some (.slice a m c)) := hid ((hb2'.cell (by exact HI.out.box.lt)).trans HCD.out)
      have HUO : Hid ((Value.slice ua n uc).oneCell' = true) := hid rfl
      clear hown hb2 hb2'
      refine hK.out _ _ (trivial) (fun hHeld => ?_)
      clear hK K
      try simp only [Act.put, List.getElem_toArray, List.getElem_cons_succ, List.getElem_cons_zero, List.setIfInBounds_toArray, List.set_cons_zero, List.set_cons_succ]
      refine wpAnyH_ready (rs := [7]) (by kernel_rfl) (by simp) ?_
      refine AllReadyH.cons (o := _) rfl (fun K hK => ?_) AllReadyH.nil
      go_simp
      obtain ⟨w3, hw3⟩ : ∃ w3, w2.alloc (.cells #[.slice ua n uc] 32) = w3 := ⟨_, rfl⟩
      rw [hw3]
      have hb3 : Below w2.heap.size w2 w3 := by rw [← hw3]; exact (Below.refl _ _).alloc (Nat.le_refl _) _
      have HB3 := hid hb3
      have HCU : Hid (w3.cell? ⟨w2.heap.size, 0, none⟩ = some (.slice ua n uc)) := hid (by rw [← hw3]; simp)
      have HRO : Hid (RowO w3 0 (.slice a m c) us) := hid (HI.out.row.ext (HB2.out.trans (hb3.mono HB2.out.size)))
      have HCF : Hid (w3.cell? ⟨s, 1, none⟩ = some (.slice a m c)) := hid ((hb3.cell (by exact World.block_lt_of_cell? w2 _ HCE.out)).trans HCE.out)
      clear hb3 hw3
      refine hK.out _ _ (trivial) (fun hHeld => ?_)
      clear hK K
      try simp only [Act.put, List.getElem_toArray, List.getElem_cons_succ, List.getElem_cons_zero, List.setIfInBounds_toArray, List.set_cons_zero, List.set_cons_succ]
      refine wpAnyH_ready (rs := [8]) (by kernel_rfl) (by simp) ?_
      refine AllReadyH.cons (o := _) rfl (fun K hK => ?_) AllReadyH.nil
      refine step_appendO (by rfl) HRO.out HCU.out HUO.out HUL.out (Nat.zero_le _) rfl rfl rfl ?_
      intro v8 w8 hrow8 hm8 hn8
      obtain ⟨a8, c8, e8, -⟩ := hrow8.sli
      obtain ⟨n8, hn8'⟩ : ∃ n8, (us ++ [Value.slice ua n uc]).length = n8 := ⟨_, rfl⟩
      rw [hn8'] at e8
      subst e8
      have hpp := PutR.put HI.out HNN.out HB2.out HU.out HXX.out HB3.out hrow8 hm8 hn8 HM.out
      have k8 := hpp.2.1
      have f8 := hpp.2.2
      have HPP := hid hpp.1
      clear hrow8 hm8 hn8 hn8' hpp
      refine hK.out _ _ (trivial) (fun hHeld => ?_)
      clear hK K
      try simp only [Act.put, List.getElem_toArray, List.getElem_cons_succ, List.getElem_cons_zero, List.setIfInBounds_toArray, List.set_cons_zero, List.set_cons_succ]
      refine wpAnyH_ready (rs := [9]) (by kernel_rfl) (by simp) ?_
      refine AllReadyH.cons (o := _) rfl (fun K hK => ?_) AllReadyH.nil
      go_simp
      refine hK.out _ _ (trivial) (fun hHeld => ?_)
      clear hK K
      try simp only [Act.put, List.getElem_toArray, List.getElem_cons_succ, List.getElem_cons_zero, List.setIfInBounds_toArray, List.set_cons_zero, List.set_cons_succ]
      refine wpAnyH_ready (rs := [10]) (by kernel_rfl) (by simp) ?_
      refine AllReadyH.cons (o := _) rfl (fun K hK => ?_) AllReadyH.nil
      go_simp
      refine hK.out _ _ (trivial) (fun hHeld => ?_)
      clear hK K
      try simp only [Act.put, List.getElem_toArray, List.getElem_cons_succ, List.getElem_cons_zero, List.setIfInBounds_toArray, List.set_cons_zero, List.set_cons_succ]
      refine wpAnyH_ready (rs := [11]) (by kernel_rfl) (by simp) ?_
      refine AllReadyH.cons (o := _) rfl (fun K hK => ?_) AllReadyH.nil
      go_simp
      refine hK.out _ _ (trivial) (fun hHeld => ?_)
      clear hK K
      try simp only [Act.put, List.getElem_toArray, List.getElem_cons_succ, List.getElem_cons_zero, List.setIfInBounds_toArray, List.set_cons_zero, List.set_cons_succ]
      refine wpAnyH_done (by kernel_rfl) ?_ _
      go_wp2_with fail
      go_meet
      exact ⟨_, by rw [HD.out]; exact HPP.out⟩
    · go_simp
      (refine CL.out.mono ?_)
      rintro e w2 ⟨u, rfl, hown, hb2⟩
      have hb2' : Below w.heap.size w w2 := (Below.refl _ _).drew.trans hb2
      obtain ⟨ua, uc, ue, -, -⟩ := id hown.row
      rw [hn.out] at ue
      subst ue
      have HU : Hid (OwnB w2 w.heap.size (.slice ua n uc) bs) := hid hown
      have HB2 := hid hb2'
      have HCE : Hid (w2.cell? ⟨s, 1, none⟩ = some (.slice a m c)) := hid ((hb2'.cell (by exact HI.out.box.lt)).trans HCD.out)
      have HUO : Hid ((Value.slice ua n uc).oneCell' = true) := hid rfl
      clear hown hb2 hb2'
      refine hK.out _ _ (trivial) (fun hHeld => ?_)
      clear hK K
      try simp only [Act.put, List.getElem_toArray, List.getElem_cons_succ, List.getElem_cons_zero, List.setIfInBounds_toArray, List.set_cons_zero, List.set_cons_succ]
      refine wpAnyH_ready (rs := [4, 7]) (by kernel_rfl) (by simp) ?_
      refine AllReadyH.cons (o := _) rfl (fun K hK => ?_) (AllReadyH.cons (o := _) rfl (fun K hK => ?_) AllReadyH.nil)
      · have hce := HCE.out
        go_simp
        clear hce
        refine hK.out _ _ (trivial) (fun hHeld => ?_)
        clear hK K
        try simp only [Act.put, List.getElem_toArray, List.getElem_cons_succ, List.getElem_cons_zero, List.setIfInBounds_toArray, List.set_cons_zero, List.set_cons_succ]
        refine wpAnyH_ready (rs := [7]) (by kernel_rfl) (by simp) ?_
        refine AllReadyH.cons (o := _) rfl (fun K hK => ?_) AllReadyH.nil
        go_simp
        obtain ⟨w3, hw3⟩ : ∃ w3, w2.alloc (.cells #[.slice ua n uc] 32) = w3 := ⟨_, rfl⟩
        rw [hw3]
        have hb3 : Below w2.heap.size w2 w3 := by rw [← hw3]; exact (Below.refl _ _).alloc (Nat.le_refl _) _
        have HB3 := hid hb3
        have HCU : Hid (w3.cell? ⟨w2.heap.size, 0, none⟩ = some (.slice ua n uc)) := hid (by rw [← hw3]; simp)
        have HRO : Hid (RowO w3 0 (.slice a m c) us) := hid (HI.out.row.ext (HB2.out.trans (hb3.mono HB2.out.size)))
        have HCF : Hid (w3.cell? ⟨s, 1, none⟩ = some (.slice a m c)) := hid ((hb3.cell (by exact World.block_lt_of_cell? w2 _ HCE.out)).trans HCE.out)
        clear hb3 hw3
        refine hK.out _ _ (trivial) (fun hHeld => ?_)
        clear hK K
        try simp only [Act.put, List.getElem_toArray, List.getElem_cons_succ, List.getElem_cons_zero, List.setIfInBounds_toArray, List.set_cons_zero, List.set_cons_succ]
        refine wpAnyH_ready (rs := [8]) (by kernel_rfl) (by simp) ?_
        refine AllReadyH.cons (o := _) rfl (fun K hK => ?_) AllReadyH.nil
        refine step_appendO (by rfl) HRO.out HCU.out HUO.out HUL.out (Nat.zero_le _) rfl rfl rfl ?_
        intro v8 w8 hrow8 hm8 hn8
        obtain ⟨a8, c8, e8, -⟩ := hrow8.sli
        obtain ⟨n8, hn8'⟩ : ∃ n8, (us ++ [Value.slice ua n uc]).length = n8 := ⟨_, rfl⟩
        rw [hn8'] at e8
        subst e8
        have hpp := PutR.put HI.out HNN.out HB2.out HU.out HXX.out HB3.out hrow8 hm8 hn8 HM.out
        have k8 := hpp.2.1
        have f8 := hpp.2.2
        have HPP := hid hpp.1
        clear hrow8 hm8 hn8 hn8' hpp
        refine hK.out _ _ (trivial) (fun hHeld => ?_)
        clear hK K
        try simp only [Act.put, List.getElem_toArray, List.getElem_cons_succ, List.getElem_cons_zero, List.setIfInBounds_toArray, List.set_cons_zero, List.set_cons_succ]
        refine wpAnyH_ready (rs := [9]) (by kernel_rfl) (by simp) ?_
        refine AllReadyH.cons (o := _) rfl (fun K hK => ?_) AllReadyH.nil
        go_simp
        refine hK.out _ _ (trivial) (fun hHeld => ?_)
        clear hK K
        try simp only [Act.put, List.getElem_toArray, List.getElem_cons_succ, List.getElem_cons_zero, List.setIfInBounds_toArray, List.set_cons_zero, List.set_cons_succ]
        refine wpAnyH_ready (rs := [10]) (by kernel_rfl) (by simp) ?_
        refine AllReadyH.cons (o := _) rfl (fun K hK => ?_) AllReadyH.nil
        go_simp
        refine hK.out _ _ (trivial) (fun hHeld => ?_)
        clear hK K
        try simp only [Act.put, List.getElem_toArray, List.getElem_cons_succ, List.getElem_cons_zero, List.setIfInBounds_toArray, List.set_cons_zero, List.set_cons_succ]
        refine wpAnyH_ready (rs := [11]) (by kernel_rfl) (by simp) ?_
        refine AllReadyH.cons (o := _) rfl (fun K hK => ?_) AllReadyH.nil
        go_simp
        refine hK.out _ _ (trivial) (fun hHeld => ?_)
        clear hK K
        try simp only [Act.put, List.getElem_toArray, List.getElem_cons_succ, List.getElem_cons_zero, List.setIfInBounds_toArray, List.set_cons_zero, List.set_cons_succ]
        refine wpAnyH_done (by kernel_rfl) ?_ _
        go_wp2_with fail
        go_meet
        exact ⟨_, by rw [HD.out]; exact HPP.out⟩
      · go_simp
        obtain ⟨w3, hw3⟩ : ∃ w3, w2.alloc (.cells #[.slice ua n uc] 32) = w3 := ⟨_, rfl⟩
        rw [hw3]
        have hb3 : Below w2.heap.size w2 w3 := by rw [← hw3]; exact (Below.refl _ _).alloc (Nat.le_refl _) _
        have HB3 := hid hb3
        have HCU : Hid (w3.cell? ⟨w2.heap.size, 0, none⟩ = some (.slice ua n uc)) := hid (by rw [← hw3]; simp)
        have HRO : Hid (RowO w3 0 (.slice a m c) us) := hid (HI.out.row.ext (HB2.out.trans (hb3.mono HB2.out.size)))
        have HCF : Hid (w3.cell? ⟨s, 1, none⟩ = some (.slice a m c)) := hid ((hb3.cell (by exact World.block_lt_of_cell? w2 _ HCE.out)).trans HCE.out)
        clear hb3 hw3
        refine hK.out _ _ (trivial) (fun hHeld => ?_)
        clear hK K
        try simp only [Act.put, List.getElem_toArray, List.getElem_cons_succ, List.getElem_cons_zero, List.setIfInBounds_toArray, List.set_cons_zero, List.set_cons_succ]
        refine wpAnyH_ready (rs := [4]) (by kernel_rfl) (by simp) ?_
        refine AllReadyH.cons (o := _) rfl (fun K hK => ?_) AllReadyH.nil
        have hcf := HCF.out
        go_simp
        clear hcf
        refine hK.out _ _ (trivial) (fun hHeld => ?_)
        clear hK K
        try simp only [Act.put, List.getElem_toArray, List.getElem_cons_succ, List.getElem_cons_zero, List.setIfInBounds_toArray, List.set_cons_zero, List.set_cons_succ]
        refine wpAnyH_ready (rs := [8]) (by kernel_rfl) (by simp) ?_
        refine AllReadyH.cons (o := _) rfl (fun K hK => ?_) AllReadyH.nil
        refine step_appendO (by rfl) HRO.out HCU.out HUO.out HUL.out (Nat.zero_le _) rfl rfl rfl ?_
        intro v8 w8 hrow8 hm8 hn8
        obtain ⟨a8, c8, e8, -⟩ := hrow8.sli
        obtain ⟨n8, hn8'⟩ : ∃ n8, (us ++ [Value.slice ua n uc]).length = n8 := ⟨_, rfl⟩
        rw [hn8'] at e8
        subst e8
        have hpp := PutR.put HI.out HNN.out HB2.out HU.out HXX.out HB3.out hrow8 hm8 hn8 HM.out
        have k8 := hpp.2.1
        have f8 := hpp.2.2
        have HPP := hid hpp.1
        clear hrow8 hm8 hn8 hn8' hpp
        refine hK.out _ _ (trivial) (fun hHeld => ?_)
        clear hK K
        try simp only [Act.put, List.getElem_toArray, List.getElem_cons_succ, List.getElem_cons_zero, List.setIfInBounds_toArray, List.set_cons_zero, List.set_cons_succ]
        refine wpAnyH_ready (rs := [9]) (by kernel_rfl) (by simp) ?_
        refine AllReadyH.cons (o := _) rfl (fun K hK => ?_) AllReadyH.nil
        go_simp
        refine hK.out _ _ (trivial) (fun hHeld => ?_)
        clear hK K
        try simp only [Act.put, List.getElem_toArray, List.getElem_cons_succ, List.getElem_cons_zero, List.setIfInBounds_toArray, List.set_cons_zero, List.set_cons_succ]
        refine wpAnyH_ready (rs := [10]) (by kernel_rfl) (by simp) ?_
        refine AllReadyH.cons (o := _) rfl (fun K hK => ?_) AllReadyH.nil
        go_simp
        refine hK.out _ _ (trivial) (fun hHeld => ?_)
        clear hK K
        try simp only [Act.put, List.getElem_toArray, List.getElem_cons_succ, List.getElem_cons_zero, List.setIfInBounds_toArray, List.set_cons_zero, List.set_cons_succ]
        refine wpAnyH_ready (rs := [11]) (by kernel_rfl) (by simp) ?_
        refine AllReadyH.cons (o := _) rfl (fun K hK => ?_) AllReadyH.nil
        go_simp
        refine hK.out _ _ (trivial) (fun hHeld => ?_)
        clear hK K
        try simp only [Act.put, List.getElem_toArray, List.getElem_cons_succ, List.getElem_cons_zero, List.setIfInBounds_toArray, List.set_cons_zero, List.set_cons_succ]
        refine wpAnyH_done (by kernel_rfl) ?_ _
        go_wp2_with fail
        go_meet
        exact ⟨_, by rw [HD.out]; exact HPP.out⟩
  case rest =>
  obtain ⟨wv', hput⟩ := hcut
  have HP := hid hput
  clear hput
  go_wp2_with fail
  go_ret
  exact ⟨wv', by rw [HC.out]; rfl, by rw [HMM.out]; exact HP.out⟩
end Go.Proofs.Ytidohmpnefcpcaa

namespace Go.Proofs.Ytidohmpnefcpcaa
open Go.RowKit
/-! ### window: Ack -/
def ackN (d : SndD) (upto : Nat) : Nat := if upto < d.base ∨ d.base + d.wait.length ≤ upto then 0 else upto - d.base + 1
def ackD (d : SndD) (upto : Nat) : SndD :=
  if upto < d.base ∨ d.base + d.wait.length ≤ upto then d
  else { d with base := upto + 1, wait := d.wait.drop (upto - d.base + 1), told := d.told / 2 ^ min (upto - d.base + 1) 32, ever := d.ever / 2 ^ min (upto - d.base + 1) 32 }
theorem run_fromO {a : Option Addr} {n c k : Nat} (h : k ≤ n) (W : World) : (Instr.slice 22 (.slice a n c) (some (.int .i64 k)) none none).run Try.prog W = .ok (.slice (if c = k then a else a.map (·.add (k * 1))) (n - k) (c - k)) W := by
  have hs : ∀ W, (sizeOf 32).run Try.prog W = .ok 1 W := fun W => Try.sizeOf32 W
  simp [Instr.slice, run_underlying Try.underlying22, Instr.sliceBounds, run_sliceBound, hs, Result.andThen, h]
set_option maxRecDepth 100000 in
set_option maxHeartbeats 6400000 in
theorem wack_any {w : World} {N : Nat → Prop} {s upto : Nat} {wv : Value} {us : List Value} {d : SndD} (h : SndIs w N s wv us d) (hup : upto < 18446744073709551616) (hb : d.base ≤ 4611686018427387904) :
    Calls Try.prog 37 #[.pointer (some ⟨s, 0, none⟩), .int .u64 upto] w fun e w' => ∃ wv' us', e = .returned (.int .i64 (ackN d upto)) ∧ SndIs w' N s wv' us' (ackD d upto) ∧ Mut (fun b => b = s) w w' ∧ ∀ g, wv'.ownBlock = some g → wv.ownBlock = some g := by
  obtain ⟨a, c, hlit, hlc⟩ := h.lit
  subst hlit
  obtain ⟨c0, c1, c2, c3, -, -, hfz⟩ := h.box
  have f0 := hfz 0
  have f1 := hfz 1
  have f2 := hfz 2
  have f3 := hfz 3
  have hl := h.bl
  by_cases h1 : upto < d.base
  · have t1 : decide ((upto : Int) < (d.base : Int)) = true := decide_eq_true (by omega)
    have t2 : decide (upto < d.base) = true := decide_eq_true h1
    have HA : Hid (ackN d upto = 0) := hid (by unfold ackN; rw [if_pos (.inl h1)])
    have HD : Hid (ackD d upto = d) := hid (by unfold ackD; rw [if_pos (.inl h1)])
    have HI := hid h
    clear h h1 c1 c2 c3 f0 f1 f2 f3 hfz
    go_enter Try.func37, Try.ntmps37
    go_wp2_with fail
    go_ret
    exact ⟨_, us, by rw [HA.out]; rfl, by rw [HD.out]; exact HI.out, Mut.refl _ _, fun g e => e⟩
  have t1 : decide ((upto : Int) < (d.base : Int)) = false := decide_eq_false (by omega)
  have t2 : decide (upto < d.base) = false := decide_eq_false h1
  have CN := wnext_any h
  obtain ⟨nx, hnx⟩ : ∃ nx, d.base + d.wait.length = nx := ⟨_, rfl⟩
  rw [hnx] at CN
  by_cases h2 : nx ≤ upto
  · have t3 : decide ((upto : Int) ≥ (nx : Int)) = true := decide_eq_true (by omega)
    have t4 : decide ((nx : Int) ≤ (upto : Int)) = true := decide_eq_true (by omega)
    have t5 : decide (nx ≤ upto) = true := decide_eq_true h2
    have HA : Hid (ackN d upto = 0) := hid (by unfold ackN; rw [if_pos (.inr (by omega))])
    have HD : Hid (ackD d upto = d) := hid (by unfold ackD; rw [if_pos (.inr (by omega))])
    have HI := hid h
    have CN := hid CN
    clear h h1 h2 c1 c2 c3 f0 f1 f2 f3 hfz hnx
    go_enter Try.func37, Try.ntmps37
    go_wp2_with fail
    (refine CN.out.mono ?_)
    rintro e w2 ⟨rfl, hb2⟩
    have HB2 := hid hb2
    clear hb2 c0 CN
    go_wp2_with fail
    go_ret
    exact ⟨_, us, by rw [HA.out]; rfl, by rw [HD.out]; exact HI.out.ext HB2.out, Mut.of_below HB2.out, fun g e => e⟩
  have t3 : decide ((upto : Int) ≥ (nx : Int)) = false := decide_eq_false (by omega)
  have t4 : decide ((nx : Int) ≤ (upto : Int)) = false := decide_eq_false (by omega)
  have t5 : decide (nx ≤ upto) = false := decide_eq_false h2
  obtain ⟨k, hk⟩ : ∃ k, upto - d.base + 1 = k := ⟨_, rfl⟩
  have hkn : k ≤ d.wait.length := by omega
  have HA : Hid (ackN d upto = k) := hid (by unfold ackN; rw [if_neg (by omega), hk])
  have HD : Hid (ackD d upto = { d with base := upto + 1, wait := d.wait.drop k, told := d.told / 2 ^ min k 32, ever := d.ever / 2 ^ min k 32 }) := hid (by unfold ackD; rw [if_neg (by omega), hk])
  have U := run_fromO (a := a) (n := d.wait.length) (c := c) hkn
  have hrow := h.row
  rw [← h.it.1] at hrow
  have hdrop := hrow.drop (k := k) (by rw [h.it.1]; exact hkn)
  rw [h.it.1] at hdrop
  have i1 : IntKind.u64.wrap ((upto : Int) - (d.base : Int)) = (upto : Int) - (d.base : Int) := by rw [IntKind.wrap_u64]; omega
  have i2 : IntKind.u64.wrap ((upto : Int) - (d.base : Int) + 1) = (k : Int) := by rw [IntKind.wrap_u64]; omega
  have i3 : IntKind.i64.wrap (k : Int) = (k : Int) := by rw [IntKind.wrap_i64] <;> omega
  have i4 : IntKind.u64.wrap ((upto : Int) + 1) = (upto : Int) + 1 := by rw [IntKind.wrap_u64]; omega
  have i5 : IntKind.u64.wrap (k : Int) = (k : Int) := by rw [IntKind.wrap_u64]; omega
  have HI := hid h
  have CN := hid CN
  have HB : Hid (upto + 1 < 9223372036854775808) := hid (by omega)
  have HK : Hid (k ≤ d.wait.length) := hid hkn
  obtain ⟨n, hn⟩ : ∃ n, d.wait.length = n := ⟨_, rfl⟩
  rw [hn] at U c1 hlc hdrop
  have HN := hid hn
  have hblk : ∀ g, (Value.slice (if c = k then a else a.map (·.add (k * 1))) (n - k) (c - k)).ownBlock = some g → (Value.slice a n c).ownBlock = some g := fun g e => by
    cases a with
    | none => simp at e; cases e
    | some b =>
      split at e
      · exact e
      · rcases h.row with ⟨e3, -⟩ | ⟨g3, off3, cap3, e3, -⟩
        · injection e3 with e4; cases e4
        · injection e3 with e4; cases e4
          rw [Option.map_some, Addr.add_lit] at e
          exact e
  obtain ⟨a', ha'⟩ : ∃ a', (if c = k then a else a.map (·.add (k * 1))) = a' := ⟨_, rfl⟩
  obtain ⟨n', hn'⟩ : ∃ n', n - k = n' := ⟨_, rfl⟩
  obtain ⟨c', hc'⟩ : ∃ c', c - k = c' := ⟨_, rfl⟩
  rw [ha', hn', hc'] at U hdrop hblk
  have HDROP := hid hdrop
  have HBLK := hid hblk
  clear h h1 h2 hnx hk hkn ha' hn' hc' hblk hdrop hrow hl
  go_enter Try.func37, Try.ntmps37
  go_wp2_with fail
  (refine CN.out.mono ?_)
  rintro e w2 ⟨rfl, hb2⟩
  have HB2 := hid hb2
  obtain ⟨c0', c1', c2', c3', -, -, hfz'⟩ := (HI.out.ext hb2).box
  have f0' := hfz' 0
  have f1' := hfz' 1
  have f2' := hfz' 2
  have f3' := hfz' 3
  clear hb2 c0 c1 c2 c3 f0 f1 f2 f3 hfz CN
  go_wp2_with fail
  go_ret
  have h2 := HI.out.ext HB2.out
  have hm : Mut (fun b => b = s) w2 ((((w2.setCell ⟨s, 0, none⟩ (.int .u64 ((upto : Int) + 1))).setCell ⟨s, 1, none⟩ (.slice a' n' c')).setCell ⟨s, 2, none⟩ (.int .u32 ((d.told : Int) / 2 ^ min k 32))).setCell ⟨s, 3, none⟩ (.int .u32 ((d.ever : Int) / 2 ^ min k 32))) := ((mut1.trans mut1).trans mut1).trans mut1
  have e1 : ((d.told : Int) / 2 ^ min k 32) = ((d.told / 2 ^ min k 32 : Nat) : Int) := by simp
  have e2 : ((d.ever : Int) / 2 ^ min k 32) = ((d.ever / 2 ^ min k 32 : Nat) : Int) := by simp
  have e0 : ((upto : Int) + 1) = ((upto + 1 : Nat) : Int) := by omega
  have hbx := (((h2.box.set0 (.int .u64 ((upto : Int) + 1))).set1 (.slice a' n' c')).set2 (.int .u32 ((d.told : Int) / 2 ^ min k 32))).set3 (.int .u32 ((d.ever : Int) / 2 ^ min k 32))
  refine ⟨.slice a' n' c', us.drop k, by rw [HA.out]; rfl, ?_, (Mut.of_below HB2.out).trans hm, fun g e => by rw [HN.out]; exact HBLK.out g e⟩
  rw [HD.out]
  refine ⟨?_, (HDROP.out.ext HB2.out).mutN hm fun g e e2 => (h2.nw g (by rw [HN.out]; exact HBLK.out g e)).2 e2, (h2.it.drop k).mut hm fun b _ e => ?_, h2.ns, fun g e => h2.nw g (by rw [HN.out]; exact HBLK.out g e), HB.out, ?_, ?_, h2.b4, h2.b5, ?_⟩
  · rw [e0, e1, e2] at hbx ⊢
    exact hbx
  · have e : b = s := e
    rw [e]; exact h2.ns
  · exact Nat.lt_of_le_of_lt (Nat.div_le_self _ _) h2.b2
  · exact Nat.lt_of_le_of_lt (Nat.div_le_self _ _) h2.b3
  · show (d.wait.drop k).length ≤ 128
    rw [List.length_drop]; have := h2.bl; omega
end Go.Proofs.Ytidohmpnefcpcaa

namespace Go.Proofs.Ytidohmpnefcpcaa
open Go.RowKit
/-! ### own rows of elements of several cells; what is due -/
/-- a slice value that owns a row of elements of k cells each -/
structure OwnK (w : World) (base : Nat) (e : TypeId) (k : Nat) (v : Value) (xs : List (List Value)) : Prop where
  row : w.ownsRow base e k v xs.length xs.flatten
  el : ∀ x ∈ xs, x.length = k ∧ ∀ u ∈ x, u.oneCell' = true
section
variable {w w' : World} {base k : Nat} {e : TypeId} {v : Value} {xs : List (List Value)}
theorem OwnK.nil (w : World) (base : Nat) (e : TypeId) (k : Nat) : OwnK w base e k (.slice none 0 0) [] := ⟨World.ownsRow_nil _ _ _ _, fun x h => by simp at h⟩
theorem OwnK.blk (h : OwnK w base e k v xs) {g : Nat} (hg : v.ownBlock = some g) : base ≤ g ∧ g < w.heap.size := World.ownsRow.lt h.row g hg
theorem OwnK.sli (h : OwnK w base e k v xs) : ∃ a c, v = .slice a xs.length c ∧ xs.length ≤ c := by
  rcases h.row.2 with ⟨rfl, hn⟩ | ⟨g, cap, cur, rfl, -, -, h1, -⟩
  · exact ⟨_, _, by rw [hn], by omega⟩
  · exact ⟨_, _, rfl, h1⟩
theorem OwnK.mut {G : Nat → Prop} (h : OwnK w base e k v xs) (hm : Mut G w w') (hG : ∀ g, v.ownBlock = some g → ¬ G g) : OwnK w' base e k v xs := by
  refine ⟨⟨h.row.1, ?_⟩, h.el⟩
  rcases h.row.2 with hn | ⟨g, cap, cur, rfl, hbb, hgg, rest⟩
  · exact .inl hn
  · exact .inr ⟨g, cap, cur, rfl, hbb, (hm.block g (Array.getElem?_eq_some_iff.1 hgg).1 (hG g rfl)).trans hgg, rest⟩
theorem OwnK.ext (h : OwnK w base e k v xs) (hb : Below w.heap.size w w') : OwnK w' base e k v xs := h.mut (Mut.of_below (F := fun _ => False) hb) fun _ _ e => e
theorem OwnK.mono {b' : Nat} (h : OwnK w base e k v xs) (hb : b' ≤ base) : OwnK w b' e k v xs := by
  refine ⟨⟨h.row.1, ?_⟩, h.el⟩
  rcases h.row.2 with hn | ⟨g, cap, cur, rfl, hbb, rest⟩
  · exact .inl hn
  · exact .inr ⟨g, cap, cur, rfl, by omega, rest⟩
theorem flatten_get {xs : List (List Value)} {k : Nat} (h : ∀ x ∈ xs, x.length = k) : ∀ {i j : Nat} {x : List Value} {u : Value}, xs[i]? = some x → x[j]? = some u → xs.flatten[i * k + j]? = some u := by
  induction xs with
  | nil => intro i j x u hi; simp at hi
  | cons y l ih =>
    intro i j x u hi hj
    have hy := h y (by simp)
    cases i with
    | zero =>
      simp at hi; subst hi
      have : j < y.length := (List.getElem?_eq_some_iff.1 hj).1
      rw [List.flatten_cons, Nat.zero_mul, Nat.zero_add, List.getElem?_append_left this]; exact hj
    | succ i =>
      rw [List.flatten_cons, List.getElem?_append_right (by rw [hy, Nat.add_mul]; omega), hy, show (i + 1) * k + j - k = i * k + j by rw [Nat.add_mul]; omega]
      exact ih (fun x hx => h x (by simp [hx])) (by simpa using hi) hj
theorem OwnK.at (h : OwnK w base e k v xs) {i : Nat} {x : List Value} (hi : xs[i]? = some x) : ∃ g c, v = .slice (some ⟨g, 0, none⟩) xs.length c ∧ base ≤ g ∧ g < w.heap.size ∧ ∀ j u, x[j]? = some u → w.cell? ⟨g, i * k + j, none⟩ = some u := by
  have hcells := fun g => World.ownsRow.cells (g := g) h.row
  have hlt := (List.getElem?_eq_some_iff.1 hi).1
  rcases h.row.2 with ⟨rfl, hn⟩ | ⟨g, cap, cur, rfl, hb, hg, hnc, -⟩
  · omega
  · refine ⟨g, cap, rfl, hb, (Array.getElem?_eq_some_iff.1 hg).1, fun j u hj => ?_⟩
    have := hcells g rfl _ _ (flatten_get (fun x hx => (h.el x hx).1) hi hj)
    rw [addr_add, Nat.zero_add] at this
    exact this
/-- one element more, out of a box of its own -/
theorem OwnK.append (h : OwnK w base e k v xs) {P : Program} (t ty : TypeId) (i : TypeInfo) (z : Value) (bytes : Nat) (ht : P.underlying t = some (.slice e)) (hi : P.info? e = some i) (hz : i.zero = some z) (hsize : i.size = k) (hby : i.bytes = bytes) (hzs : z.cells.size = k) (hk : 0 < k)
    {b c : Nat} {x : List Value} (hx : x.length = k) (h1 : ∀ u ∈ x, u.oneCell' = true) (hc : ∀ j u, x[j]? = some u → w.cell? ⟨b, j, none⟩ = some u) (hl : xs.length + 1 ≤ 1000000) (hbt : bytes ≤ 1000) (hbase : base ≤ w.heap.size) :
    ∃ v' w', (Builtin.append_ #[t, t] ty #[v, .slice (some ⟨b, 0, none⟩) 1 c]).run P w = .ok v' w' ∧ OwnK w' base e k v' (xs ++ [x]) ∧ Mut (fun g => v.ownBlock = some g) w w' ∧ (∀ g, v'.ownBlock = some g → v.ownBlock = some g ∨ w.heap.size ≤ g) ∧ v' ≠ .slice none 0 0 := by
  have hby2 : (xs.length + 1) * bytes ≤ 140737488355328 := Nat.le_trans (Nat.mul_le_mul hl hbt) (by decide)
  obtain ⟨v', w', hr, h2, h3, h4, h5⟩ := run_append_own_at (P := P) w base t ty e i z k bytes ht hi hz hsize hby hzs hk v xs.length xs.flatten h.row ⟨b, 0, none⟩ 1 c x (by omega) (fun j u hj => by rw [addr_add, Nat.zero_add]; exact hc j u hj) h1 (by unfold maxLen; omega) hby2 hbase
  refine ⟨v', w', hr, ⟨by simpa using h2, fun y hy => ?_⟩, ⟨h3.os, h3.tape, h3.output, h3.size, fun q hq hf => h3.block q hq fun e => hf e.symm⟩, fun g hg => ?_, fun e => ?_⟩
  · rcases List.mem_append.1 hy with hy | hy
    · exact h.el y hy
    · rw [List.mem_singleton.1 hy]; exact ⟨hx, h1⟩
  · rcases h5 with h5 | h5
    · exact .inl (by rw [← h5]; exact hg)
    · rw [h5] at hg; cases hg; exact .inr (Nat.le_refl _)
  · exact absurd (h4.1 e).2 (by decide)
end
/-! the bits -/
theorem testBit_and {a i : Nat} : ((a / 2 ^ i) &&& 1 = 0) = (a.testBit i = false) := by
  rw [Nat.and_one_is_mod]
  have h := Nat.testBit_eq_decide_div_mod_eq (x := a) (i := i)
  rw [h]
  have : a / 2 ^ i % 2 < 2 := Nat.mod_lt _ (by decide)
  by_cases h2 : a / 2 ^ i % 2 = 1
  · simp [h2]
  · have h3 : a / 2 ^ i % 2 = 0 := by omega
    simp [h3]
def dueStep (d : SndD) (i : Nat) : SndD :=
  if d.ever.testBit i then { d with told := d.told ||| 2 ^ i, more := (IntKind.u64.wrap ((d.more : Int) + 1)).toNat }
  else { d with told := d.told ||| 2 ^ i, ever := d.ever ||| 2 ^ i, once := (IntKind.u64.wrap ((d.once : Int) + 1)).toNat }
/-- what is due from place i on, f places -/
def dueL : Nat → Nat → SndD → List Nat
  | 0, _, _ => []
  | f + 1, i, d => if d.told.testBit i then dueL f (i + 1) d else i :: dueL f (i + 1) (dueStep d i)
def dueE : Nat → Nat → SndD → SndD
  | 0, _, d => d
  | f + 1, i, d => if d.told.testBit i then dueE f (i + 1) d else dueE f (i + 1) (dueStep d i)
def itemD (d : SndD) (i : Nat) : Nat × List Nat := (d.base + i, d.wait.getD i [])
def dueI (d : SndD) : List (Nat × List Nat) := (dueL (min d.wait.length 16) 0 d).map (itemD d)
def dueD (d : SndD) : SndD := dueE (min d.wait.length 16) 0 d
theorem dueStep_base (d : SndD) (i : Nat) : (dueStep d i).base = d.base ∧ (dueStep d i).wait = d.wait := by unfold dueStep; split <;> exact ⟨rfl, rfl⟩
theorem dueE_base : ∀ (f i : Nat) (d : SndD), (dueE f i d).base = d.base ∧ (dueE f i d).wait = d.wait
  | 0, _, _ => ⟨rfl, rfl⟩
  | f + 1, i, d => by
    unfold dueE; split
    · exact dueE_base f (i + 1) d
    · have h1 := dueE_base f (i + 1) (dueStep d i)
      have h2 := dueStep_base d i
      exact ⟨h1.1.trans h2.1, h1.2.trans h2.2⟩
/-- elements whose last cell is a text that stays -/
def ElsAt (w : World) (N : Nat → Prop) (xs : List (List Value)) (ps : List (List Value × List Nat)) : Prop :=
  xs.length = ps.length ∧ ∀ k (h : k < ps.length), ∃ u, xs[k]? = some (ps[k].1 ++ [u]) ∧ ItemAt w N u ps[k].2
theorem ElsAt.nil (w : World) (N : Nat → Prop) : ElsAt w N [] [] := ⟨rfl, fun k h => by simp at h⟩
theorem ElsAt.mut {w w' : World} {N G : Nat → Prop} {xs : List (List Value)} {ps : List (List Value × List Nat)} (h : ElsAt w N xs ps) (hm : Mut G w w') (hG : ∀ b, b < w.heap.size → G b → N b) : ElsAt w' N xs ps :=
  ⟨h.1, fun k hk => by obtain ⟨u, h1, h2⟩ := h.2 k hk; exact ⟨u, h1, h2.mut hm hG⟩⟩
theorem ElsAt.grow {w : World} {N N' : Nat → Prop} {xs : List (List Value)} {ps : List (List Value × List Nat)} (h : ElsAt w N xs ps) (hN : ∀ b, N' b → N b ∨ w.heap.size ≤ b) : ElsAt w N' xs ps :=
  ⟨h.1, fun k hk => by obtain ⟨u, h1, h2⟩ := h.2 k hk; exact ⟨u, h1, h2.grow hN⟩⟩
theorem ElsAt.snoc {w : World} {N : Nat → Prop} {xs : List (List Value)} {ps : List (List Value × List Nat)} {u : Value} {q : List Value} {bs : List Nat} (h : ElsAt w N xs ps) (hu : ItemAt w N u bs) : ElsAt w N (xs ++ [q ++ [u]]) (ps ++ [(q, bs)]) := by
  refine ⟨by simp [h.1], fun k hk => ?_⟩
  by_cases hlt : k < ps.length
  · obtain ⟨x, h1, h2⟩ := h.2 k hlt
    exact ⟨x, by rw [List.getElem?_append_left (by rw [h.1]; exact hlt), List.getElem_append_left hlt]; exact h1, by rw [List.getElem_append_left hlt]; exact h2⟩
  · have hk2 : k = ps.length := by simp at hk; omega
    subst hk2
    refine ⟨u, by rw [List.getElem?_append_right (by rw [h.1]; exact Nat.le_refl _), h.1]; simp, ?_⟩
    rw [List.getElem_append_right (Nat.le_refl _)]
    simpa using hu
def itemC (p : Nat × List Nat) : List Value × List Nat := ([.int .u64 p.1], p.2)
end Go.Proofs.Ytidohmpnefcpcaa

