/- Parts of the proof: X21 X9 X10 X11. -/
import Derived.Defers
import Derived.WalkSpells
import Derived.Lib.Bytes
import Derived.Test.YtbpfhclcjedkcaaSm1
import Derived.Test.YtbpfhclcjedkcaaSm5
import Derived.Test.YtbpfhclcjedkcaaSm6
namespace Go.Proofs.Ytbpfhclcjedkcaa
open Go.RowKit

/-! ### bytes.Equal, cmd.counted, pid.May; a command in its box -/
def numsB (bs : List Nat) : List Int := bs.map fun b : Nat => Int.ofNat b
theorem bytesOf_inj : ∀ {xs ys : List Nat}, (∀ b ∈ xs, b < 256) → (∀ b ∈ ys, b < 256) → (Lib.bytesOf (numsB xs) = Lib.bytesOf (numsB ys) ↔ xs = ys)
  | [], [], _, _ => by simp
  | x :: xs, [], _, _ => by simp [Lib.bytesOf, numsB]
  | [], y :: ys, _, _ => by simp [Lib.bytesOf, numsB]
  | x :: xs, y :: ys, hx, hy => by
    have ih := bytesOf_inj (xs := xs) (ys := ys) (fun b hb => hx b (by simp [hb])) (fun b hb => hy b (by simp [hb]))
    have h1 := hx x (by simp)
    have h2 := hy y (by simp)
    have hu : UInt8.ofNat x = UInt8.ofNat y ↔ x = y := by
      constructor
      · intro h
        have := congrArg UInt8.toNat h
        simp at this
        omega
      · rintro rfl; rfl
    simp only [Lib.bytesOf, numsB, List.map_cons, List.cons.injEq, Int.toNat_natCast, Int.ofNat_eq_natCast] at ih ⊢
    rw [hu, ih]
theorem run_conv_byte {a : Option Addr} {c n : Nat} {xs : List Nat} {w : World} (hn : xs.length = n) (hx : ByteRow w a xs) :
    (convert 42 9 (.slice a n c)).run Try.prog w = .ok (.string (strOfNums (numsB xs))) w := by
  have hs : Try.prog.underlying 42 = some (.slice 5) := by kernel_rfl
  have he : Try.prog.underlying 5 = some (.int .u8) := by kernel_rfl
  have hd : Try.prog.underlying 9 = some .string := by kernel_rfl
  subst hn
  rcases hx with rfl | ⟨b, off, rfl, hlt, hc⟩
  · rw [show strOfNums (numsB []) = ByteArray.empty from rfl, List.length_nil]
    rw [run_convert_bytes_string w 42 9 5 _ 0 c hs he hd]
    cases a <;> simp [Conv.bytesToString, loadCells]
    all_goals rfl
  · exact run_convert_bytes_arg (P := Try.prog) w 42 5 hs he b off xs.length c (numsB xs) (by simp [numsB]) (fun i hi => by rw [hc i hi]; simp [numsB, List.getD, List.getElem?_eq_getElem hi]) 9 hd

set_option maxRecDepth 100000 in
set_option maxHeartbeats 800000 in
theorem bEqual_any {a b : Option Addr} {ca cb n m : Nat} {xs ys : List Nat} {w : World} (hn : Hid (xs.length = n)) (hm : Hid (ys.length = m)) (hbx : ∀ b ∈ xs, b < 256) (hby : ∀ b ∈ ys, b < 256) (hx : ByteRow w a xs) (hy : ByteRow w b ys) :
   Calls Try.prog 141 #[.slice a n ca, .slice b m cb] w fun e w' => e = .returned (.bool (decide (xs = ys))) ∧ w' = w := by
  have g1 := run_conv_byte (c := ca) hn.out hx
  have g2 := run_conv_byte (c := cb) hm.out hy
  have hr : ((strOfNums (numsB xs)).toList == (strOfNums (numsB ys)).toList) = decide (xs = ys) := by
    rw [Lib.strOfNums_toList, Lib.strOfNums_toList, Bool.eq_iff_iff]
    simp [bytesOf_inj hbx hby]
  have HR := hid hr
  clear hr hn hm hx hy hbx hby
  go_enter Try.func141, Try.ntmps141
  go_wp2
  go_ret
  exact ⟨ret_bool HR.out, rfl⟩
theorem bEqual_is {a b : Option Addr} {ca cb n m : Nat} {xs ys : List Nat} {w : World} {r : Bool} (h : Hid (decide (xs = ys) = r)) (hn : Hid (xs.length = n)) (hm : Hid (ys.length = m)) (hbx : ∀ b ∈ xs, b < 256) (hby : ∀ b ∈ ys, b < 256) (hx : ByteRow w a xs) (hy : ByteRow w b ys) :
   Calls Try.prog 141 #[.slice a n ca, .slice b m cb] w fun e w' => e = .returned (.bool r) ∧ w' = w := by
  have := bEqual_any (ca := ca) (cb := cb) (w := w) hn hm hbx hby hx hy
  rw [h.out] at this; exact this

set_option maxRecDepth 100000 in
set_option maxHeartbeats 800000 in
theorem counted_any (n : Nat) (w : World) : Calls Try.prog 186 #[.int .u64 n] w fun e w' => e = .returned (.bool (cntB n)) ∧ w' = w := by
  by_cases h1 : 1 ≤ n
  · have h1' : decide ((n : Int) ≥ 1) = true := by simp; omega
    have h1'' : decide ((1 : Int) ≤ n) = true := by simp; omega
    by_cases h2 : n ≤ 4611686018427387904
    · have h2' : decide ((n : Int) ≤ 4611686018427387904) = true := by simp; omega
      have HR : Hid (cntB n = true) := by unfold cntB Hid; simp [h1, h2]
      clear h1 h2
      go_enter Try.func186, Try.ntmps186
      go_wp2
      go_ret
      exact ⟨ret_bool HR.out.symm, rfl⟩
    · have h2' : decide ((n : Int) ≤ 4611686018427387904) = false := by simp; omega
      have HR : Hid (cntB n = false) := by unfold cntB Hid; simp [h1, h2]
      clear h1 h2
      go_enter Try.func186, Try.ntmps186
      go_wp2
      go_ret
      exact ⟨ret_bool HR.out.symm, rfl⟩
  · have h1' : decide ((n : Int) ≥ 1) = false := by simp; omega
    have h1'' : decide ((1 : Int) ≤ n) = false := by simp; omega
    have HR : Hid (cntB n = false) := by unfold cntB Hid; simp [h1]
    clear h1
    go_enter Try.func186, Try.ntmps186
    go_wp2
    go_ret
    exact ⟨ret_bool HR.out.symm, rfl⟩

set_option maxRecDepth 100000 in
set_option maxHeartbeats 800000 in
theorem mayP_any (x y : Int) (hy : 0 ≤ y) (w : World) : Calls Try.prog 105 #[.agg #[.int .u16 x, .int .u32 y]] w fun e w' => e = .returned (.bool (mayP (x, y))) ∧ Below w.heap.size w w' := by
  by_cases h1 : x < 16
  · have h1' : decide (x < 16) = true := by simpa using h1
    by_cases h2 : y = 0
    · have h2' : (y != 0) = false := by simp [h2]
      have HR : Hid (mayP (x, y) = false) := by unfold mayP Hid; simp [h1, h2]
      clear h1 h2 hy
      go_enter Try.func105, Try.ntmps105
      go_wp2
      go_ret
      exact ⟨ret_bool HR.out.symm, (Below.refl _ _).alloc (Nat.le_refl _) _⟩
    · have h2' : (y != 0) = true := by simp [h2]
      have HR : Hid (mayP (x, y) = true) := by unfold mayP Hid; simp [h1]; omega
      clear h1 h2 hy
      go_enter Try.func105, Try.ntmps105
      go_wp2
      go_ret
      exact ⟨ret_bool HR.out.symm, (Below.refl _ _).alloc (Nat.le_refl _) _⟩
  · have h1' : decide (x < 16) = false := by simpa using h1
    have HR : Hid (mayP (x, y) = false) := by unfold mayP Hid; simp [h1]
    clear h1 hy
    go_enter Try.func105, Try.ntmps105
    go_wp2
    go_ret
    exact ⟨ret_bool HR.out.symm, (Below.refl _ _).alloc (Nat.le_refl _) _⟩
end Go.Proofs.Ytbpfhclcjedkcaa

namespace Go.Proofs.Ytbpfhclcjedkcaa
open Go.RowKit
theorem ByteRow.nilA {w : World} {bs : List Nat} (h : ByteRow w none bs) : bs = [] := by
  rcases h with h | ⟨b, off, h, _⟩
  · exact h
  · cases h
set_option maxRecDepth 100000 in
set_option maxHeartbeats 800000 in
theorem cloneB_any {a : Option Addr} {c n : Nat} {bs : List Nat} {w : World} (hn : Hid (bs.length = n)) (hl : n ≤ 549755813888) (hrow : ByteRow w a bs) :
   Calls Try.prog 184 #[.slice a n c] w fun e w' => ∃ v, e = .returned v ∧ OwnB w' w.heap.size v bs ∧ Below w.heap.size w w' := by
  cases a with
  | none =>
    have hx := hrow.nilA
    subst hx
    have hn0 : n = 0 := hn.out.symm
    subst hn0
    have hnil : ∀ W, (binOp .eql 42 (.slice none 0 c) (.slice none 0 0)).run Try.prog W = .ok (.bool true) W := fun W => Lib.run_eql_slice_nil W 42 5 none 0 c 0 0 Try.underlying42
    go_enter Try.func184, Try.ntmps184
    go_wp2
    go_ret
    exact ⟨_, rfl, OwnB.nil _ _, Below.refl _ _⟩
  | some a =>
    have hnil : ∀ W, (binOp .eql 42 (.slice (some a) n c) (.slice none 0 0)).run Try.prog W = .ok (.bool false) W := fun W => Lib.run_eql_slice_nil W 42 5 (some a) n c 0 0 Try.underlying42
    have hown : OwnB (w.alloc (.cells #[] 5)) w.heap.size (.slice (some ⟨w.heap.size, 0, none⟩) 0 0) [] := World.ownsRow_made (w := w) #[] 0 (Nat.le_refl _) (by unfold maxLen; omega) (by simp)
    have hB : Below w.heap.size w (w.alloc (.cells #[] 5)) := (Below.refl _ _).alloc (Nat.le_refl _) _
    have hr1 := hrow.ext hB
    go_enter Try.func184, Try.ntmps184
    go_wp2_with (at_builtin; refine wpList_appendB hown hr1 hn ?cb ?cz rfl rfl rfl rfl ?_; rotate_right; intro v4 w4 hown4 hg4 hat4)
    case cb => simp; omega
    case cz => simp
    go_ret
    exact ⟨v4, rfl, by simpa using hown4, below_of_grown hB hg4 hown hB.size (Nat.le_refl _)⟩
theorem OwnB.cap {w : World} {base : Nat} {v : Value} {bs : List Nat} (h : OwnB w base v bs) : ∀ a n c, v = .slice a n c → bs.length ≤ c := by
  intro a n c e
  rcases h.2 with ⟨rfl, hn⟩ | ⟨g, cap, cur, rfl, hb, hg, hnc, _⟩
  · cases e; omega
  · cases e; exact hnc
/-- the writer behind a pointer -/
structure WrIs (w : World) (s : Nat) (v : Value) (bs : List Nat) : Prop where
  c : w.cell? ⟨s, 0, none⟩ = some v
  f : w.frozen? ⟨s, 0, none⟩ = false
  own : OwnB w (s + 1) v bs
theorem WrIs.lt {w : World} {s : Nat} {v : Value} {bs : List Nat} (h : WrIs w s v bs) : s < w.heap.size := World.block_lt_of_cell? w _ h.c
theorem WrIs.ext {w w' : World} {s : Nat} {v : Value} {bs : List Nat} (h : WrIs w s v bs) (hb : Below w.heap.size w w') : WrIs w' s v bs :=
  ⟨cell_toB h.c hb, (hb.frozen (by exact h.lt)).trans h.f, h.own.ext hb⟩
theorem WrIs.alloc {w : World} {s : Nat} {v : Value} {bs : List Nat} (h : WrIs w s v bs) (o : Obj) : WrIs (w.alloc o) s v bs := h.ext ((Below.refl _ _).alloc (Nat.le_refl _) _)
theorem WrIs.made (w : World) (t : TypeId) : WrIs (w.alloc (.cells #[.slice none 0 0] t)) w.heap.size (.slice none 0 0) [] := ⟨by simp, by simp, OwnB.nil _ _⟩
/-- what a call of the writer leaves -/
structure Wrote (w w' : World) (s : Nat) (v' : Value) (bs : List Nat) : Prop where
  wr : WrIs w' s v' bs
  own : OwnB w' w.heap.size v' bs
  mt : Mut (fun k => k = s) w w'
theorem mut_put {w w1 : World} {s : Nat} {v : Value} (hb : Below w.heap.size w w1) : Mut (fun k => k = s) w (w1.setCell ⟨s, 0, none⟩ v) :=
  (Mut.of_below hb).trans ⟨rfl, rfl, rfl, by simp, fun k _ hf => Below.heap_setCell _ _ _ _ (by exact hf)⟩
theorem wrote_put {w w1 : World} {s : Nat} {v v1 : Value} {bs bs1 : List Nat} (h : WrIs w s v bs) (hb : Below w.heap.size w w1) (hown : OwnB w1 w.heap.size v1 bs1) : Wrote w (w1.setCell ⟨s, 0, none⟩ v1) s v1 bs1 := by
  have h1 := h.ext hb
  have hs := h.lt
  have ho : OwnB (w1.setCell ⟨s, 0, none⟩ v1) w.heap.size v1 bs1 := hown.butT (t := s) (fun k hk => Below.heap_setCell _ _ _ _ hk) (fun e => by have := (World.ownsRow.lt hown s e.symm).1; omega)
  exact ⟨⟨World.cell?_setCell_same _ _ _ h1.c, by simp [h1.f], ho.mono (by omega)⟩, ho, mut_put hb⟩
theorem ByteRow.mutT {G : Nat → Prop} {w w' : World} {a : Option Addr} {bs : List Nat} (h : ByteRow w a bs) (hm : Mut G w w') (hne : ∀ b off, a = some ⟨b, off, none⟩ → bs ≠ [] → ¬ G b) : ByteRow w' a bs := by
  rcases h with rfl | ⟨b, off, rfl, hlt, hc⟩
  · exact .inl rfl
  · by_cases hl : bs = []
    · exact .inl hl
    · have hb := hm.block b hlt (hne b off rfl hl)
      exact .inr ⟨b, off, rfl, by have := hm.size; omega, fun i hi => (World.cell?_of_block (w := w) hb).trans (hc i hi)⟩
theorem wrote_more {w w1 w2 : World} {s : Nat} {v1 v2 : Value} {bs1 bs2 : List Nat} (h : Wrote w w1 s v1 bs1) (hs : s < w.heap.size) (hg : w1.grownBy w2 v1.ownBlock) (hown : OwnB w2 w.heap.size v2 bs2) : Wrote w (w2.setCell ⟨s, 0, none⟩ v2) s v2 bs2 := by
  have hs1 := h.wr.lt
  have hsb : w2.heap[s]? = w1.heap[s]? := hg.block s hs1 (fun e => by have := (World.ownsRow.lt h.own s e.symm).1; omega)
  have c2 : w2.cell? ⟨s, 0, none⟩ = some v1 := (World.cell?_of_block (w := w1) (a := ⟨s, 0, none⟩) hsb).trans h.wr.c
  have f2 : w2.frozen? ⟨s, 0, none⟩ = false := (World.frozen?_of_block (w := w1) (a := ⟨s, 0, none⟩) hsb).trans h.wr.f
  have ho : OwnB (w2.setCell ⟨s, 0, none⟩ v2) w.heap.size v2 bs2 := hown.butT (t := s) (fun k hk => Below.heap_setCell _ _ _ _ hk) (fun e => by have := (World.ownsRow.lt hown s e.symm).1; omega)
  refine ⟨⟨World.cell?_setCell_same _ _ _ c2, by simp [f2], ho.mono (by omega)⟩, ho, ?_⟩
  refine ⟨hg.os.trans h.mt.os, hg.tape.trans h.mt.tape, hg.output.trans h.mt.output, by have := hg.size; have := h.mt.size; simp; omega, fun k hk hf => ?_⟩
  rw [Below.heap_setCell _ _ _ _ (by exact hf), hg.block k (by have := h.mt.size; omega) (fun e => by have := (World.ownsRow.lt h.own k e.symm).1; omega), h.mt.block k hk hf]
set_option maxRecDepth 100000 in
set_option maxHeartbeats 1600000 in
theorem wNum_any {s : Nat} {v : Value} {bs : List Nat} {w : World} (m : Nat) (hW : WrIs w s v bs) (hl : bs.length ≤ 137438953472) (hm : m < 18446744073709551616) :
    Calls Try.prog 91 #[.pointer (some ⟨s, 0, none⟩), .int .u64 m] w fun e w' => e = .returned (.tuple #[]) ∧ ∃ v', Wrote w w' s v' (bs ++ short m) := by
  obtain ⟨a, c, rfl, hrow, -⟩ := hW.own.row
  obtain ⟨n, hn⟩ : ∃ n, bs.length = n := ⟨_, rfl⟩
  rw [hn] at hW hl
  have HW := hid hW
  have c0 := hW.c
  have HN := hid hn
  obtain ⟨F, hF⟩ : ∃ F, bs ++ short m = F := ⟨_, rfl⟩
  rw [hF]
  have HF := hid hF
  clear hn hW hF
  go_enter Try.func91, Try.ntmps91
  go_wp2_with (go_at_call 181; refine (putShort_is HF HN (by omega) hm hrow).mono ?_; rintro e w1 ⟨a1, k1, rfl, hown1, -, hb1⟩; have c1 := cell_toB c0 hb1; have f1 := (HW.out.ext hb1).f)
  exact bodyPost_end (results_none rfl _ _ _) rfl ⟨rfl, _, wrote_put HW.out hb1 hown1⟩
theorem pidPut_is {a : Option Addr} {c n : Nat} {bs F : List Nat} {w : World} {x y : Nat} (hF : Hid (bs ++ (short x ++ short y) = F)) (hn : Hid (bs.length = n)) (hl : n ≤ 137438953472) (hx : x < 65536) (hy : y < 4294967296) (hrow : ByteRow w a bs) :
    Calls Try.prog 182 #[.slice a n c, .agg #[.int .u16 x, .int .u32 y]] w fun e w' => ∃ v, e = .returned v ∧ OwnB w' w.heap.size v F ∧ Below w.heap.size w w' := by
  have := pidPut_any (c := c) x y hn hl hx hy hrow
  rw [hF.out] at this; exact this
set_option maxRecDepth 100000 in
set_option maxHeartbeats 3200000 in
theorem wPid_any {s : Nat} {v : Value} {bs : List Nat} {w : World} (x y : Nat) (hW : WrIs w s v bs) (hl : bs.length ≤ 68719476736) (hx : x < 65536) (hy : y < 4294967296) :
    Calls Try.prog 93 #[.pointer (some ⟨s, 0, none⟩), .agg #[.int .u16 x, .int .u32 y]] w fun e w' => e = .returned (.tuple #[]) ∧ ∃ v', Wrote w w' s v' (bs ++ (short x ++ short y)) := by
  have hB : Below w.heap.size w (w.alloc (.cells #[.int .u16 x, .int .u32 y] 26)) := (Below.refl _ _).alloc (Nat.le_refl _) _
  have hW1 := hW.ext hB
  obtain ⟨F, hF⟩ : ∃ F, bs ++ (short x ++ short y) = F := ⟨_, rfl⟩
  rw [hF]
  have HF := hid hF
  obtain ⟨a, c, rfl, hrow, -⟩ := hW1.own.row
  obtain ⟨n, hn⟩ : ∃ n, bs.length = n := ⟨_, rfl⟩
  rw [hn] at hW hW1 hl
  have HW := hid hW
  have HN := hid hn
  have c0 := hW1.c
  have hc0 : (w.alloc (.cells #[.int .u16 x, .int .u32 y] 26)).cell? ⟨w.heap.size, 0, none⟩ = some (.int .u16 x) := by simp
  have hc1 : (w.alloc (.cells #[.int .u16 x, .int .u32 y] 26)).cell? ⟨w.heap.size, 1, none⟩ = some (.int .u32 y) := by simp
  obtain ⟨w1, hw1⟩ : ∃ w1, w.alloc (.cells #[.int .u16 x, .int .u32 y] 26) = w1 := ⟨_, rfl⟩
  rw [hw1] at hB hW1 hrow c0 hc0 hc1
  have H0 : Below w1.heap.size w1 w1.drew := (Below.refl _ _).drew
  have d0 := cell_toB c0 H0
  have d1 := cell_toB hc0 H0
  have d2 := cell_toB hc1 H0
  have HW1 := hid hW1
  have C1 : Hid (∀ W, Below w1.heap.size w1 W → Calls Try.prog 182 #[.slice a n c, .agg #[.int .u16 x, .int .u32 y]] W fun e w' => ∃ v, e = .returned v ∧ OwnB w' w1.heap.size v F ∧ Below w1.heap.size w1 w') := hid fun W h => ((pidPut_is HF HN (by omega) hx hy (hrow.ext h)).mono fun e w' ⟨v, h1, h3, h4⟩ => ⟨v, h1, h3.mono h.size, h.trans (h4.mono h.size)⟩)
  clear hn hF hW hW1 c0 hc0 hc1 hrow
  go_enter Try.func93, Try.ntmps93
  go_wp2
  go_region_with ((go_at_call 182; (with_reducible refine (C1.out _ (by exact H0)).mono ?_); rintro e w11 ⟨v11, rfl, hown11, hb11⟩; obtain ⟨a11, k11, he11, -, -⟩ := hown11.row; subst he11; have c1 := (HW1.out.ext hb11).c; have f1 := (HW1.out.ext hb11).f))
  all_goals (
    go_wp2
    exact bodyPost_end (results_none rfl _ _ _) rfl ⟨rfl, _, wrote_put HW.out (hB.trans (hb11.mono hB.size)) (hown11.mono hB.size)⟩)
set_option maxRecDepth 100000 in
set_option maxHeartbeats 1600000 in
theorem wBytes_any {s : Nat} {v : Value} {bs : List Nat} {a : Option Addr} {c n : Nat} {ds : List Nat} {w : World} (hW : WrIs w s v bs) (hl : bs.length ≤ 68719476736) (hn : Hid (ds.length = n)) (hdl : n ≤ 68719476736) (hrow : ByteRow w a ds) (hne : ∀ b off, a = some ⟨b, off, none⟩ → ds ≠ [] → b ≠ s) :
    Calls Try.prog 98 #[.pointer (some ⟨s, 0, none⟩), .slice a n c] w fun e w' => e = .returned (.tuple #[]) ∧ ∃ v', Wrote w w' s v' (bs ++ (short n ++ ds)) := by
  have hln := short_len10 (n := n) (by omega)
  obtain ⟨F, hF⟩ : ∃ F, bs ++ short n = F := ⟨_, rfl⟩
  have hFl : F.length ≤ 68719476736 + 10 := by rw [← hF, List.length_append]; omega
  obtain ⟨E, hE⟩ : ∃ E, F ++ ds = E := ⟨_, rfl⟩
  have HF2 : Hid (bs ++ (short n ++ ds) = E) := hid (by rw [← hE, ← hF, List.append_assoc])
  have HE := hid hE
  have C1 : Hid (Calls Try.prog 91 #[.pointer (some ⟨s, 0, none⟩), .int .u64 n] w fun e w' => e = .returned (.tuple #[]) ∧ ∃ v', Wrote w w' s v' F) := hid (by rw [← hF]; exact wNum_any n hW (by omega) (by omega))
  have hs := hW.lt
  clear hF hE
  go_enter Try.func98, Try.ntmps98
  go_wp2_with (first
    | (go_at_call 91; refine C1.out.mono ?_; rintro e w1 ⟨rfl, v1, hw1⟩; obtain ⟨a1, k1, he1, -, -⟩ := hw1.own.row; subst he1; have c1 := hw1.wr.c; have hr1 := hrow.mutT hw1.mt (fun b off h1 h2 => hne b off h1 h2); have HR1 := hid hr1; clear hr1)
    | (at_builtin; refine wpList_appendB hw1.own HR1.out hn (by omega) (by have := hw1.mt.size; omega) rfl rfl rfl rfl ?_; intro v2 w2 hown2 hg2 hat2; rw [HE.out] at hown2; obtain ⟨a2, k2, he2, -, -⟩ := hown2.row; subst he2; have hz := wrote_more hw1 hs hg2 hown2; have hsb : w2.heap[s]? = w1.heap[s]? := hg2.block s hw1.wr.lt (fun e => by have := (World.ownsRow.lt hw1.own s e.symm).1; omega); have c2 := (World.cell?_of_block (w := w1) (a := ⟨s, 0, none⟩) hsb).trans c1; have f2 : w2.frozen? ⟨s, 0, none⟩ = false := (World.frozen?_of_block (w := w1) (a := ⟨s, 0, none⟩) hsb).trans hw1.wr.f; have HZ := hid hz; clear hz hsb))
  exact bodyPost_end (results_none rfl _ _ _) rfl ⟨rfl, _, by rw [HF2.out]; exact HZ.out⟩
end Go.Proofs.Ytbpfhclcjedkcaa

namespace Go.Proofs.Ytbpfhclcjedkcaa
open Go.RowKit
theorem PidRow.mutT {G : Nat → Prop} {w w' : World} {a : Option Addr} {l : List Pid} (h : PidRow w a l) (hm : Mut G w w') (hne : ∀ b off, a = some ⟨b, off, none⟩ → l ≠ [] → ¬ G b) : PidRow w' a l := by
  rcases h with rfl | ⟨b, off, rfl, hlt, hc⟩
  · exact .inl rfl
  · by_cases hl : l = []
    · exact .inl hl
    · have hb := hm.block b hlt (hne b off rfl hl)
      exact .inr ⟨b, off, rfl, by have := hm.size; omega, fun i hi => ⟨(World.cell?_of_block (w := w) hb).trans (hc i hi).1, (World.cell?_of_block (w := w) hb).trans (hc i hi).2⟩⟩
theorem Wrote.trans {w w1 w1' w2 : World} {s : Nat} {v1 v2 : Value} {b1 b2 : List Nat} (h : Wrote w w1 s v1 b1) (hb : Below w1.heap.size w1 w1') (h2 : Wrote w1' w2 s v2 b2) : Wrote w w2 s v2 b2 :=
  ⟨h2.wr, h2.own.mono (Nat.le_trans h.mt.size hb.size), (h.mt.trans (Mut.of_below hb)).trans h2.mt⟩
theorem pidF_nat (x y : Nat) : pidF ((x : Int), (y : Int)) = short x ++ short y := by simp [pidF]
theorem pidF_len {p : Pid} (h : okP p) : (pidF p).length ≤ 20 := by
  have h1 := short_len10 (n := p.1.toNat) (by have := h.2.1; have := h.1; omega)
  have h2 := short_len10 (n := p.2.toNat) (by have := h.2.2.2; omega)
  unfold pidF; rw [List.length_append]; omega
theorem flat_pidF_len : ∀ {l : List Pid}, (∀ p ∈ l, okP p) → (l.flatMap pidF).length ≤ l.length * 20
  | [], _ => by simp
  | p :: l, h => by
    have h1 := pidF_len (h p (List.mem_cons_self ..))
    have h2 := flat_pidF_len (l := l) (fun q hq => h q (List.mem_cons_of_mem _ hq))
    rw [List.flatMap_cons, List.length_append, List.length_cons]; omega
theorem take_flat {l : List Pid} {k : Nat} (h : k < l.length) {p : Pid} (hp : p = l[k]) : (l.take (k + 1)).flatMap pidF = (l.take k).flatMap pidF ++ pidF p := by
  rw [List.take_succ_eq_append_getElem h, List.flatMap_append, hp]; simp
theorem nat_pid {x y : Int} (h : okP (x, y)) : ∃ x' y' : Nat, x = (x' : Int) ∧ y = (y' : Int) ∧ x' < 65536 ∧ y' < 4294967296 := by
  obtain ⟨h1, h2, h3, h4⟩ := h
  exact ⟨x.toNat, y.toNat, by simp at *; omega, by simp at *; omega, by simp at *; omega, by simp at *; omega⟩
set_option maxRecDepth 100000 in
set_option maxHeartbeats 1600000 in
theorem wPids_any {s : Nat} {v : Value} {bs : List Nat} {a : Option Addr} {c n : Nat} {l : List Pid} {w : World} (hW : WrIs w s v bs) (hl : bs.length ≤ 34359738368) (hn : Hid (l.length = n)) (hnl : n ≤ 1073741824) (hok : ∀ p ∈ l, okP p) (hrow : PidRow w a l) (hne : ∀ b off, a = some ⟨b, off, none⟩ → l ≠ [] → b ≠ s) :
    Calls Try.prog 122 #[.pointer (some ⟨s, 0, none⟩), .slice a n c] w fun e w' => e = .returned (.tuple #[]) ∧ ∃ v', Wrote w w' s v' (bs ++ pidsF l) := by
  have hln := short_len10 (n := n) (by omega)
  have C1 : Hid (Calls Try.prog 91 #[.pointer (some ⟨s, 0, none⟩), .int .u64 n] w fun e w' => e = .returned (.tuple #[]) ∧ ∃ v', Wrote w w' s v' (bs ++ short n)) := hid (wNum_any n hW (by omega) (by omega))
  have hs := hW.lt
  have HOK := hid hok
  have hfl := flat_pidF_len hok
  have HROW := hid hrow
  have HNE := hid hne
  obtain ⟨B, hB⟩ : ∃ B, bs ++ short n = B := ⟨_, rfl⟩
  have hBl : B.length ≤ 34359738378 := by rw [← hB, List.length_append]; omega
  have HE : Hid (bs ++ pidsF l = B ++ l.flatMap pidF) := hid (by unfold pidsF; rw [hn.out, ← hB, List.append_assoc])
  rw [hB] at C1
  clear hok hrow hne hB
  go_enter Try.func122, Try.ntmps122
  go_wp2_with (go_at_call 91; refine C1.out.mono ?_; rintro e w1 ⟨rfl, v1, hw1⟩)
  have HW1 := hid hw1
  clear hw1
  go_loopw [13] (fun i wr => ∃ (k : Nat) (vk : Value), k ≤ n ∧ i = .int .i64 k ∧ Hid (Wrote w wr s vk (B ++ (l.take k).flatMap pidF))) (fun i _ => n - (intOf i).toNat)
  case atStart => exact ⟨0, v1, Nat.zero_le _, rfl, hid (by simpa using HW1.out)⟩
  case round =>
    obtain ⟨k, vk, hk, rfl, hWk⟩ := hrel
    by_cases hlt : k < n
    · have hlt' : decide (k < n) = true := by simpa using hlt
      have hkl : k < l.length := by rw [hn.out]; exact hlt
      obtain ⟨pb, po, x, y, rfl, hx, d1, d2⟩ := (HROW.out.mutT hWk.out.mt (fun b off h1 h2 => HNE.out b off h1 h2)).at (Below.refl _ _) rfl hkl
      obtain ⟨x', y', rfl, rfl, hx', hy'⟩ := nat_pid (show okP (x, y) by rw [hx]; exact HOK.out _ (List.getElem_mem _))
      have HT : Hid (B ++ (l.take (k + 1)).flatMap pidF = (B ++ (l.take k).flatMap pidF) ++ (short x' ++ short y')) := hid (by rw [take_flat hkl hx, pidF_nat]; simp)
      have hlen : (B ++ (l.take k).flatMap pidF).length ≤ 68719476736 := by
        have h1 : ((l.take k).flatMap pidF).length ≤ (l.take k).length * 20 := flat_pidF_len (fun p hp => HOK.out p (List.mem_of_mem_take hp))
        rw [List.length_take] at h1
        rw [List.length_append]; omega
      have hq : Below wr.heap.size wr (wr.alloc (.cells #[.int .u16 x', .int .u32 y'] 26)) := (Below.refl _ _).alloc (Nat.le_refl _) _
      have C2 : Hid (Calls Try.prog 93 #[.pointer (some ⟨s, 0, none⟩), .agg #[.int .u16 x', .int .u32 y']] (wr.alloc (.cells #[.int .u16 x', .int .u32 y'] 26)) fun e w' => e = .returned (.tuple #[]) ∧ ∃ v', Wrote (wr.alloc (.cells #[.int .u16 x', .int .u32 y'] 26)) w' s v' (B ++ (l.take (k + 1)).flatMap pidF)) := hid (by rw [HT.out]; exact wPid_any x' y' (hWk.out.wr.ext hq) hlen hx' hy')
      clear hx hlen
      go_wp2_with (go_at_call 93; refine C2.out.mono ?_; rintro e w2 ⟨rfl, v2, hw2⟩; have hw3 := hid (hWk.out.trans hq hw2); clear hw2)
      go_roundw
      case rel => exact ⟨k + 1, v2, by omega, by go_num, hw3⟩
      case measure => simp [intOf]; omega
    · have hlt' : decide (k < n) = false := by simpa using hlt
      have hend := hWk.out
      rw [List.take_of_length_le (by rw [hn.out]; omega), ← HE.out] at hend
      have HEND := hid hend
      clear hend
      go_wp2
      exact bodyPost_end (results_none rfl _ _ _) rfl ⟨rfl, _, HEND.out⟩
set_option maxRecDepth 100000 in
set_option maxHeartbeats 800000 in
theorem wDone_any {s : Nat} {v : Value} {bs : List Nat} {w : World} (hW : WrIs w s v bs) (hl : bs.length ≤ 137438953472) :
    Calls Try.prog 99 #[.pointer (some ⟨s, 0, none⟩)] w fun e w' => ∃ v', e = .returned v' ∧ OwnB w' w.heap.size v' bs ∧ Below w.heap.size w w' := by
  obtain ⟨a, c, rfl, hrow, -⟩ := hW.own.row
  obtain ⟨n, hn⟩ : ∃ n, bs.length = n := ⟨_, rfl⟩
  rw [hn] at hW hl
  have c0 := hW.c
  have HN := hid hn
  clear hn
  go_enter Try.func99, Try.ntmps99
  go_wp2_with (go_at_call 184; refine (cloneB_any HN (by omega) hrow).mono ?_; rintro e w1 ⟨v1, rfl, hown1, hb1⟩)
  go_ret
  exact ⟨_, rfl, hown1, hb1⟩
/-! ### the reference's forms -/
set_option maxRecDepth 100000 in
theorem numR_any {w : World} (m : Nat) (hm : m < 18446744073709551616) :
    Calls Try.prog 107 #[.int .u64 m] w fun e w' => ∃ v, e = .returned v ∧ OwnB w' w.heap.size v (short m) ∧ Below w.heap.size w w' := by
  go_enter Try.func107, Try.ntmps107
  go_wp2_with (go_at_call 187; refine (shortR_any m hm).mono ?_; rintro e w1 ⟨v1, rfl, hown1, hb1⟩)
  go_ret
  exact ⟨_, rfl, hown1, hb1⟩
theorem pidPutR_is {w : World} {x y N : Nat} {F : List Nat} (hF : Hid (short x ++ short y = F)) (hN : Hid (F.length = N)) (hx : x < 65536) (hy : y < 4294967296) :
    Calls Try.prog 108 #[.agg #[.int .u16 x, .int .u32 y]] w fun e w' => ∃ a' c', e = .returned (.slice a' N c') ∧ ByteRow w' a' F ∧ Below w.heap.size w w' := by
  refine (pidPutR_any x y hx hy).mono ?_
  rintro e w' ⟨v, rfl, hown, hb⟩
  rw [hF.out] at hown
  obtain ⟨a', c', rfl, hr, -⟩ := hown.row
  rw [hN.out]
  exact ⟨a', c', rfl, hr, hb⟩
set_option maxRecDepth 100000 in
set_option maxHeartbeats 1600000 in
theorem pidsR_any {a : Option Addr} {c n : Nat} {l : List Pid} {w : World} (hn : Hid (l.length = n)) (hnl : n ≤ 1073741824) (hok : ∀ p ∈ l, okP p) (hrow : PidRow w a l) :
    Calls Try.prog 124 #[.slice a n c] w fun e w' => ∃ v, e = .returned v ∧ OwnB w' w.heap.size v (pidsF l) ∧ Below w.heap.size w w' := by
  have hln := short_len10 (n := n) (by omega)
  have HOK := hid hok
  have HE : Hid (pidsF l = short n ++ l.flatMap pidF) := hid (by unfold pidsF; rw [hn.out])
  obtain ⟨X, hX⟩ : ∃ X, short n = X := ⟨_, rfl⟩
  have C1 : Hid (Calls Try.prog 107 #[.int .u64 n] w fun e w' => ∃ v, e = .returned v ∧ OwnB w' w.heap.size v X ∧ Below w.heap.size w w') := hid (by rw [← hX]; exact numR_any n (by omega))
  rw [hX] at hln HE
  have HROW := hid hrow
  clear hX hok hrow
  go_enter Try.func124, Try.ntmps124
  go_wp2_with (go_at_call 107; refine C1.out.mono ?_; rintro e w1 ⟨v1, rfl, hown1, hb1⟩)
  go_loopw [3, 4] (fun v i wr => ∃ k : Nat, k ≤ n ∧ i = .int .i64 k ∧ OwnB wr w.heap.size v (X ++ (l.take k).flatMap pidF) ∧ Below w.heap.size w wr) (fun _ i _ => n - (intOf i).toNat)
  case atStart => exact ⟨0, Nat.zero_le _, rfl, by simpa using hown1, hb1⟩
  case round =>
    obtain ⟨k, hk, rfl, hown, hb⟩ := hrel
    have hsz := hb.size
    by_cases hlt : k < n
    · have hlt' : decide (k < n) = true := by simpa using hlt
      have hkl : k < l.length := by rw [hn.out]; exact hlt
      obtain ⟨pb, po, x, y, rfl, hx, d1, d2⟩ := (HROW.out.ext hb).at (Below.refl _ _) rfl hkl
      obtain ⟨x', y', rfl, rfl, hx', hy'⟩ := nat_pid (show okP (x, y) by rw [hx]; exact HOK.out _ (List.getElem_mem _))
      obtain ⟨F, hF⟩ : ∃ F, short x' ++ short y' = F := ⟨_, rfl⟩
      obtain ⟨NF, hNF⟩ : ∃ NF, F.length = NF := ⟨_, rfl⟩
      have hNl : NF ≤ 20 := by
        have h1 := short_len10 (n := x') (by omega)
        have h2 := short_len10 (n := y') (by omega)
        rw [← hNF, ← hF, List.length_append]; omega
      obtain ⟨E, hEk⟩ : ∃ E, X ++ (l.take k).flatMap pidF = E := ⟨_, rfl⟩
      have HT : Hid (X ++ (l.take (k + 1)).flatMap pidF = E ++ F) := hid (by rw [take_flat hkl hx, pidF_nat, ← hEk, hF]; simp)
      have hlen : E.length ≤ 68719476736 := by
        have h1 : ((l.take k).flatMap pidF).length ≤ (l.take k).length * 20 := flat_pidF_len (fun p hp => HOK.out p (List.mem_of_mem_take hp))
        rw [List.length_take] at h1
        rw [← hEk, List.length_append]; omega
      rw [hEk] at hown
      have HF := hid hF
      have HNF := hid hNF
      clear hx hF hNF hEk
      go_wp2_with (first
        | (go_at_call 108; refine (pidPutR_is HF HNF hx' hy').mono ?_; rintro e w2 ⟨a2, c2, rfl, hr2, hb2⟩)
        | (at_builtin; refine wpList_appendB (hown.ext hb2) hr2 HNF (by omega) (by have := hb2.size; omega) rfl rfl rfl rfl ?_; intro v3 w3 hown3 hg3 hat3))
      have hB2 := hb.trans (hb2.mono hsz)
      have hB3 : Below w.heap.size w w3 := below_of_grown hB2 hg3 (hown.ext hb2) hB2.size (Nat.le_refl _)
      go_roundw
      case rel => exact ⟨k + 1, by omega, by go_num, by rw [HT.out]; exact hown3, hB3⟩
      case measure => simp [intOf]; omega
    · have hlt' : decide (k < n) = false := by simpa using hlt
      rw [List.take_of_length_le (by rw [hn.out]; omega), ← HE.out] at hown
      go_wp2
      go_ret
      exact ⟨_, rfl, hown, hb⟩
end Go.Proofs.Ytbpfhclcjedkcaa

namespace Go.Proofs.Ytbpfhclcjedkcaa
open Go.RowKit
/-- the reader behind a pointer -/
structure RdIs (w : World) (s : Nat) (a : Option Addr) (c : Nat) (S : RS) : Prop where
  c0 : w.cell? ⟨s, 0, none⟩ = some (.slice a S.b.length c)
  c1 : w.cell? ⟨s, 1, none⟩ = some (.int .i64 S.e)
  f0 : w.frozen? ⟨s, 0, none⟩ = false
  f1 : w.frozen? ⟨s, 1, none⟩ = false
  row : ByteRow w a S.b
  far : ∀ b off, a = some ⟨b, off, none⟩ → S.b ≠ [] → b < s
  cap : S.b.length ≤ c
  byt : ∀ b ∈ S.b, b < 256
  len : S.b.length ≤ 70368744177664
theorem RdIs.lt {w : World} {s c : Nat} {a : Option Addr} {S : RS} (h : RdIs w s a c S) : s < w.heap.size := World.block_lt_of_cell? w _ h.c0
theorem RdIs.ext {w w' : World} {s c : Nat} {a : Option Addr} {S : RS} (h : RdIs w s a c S) (hb : Below w.heap.size w w') : RdIs w' s a c S :=
  ⟨cell_toB h.c0 hb, cell_toB h.c1 hb, (hb.frozen (by exact h.lt)).trans h.f0, (hb.frozen (by exact h.lt)).trans h.f1, h.row.ext hb, h.far, h.cap, h.byt, h.len⟩
theorem RdIs.alloc {w : World} {s c : Nat} {a : Option Addr} {S : RS} (h : RdIs w s a c S) (o : Obj) : RdIs (w.alloc o) s a c S := h.ext ((Below.refl _ _).alloc (Nat.le_refl _) _)
theorem ByteRow.setFar {w : World} {a : Option Addr} {bs : List Nat} {s i : Nat} {v : Value} (h : ByteRow w a bs) (hf : ∀ b off, a = some ⟨b, off, none⟩ → bs ≠ [] → b < s) : ByteRow (w.setCell ⟨s, i, none⟩ v) a bs := by
  rcases h with rfl | ⟨b, off, rfl, hlt, hc⟩
  · exact .inl rfl
  · by_cases hl : bs = []
    · exact .inl hl
    · have hb : b ≠ s := Nat.ne_of_lt (hf b off rfl hl)
      exact .inr ⟨b, off, rfl, by simpa using hlt, fun j hj => by rw [World.cell?_setCell_far _ _ _ _ (by exact fun e => hb e.symm)]; exact hc j hj⟩
/-- another error -/
theorem RdIs.bad {w : World} {s c : Nat} {a : Option Addr} {S : RS} (h : RdIs w s a c S) (e : Nat) : RdIs (w.setCell ⟨s, 1, none⟩ (.int .i64 (e : Nat))) s a c ⟨S.b, e⟩ :=
  ⟨by rw [World.cell?_setCell_other _ _ _ _ (by simp)]; exact h.c0, World.cell?_setCell_same _ _ _ h.c1, by simp [h.f0], by simp [h.f1], h.row.setFar h.far, h.far, h.cap, h.byt, h.len⟩
/-- other bytes -/
theorem RdIs.put {w : World} {s c c' : Nat} {a a' : Option Addr} {S : RS} {b' : List Nat} (h : RdIs w s a c S) {n : Nat} (hn : n = b'.length) (hrow : ByteRow w a' b') (hfar : ∀ b off, a' = some ⟨b, off, none⟩ → b' ≠ [] → b < s) (hcap : b'.length ≤ c') (hby : ∀ b ∈ b', b < 256) (hlen : b'.length ≤ 70368744177664) : RdIs (w.setCell ⟨s, 0, none⟩ (.slice a' n c')) s a' c' ⟨b', S.e⟩ := by
  subst hn
  exact ⟨World.cell?_setCell_same _ _ _ h.c0, by rw [World.cell?_setCell_other _ _ _ _ (by simp)]; exact h.c1, by simp [h.f0], by simp [h.f1], hrow.setFar hfar, hfar, hcap, hby, hlen⟩
theorem mut1 {w : World} {s i : Nat} {v : Value} : Mut (fun k => k = s) w (w.setCell ⟨s, i, none⟩ v) :=
  ⟨rfl, rfl, rfl, by simp, fun k _ hf => Below.heap_setCell _ _ _ _ (by exact hf)⟩
theorem rErr_any {s c : Nat} {a : Option Addr} {S : RS} {w : World} (h : RdIs w s a c S) :
    Calls Try.prog 194 #[.pointer (some ⟨s, 0, none⟩)] w fun e w' => e = .returned (.int .i64 S.e) ∧ w = w' := by
  have c1 := h.c1
  go_enter Try.func194, Try.ntmps194
  go_wp2
  go_ret
  exact ⟨rfl, rfl⟩
theorem rErr_is {s c e : Nat} {a : Option Addr} {S : RS} {w : World} (h : RdIs w s a c S) (he : Hid (S.e = e)) :
    Calls Try.prog 194 #[.pointer (some ⟨s, 0, none⟩)] w fun e' w' => e' = .returned (.int .i64 e) ∧ w = w' := by
  have := rErr_any h
  rw [he.out] at this; exact this
/-- P7: the first error stays -/
def failS (S : RS) (e : Nat) : RS := if S.e = 0 then ⟨S.b, e⟩ else S
theorem fail_any {s c : Nat} {a : Option Addr} {S : RS} {w : World} (e0 : Nat) (h : RdIs w s a c S) :
    Calls Try.prog 197 #[.pointer (some ⟨s, 0, none⟩), .int .i64 e0] w fun e w' => e = .returned (.tuple #[]) ∧ RdIs w' s a c (failS S e0) ∧ Mut (fun k => k = s) w w' := by
  have c1 := h.c1
  have f1 := h.f1
  by_cases he : S.e = 0
  · have HE := hid he
    rw [he] at c1
    clear he
    go_enter Try.func197, Try.ntmps197
    go_wp2
    exact bodyPost_end (results_none rfl _ _ _) rfl ⟨rfl, by unfold failS; rw [if_pos HE.out]; exact h.bad e0, mut1⟩
  · have t1 : decide (S.e = 0) = false := by simpa using he
    have t2 : decide ((S.e : Int) = 0) = false := by simp; omega
    have t3 : ((S.e : Int) == 0) = false := by simp; omega
    have HE := hid he
    clear he
    go_enter Try.func197, Try.ntmps197
    go_wp2
    exact bodyPost_end (results_none rfl _ _ _) rfl ⟨rfl, by unfold failS; rw [if_neg HE.out]; exact h, Mut.refl _ _⟩
theorem ByteRow.cutA {w : World} {a : Option Addr} {bs : List Nat} {s k c : Nat} (h : ByteRow w a bs) (hf : ∀ b off, a = some ⟨b, off, none⟩ → bs ≠ [] → b < s) : ∀ b off, (if c = k then a else a.map (·.add (k * 1))) = some ⟨b, off, none⟩ → bs.drop k ≠ [] → b < s := by
  intro b off e hne
  have hb : bs ≠ [] := fun h => hne (by rw [h]; simp)
  rcases h with h | ⟨b', o', rfl, hlt, hc⟩
  · exact absurd h hb
  · have h2 := hf b' o' rfl hb
    split at e
    · cases e; exact h2
    · simp only [Option.map_some, addr_addB, Option.some.injEq, Addr.mk.injEq] at e
      rw [← e.1]; exact h2
set_option maxRecDepth 100000 in
set_option maxHeartbeats 1600000 in
theorem rnum_any {s c : Nat} {a : Option Addr} {S : RS} {w : World} (most : Nat) (_hm : most < 18446744073709551616) (h : RdIs w s a c S) :
    Calls Try.prog 191 #[.pointer (some ⟨s, 0, none⟩), .int .u64 most] w fun e w' => e = .returned (.int .u64 (rNum most S).1) ∧ (∃ a' c', RdIs w' s a' c' (rNum most S).2) ∧ Mut (fun k => k = s) w w' := by
  have c0 := h.c0
  have c1 := h.c1
  have f0 := h.f0
  obtain ⟨n, hn⟩ : ∃ n, S.b.length = n := ⟨_, rfl⟩
  have hlen := h.len
  have hcap := h.cap
  rw [hn] at c0 hlen hcap
  have HN := hid hn
  have HBY := hid h.byt
  have hrow := h.row
  clear hn
  by_cases he : S.e = 0
  · rw [he] at c1
    obtain ⟨⟨x, u, e⟩, hG⟩ : ∃ q, getS S.b = q := ⟨_, rfl⟩
    have hok := getFrom_ok S.b 0 0 (by decide) (by decide)
    rw [show getFrom 0 0 S.b = getS S.b from rfl, hG] at hok
    simp only at hok
    have HG := hid hG
    have HE := hid he
    clear hG he
    by_cases he2 : e = 0
    · subst he2
      obtain ⟨q1, q2, q3, q4⟩ := hok rfl
      rw [HN.out] at q3
      have hu : u ≤ n := by omega
      clear hok
      by_cases hx : most < x
      · have HR : Hid (rNum most S = (0, ⟨S.b, 3⟩)) := hid (by unfold rNum; simp only [HG.out]; rw [if_neg (by simp [HE.out]), if_neg (by simp), if_pos hx])
        have t1 : decide (most < x) = true := by simpa using hx
        have hF : Hid (failS S 3 = ⟨S.b, 3⟩) := hid (by unfold failS; rw [if_pos HE.out])
        have CF : Hid (Calls Try.prog 197 #[.pointer (some ⟨s, 0, none⟩), .int .i64 3] w fun e w' => e = .returned (.tuple #[]) ∧ RdIs w' s a c (failS S 3) ∧ Mut (fun k => k = s) w w') := hid (fail_any 3 h)
        go_enter Try.func191, Try.ntmps191
        go_wp2_with (first
          | (go_at_call 230; (with_reducible refine (getShort_is HG HN hlen HBY.out hrow).mono ?_); rintro e w' ⟨rfl, rfl⟩)
          | (go_at_call 197; (with_reducible refine CF.out.mono ?_); rintro e w1 ⟨rfl, hR1, hM1⟩))
        go_ret
        exact ⟨by rw [HR.out]; rfl, ⟨a, c, by rw [HR.out]; rw [hF.out] at hR1; exact hR1⟩, hM1⟩
      · have t1 : decide (most < x) = false := by simpa using hx
        obtain ⟨A1, hA1⟩ : ∃ A, (if c = u then a else a.map (·.add (u * 1))) = A := ⟨_, rfl⟩
        have hrun := fun W => run_fromB (a := a) (c := c) hu W
        have hr2 := hrow.cut (k := u) (c := c) (by rw [HN.out]; exact hcap)
        have hf2 := hrow.cutA (k := u) (c := c) h.far
        rw [hA1] at hr2 hf2
        simp only [hA1] at hrun
        obtain ⟨n2, hn2⟩ : ∃ n2, n - u = n2 := ⟨_, rfl⟩
        obtain ⟨c2, hc2⟩ : ∃ c2, c - u = c2 := ⟨_, rfl⟩
        simp only [hn2, hc2] at hrun
        have hdl : (S.b.drop u).length = n2 := by rw [List.length_drop, HN.out, hn2]
        have HR : Hid (rNum most S = (x, ⟨S.b.drop u, 0⟩)) := hid (by unfold rNum; simp only [HG.out]; rw [if_neg (by simp [HE.out]), if_neg (by simp), if_neg hx])
        have HP : Hid (RdIs (w.setCell ⟨s, 0, none⟩ (.slice A1 n2 c2)) s A1 c2 ⟨S.b.drop u, S.e⟩) := hid (h.put hdl.symm hr2 hf2 (by omega) (fun b hb => HBY.out b (List.mem_of_mem_drop hb)) (by omega))
        clear hA1 hn2 hc2 hr2 hf2 hdl
        go_enter Try.func191, Try.ntmps191
        go_wp2_with (go_at_call 230; (with_reducible refine (getShort_is HG HN hlen HBY.out hrow).mono ?_); rintro e w' ⟨rfl, rfl⟩)
        go_ret
        exact ⟨by rw [HR.out]; rfl, ⟨A1, c2, by rw [HR.out]; have := HP.out; rw [HE.out] at this; exact this⟩, mut1⟩
    · have HR : Hid (rNum most S = (0, ⟨S.b, e⟩)) := hid (by unfold rNum; simp only [HG.out]; rw [if_neg (by simp [HE.out]), if_pos he2])
      have hF : Hid (failS S e = ⟨S.b, e⟩) := hid (by unfold failS; rw [if_pos HE.out])
      have t1 : decide (e = 0) = false := by simpa using he2
      have t2 : decide ((e : Int) = 0) = false := by simp; omega
      have t3 : ((e : Int) == 0) = false := by simp; omega
      have t4 : ((e : Int) != 0) = true := by simp; omega
      clear hok
      go_enter Try.func191, Try.ntmps191
      go_wp2_with (first
        | (go_at_call 230; (with_reducible refine (getShort_is HG HN hlen HBY.out hrow).mono ?_); rintro e w' ⟨rfl, rfl⟩)
        | (go_at_call 197; (with_reducible refine (fail_any e h).mono ?_); rintro e w1 ⟨rfl, hR1, hM1⟩))
      go_ret
      exact ⟨by rw [HR.out]; rfl, ⟨a, c, by rw [HR.out]; rw [hF.out] at hR1; exact hR1⟩, hM1⟩
  · have HR : Hid (rNum most S = (0, S)) := hid (by unfold rNum; rw [if_pos he])
    have t1 : decide (S.e = 0) = false := by simpa using he
    have t2 : decide ((S.e : Int) = 0) = false := by simp; omega
    have t3 : ((S.e : Int) == 0) = false := by simp; omega
    have t4 : ((S.e : Int) != 0) = true := by simp; omega
    clear he
    go_enter Try.func191, Try.ntmps191
    go_wp2
    go_ret
    exact ⟨by rw [HR.out]; rfl, ⟨a, c, by rw [HR.out]; exact h⟩, Mut.refl _ _⟩
end Go.Proofs.Ytbpfhclcjedkcaa

