import Derived.Test.YteodaakdjnjhmaaX8
import Derived.Test.YteodaakdjnjhmaaX5
import Derived.Test.YteodaakdjnjhmaaBA
import Derived.WalkSpells
namespace Go.Proofs.Yteodaakdjnjhmaa
open Go.RowKit
theorem ByteRow.nilA {w : World} {bs : List Nat} (h : ByteRow w none bs) : bs = [] := by
  rcases h with h | ⟨b, off, h, _⟩
  · exact h
  · cases h
set_option maxRecDepth 100000 in
set_option maxHeartbeats 800000 in
theorem cloneB_any {a : Option Addr} {c n : Nat} {bs : List Nat} {w : World} (hn : Hid (bs.length = n)) (hl : n ≤ 549755813888) (hrow : ByteRow w a bs) :
   Calls Try.prog 85 #[.slice a n c] w fun e w' => ∃ v, e = .returned v ∧ OwnB w' w.heap.size v bs ∧ Below w.heap.size w w' := by
  cases a with
  | none =>
    have hx := hrow.nilA
    subst hx
    have hn0 : n = 0 := hn.out.symm
    subst hn0
    have hnil : ∀ W, (binOp .eql 40 (.slice none 0 c) (.slice none 0 0)).run Try.prog W = .ok (.bool true) W := fun W => Lib.run_eql_slice_nil W 40 5 none 0 c 0 0 Try.underlying40
    go_enter Try.func85, Try.ntmps85
    go_wp2
    go_ret
    exact ⟨_, rfl, OwnB.nil _ _, Below.refl _ _⟩
  | some a =>
    have hnil : ∀ W, (binOp .eql 40 (.slice (some a) n c) (.slice none 0 0)).run Try.prog W = .ok (.bool false) W := fun W => Lib.run_eql_slice_nil W 40 5 (some a) n c 0 0 Try.underlying40
    have hown : OwnB (w.alloc (.cells #[] 5)) w.heap.size (.slice (some ⟨w.heap.size, 0, none⟩) 0 0) [] := World.ownsRow_made (w := w) #[] 0 (Nat.le_refl _) (by unfold maxLen; omega) (by simp)
    have hB : Below w.heap.size w (w.alloc (.cells #[] 5)) := (Below.refl _ _).alloc (Nat.le_refl _) _
    have hr1 := hrow.ext hB
    go_enter Try.func85, Try.ntmps85
    go_wp2_with (at_builtin; refine wpList_appendB hown hr1 hn ?cb ?cz rfl rfl rfl rfl ?_; rotate_right; intro v4 w4 hown4 hg4 hat4)
    case cb => simp; omega
    case cz => simp
    go_ret
    exact ⟨v4, rfl, by simpa using hown4, below_of_grown hB hg4 hown hB.size (Nat.le_refl _)⟩
theorem OwnB.cap {w : World} {base : Nat} {v : Value} {bs : List Nat} (h : OwnB w base v bs) : ∀ a n c, v = .slice a n c → bs.length ≤ c := by
  intro a n c e
  rcases h.2 with ⟨rfl, hn⟩ | ⟨g, cap, cur, rfl, hb, hg, hnc, _⟩
  · cases e; omega
  · cases e; exact hnc
/-- the writer behind a pointer -/
structure WrIs (w : World) (s : Nat) (v : Value) (bs : List Nat) : Prop where
  c : w.cell? ⟨s, 0, none⟩ = some v
  f : w.frozen? ⟨s, 0, none⟩ = false
  own : OwnB w (s + 1) v bs
theorem WrIs.lt {w : World} {s : Nat} {v : Value} {bs : List Nat} (h : WrIs w s v bs) : s < w.heap.size := World.block_lt_of_cell? w _ h.c
theorem WrIs.ext {w w' : World} {s : Nat} {v : Value} {bs : List Nat} (h : WrIs w s v bs) (hb : Below w.heap.size w w') : WrIs w' s v bs :=
  ⟨cell_toB h.c hb, (hb.frozen (by exact h.lt)).trans h.f, h.own.ext hb⟩
theorem WrIs.alloc {w : World} {s : Nat} {v : Value} {bs : List Nat} (h : WrIs w s v bs) (o : Obj) : WrIs (w.alloc o) s v bs := h.ext ((Below.refl _ _).alloc (Nat.le_refl _) _)
theorem WrIs.made (w : World) (t : TypeId) : WrIs (w.alloc (.cells #[.slice none 0 0] t)) w.heap.size (.slice none 0 0) [] := ⟨by simp, by simp, OwnB.nil _ _⟩
/-- what a call of the writer leaves -/
structure Wrote (w w' : World) (s : Nat) (v' : Value) (bs : List Nat) : Prop where
  wr : WrIs w' s v' bs
  own : OwnB w' w.heap.size v' bs
  mt : Mut (fun k => k = s) w w'
theorem Mut.size_le {F : Nat → Prop} {w w' : World} (h : Mut F w w') : w.heap.size ≤ w'.heap.size := h.size
theorem mut_put {w w1 : World} {s : Nat} {v : Value} (hb : Below w.heap.size w w1) : Mut (fun k => k = s) w (w1.setCell ⟨s, 0, none⟩ v) :=
  (Mut.of_below hb).trans ⟨rfl, rfl, rfl, by simp, fun k _ hf => Below.heap_setCell _ _ _ _ (by exact hf)⟩
theorem wrote_put {w w1 : World} {s : Nat} {v v1 : Value} {bs bs1 : List Nat} (h : WrIs w s v bs) (hb : Below w.heap.size w w1) (hown : OwnB w1 w.heap.size v1 bs1) : Wrote w (w1.setCell ⟨s, 0, none⟩ v1) s v1 bs1 := by
  have h1 := h.ext hb
  have hs := h.lt
  have ho : OwnB (w1.setCell ⟨s, 0, none⟩ v1) w.heap.size v1 bs1 := hown.butT (t := s) (fun k hk => Below.heap_setCell _ _ _ _ hk) (fun e => by have := (World.ownsRow.lt hown s e.symm).1; omega)
  exact ⟨⟨World.cell?_setCell_same _ _ _ h1.c, by simp [h1.f], ho.mono (by omega)⟩, ho, mut_put hb⟩
theorem ByteRow.mutT {G : Nat → Prop} {w w' : World} {a : Option Addr} {bs : List Nat} (h : ByteRow w a bs) (hm : Mut G w w') (hne : ∀ b off, a = some ⟨b, off, none⟩ → bs ≠ [] → ¬ G b) : ByteRow w' a bs := by
  rcases h with rfl | ⟨b, off, rfl, hlt, hc⟩
  · exact .inl rfl
  · by_cases hl : bs = []
    · exact .inl hl
    · have hb := hm.block b hlt (hne b off rfl hl)
      exact .inr ⟨b, off, rfl, by have := hm.size; omega, fun i hi => (World.cell?_of_block (w := w) hb).trans (hc i hi)⟩
theorem wrote_more {w w1 w2 : World} {s : Nat} {v1 v2 : Value} {bs1 bs2 : List Nat} (h : Wrote w w1 s v1 bs1) (hs : s < w.heap.size) (hg : w1.grownBy w2 v1.ownBlock) (hown : OwnB w2 w.heap.size v2 bs2) : Wrote w (w2.setCell ⟨s, 0, none⟩ v2) s v2 bs2 := by
  have hs1 := h.wr.lt
  have hsb : w2.heap[s]? = w1.heap[s]? := hg.block s hs1 (fun e => by have := (World.ownsRow.lt h.own s e.symm).1; omega)
  have c2 : w2.cell? ⟨s, 0, none⟩ = some v1 := (World.cell?_of_block (w := w1) (a := ⟨s, 0, none⟩) hsb).trans h.wr.c
  have f2 : w2.frozen? ⟨s, 0, none⟩ = false := (World.frozen?_of_block (w := w1) (a := ⟨s, 0, none⟩) hsb).trans h.wr.f
  have ho : OwnB (w2.setCell ⟨s, 0, none⟩ v2) w.heap.size v2 bs2 := hown.butT (t := s) (fun k hk => Below.heap_setCell _ _ _ _ hk) (fun e => by have := (World.ownsRow.lt hown s e.symm).1; omega)
  refine ⟨⟨World.cell?_setCell_same _ _ _ c2, by simp [f2], ho.mono (by omega)⟩, ho, ?_⟩
  refine ⟨hg.os.trans h.mt.os, hg.tape.trans h.mt.tape, hg.output.trans h.mt.output, by have := hg.size; have := h.mt.size; simp; omega, fun k hk hf => ?_⟩
  rw [Below.heap_setCell _ _ _ _ (by exact hf), hg.block k (by have := h.mt.size; omega) (fun e => by have := (World.ownsRow.lt h.own k e.symm).1; omega), h.mt.block k hk hf]
theorem neq_ptr_nil (a : Addr) (w : World) : (binOp .neq 46 (.pointer (some a)) (.pointer none)).run Try.prog w = .ok (.bool true) w := by
  simp [go_sem]
set_option maxRecDepth 100000 in
set_option maxHeartbeats 1600000 in
theorem wNum_any {s : Nat} {v : Value} {bs : List Nat} {w : World} (m : Nat) (hW : WrIs w s v bs) (hl : bs.length ≤ 137438953472) (hm : m < 18446744073709551616) :
    Calls Try.prog 82 #[.pointer (some ⟨s, 0, none⟩), .int .u64 m] w fun e w' => e = .returned (.tuple #[]) ∧ ∃ v', Wrote w w' s v' (bs ++ short m) := by
  obtain ⟨a, c, rfl, hrow, -⟩ := hW.own.row
  obtain ⟨n, hn⟩ : ∃ n, bs.length = n := ⟨_, rfl⟩
  rw [hn] at hW hl
  have HW := hid hW
  have c0 := hW.c
  have HN := hid hn
  obtain ⟨F, hF⟩ : ∃ F, bs ++ short m = F := ⟨_, rfl⟩
  rw [hF]
  have HF := hid hF
  clear hn hW hF
  go_enter Try.func82, Try.ntmps82
  go_wp2_with (go_at_call 137; refine (putShort_is HF HN (by omega) hm hrow).mono ?_; rintro e w1 ⟨a1, k1, rfl, hown1, -, hb1⟩; have c1 := cell_toB c0 hb1; have f1 := (HW.out.ext hb1).f)
  exact bodyPost_end (results_none rfl _ _ _) rfl ⟨rfl, _, wrote_put HW.out hb1 hown1⟩
theorem pidPut_is {a : Option Addr} {c n : Nat} {bs F : List Nat} {w : World} {x y : Nat} (hF : Hid (bs ++ (short x ++ short y) = F)) (hn : Hid (bs.length = n)) (hl : n ≤ 137438953472) (hx : x < 65536) (hy : y < 4294967296) (hrow : ByteRow w a bs) :
    Calls Try.prog 138 #[.slice a n c, .agg #[.int .u16 x, .int .u32 y]] w fun e w' => ∃ v, e = .returned v ∧ OwnB w' w.heap.size v F ∧ Below w.heap.size w w' := by
  have := pidPut_any (c := c) x y hn hl hx hy hrow
  rw [hF.out] at this; exact this
set_option maxRecDepth 100000 in
set_option maxHeartbeats 3200000 in
theorem wPid_any {s : Nat} {v : Value} {bs : List Nat} {w : World} (x y : Nat) (hW : WrIs w s v bs) (hl : bs.length ≤ 68719476736) (hx : x < 65536) (hy : y < 4294967296) :
    Calls Try.prog 83 #[.pointer (some ⟨s, 0, none⟩), .agg #[.int .u16 x, .int .u32 y]] w fun e w' => e = .returned (.tuple #[]) ∧ ∃ v', Wrote w w' s v' (bs ++ (short x ++ short y)) := by
  have hB : Below w.heap.size w (w.alloc (.cells #[.int .u16 x, .int .u32 y] 26)) := (Below.refl _ _).alloc (Nat.le_refl _) _
  have hW1 := hW.ext hB
  obtain ⟨F, hF⟩ : ∃ F, bs ++ (short x ++ short y) = F := ⟨_, rfl⟩
  rw [hF]
  have HF := hid hF
  obtain ⟨a, c, rfl, hrow, -⟩ := hW1.own.row
  obtain ⟨n, hn⟩ : ∃ n, bs.length = n := ⟨_, rfl⟩
  rw [hn] at hW hW1 hl
  have HW := hid hW
  have HN := hid hn
  have c0 := hW1.c
  have hc0 : (w.alloc (.cells #[.int .u16 x, .int .u32 y] 26)).cell? ⟨w.heap.size, 0, none⟩ = some (.int .u16 x) := by simp
  have hc1 : (w.alloc (.cells #[.int .u16 x, .int .u32 y] 26)).cell? ⟨w.heap.size, 1, none⟩ = some (.int .u32 y) := by simp
  obtain ⟨w1, hw1⟩ : ∃ w1, w.alloc (.cells #[.int .u16 x, .int .u32 y] 26) = w1 := ⟨_, rfl⟩
  rw [hw1] at hB hW1 hrow c0 hc0 hc1
  have H0 : Below w1.heap.size w1 w1.drew := (Below.refl _ _).drew
  have d0 := cell_toB c0 H0
  have d1 := cell_toB hc0 H0
  have d2 := cell_toB hc1 H0
  have HW1 := hid hW1
  have C1 : Hid (∀ W, Below w1.heap.size w1 W → Calls Try.prog 138 #[.slice a n c, .agg #[.int .u16 x, .int .u32 y]] W fun e w' => ∃ v, e = .returned v ∧ OwnB w' w1.heap.size v F ∧ Below w1.heap.size w1 w') := hid fun W h => ((pidPut_is HF HN (by omega) hx hy (hrow.ext h)).mono fun e w' ⟨v, h1, h3, h4⟩ => ⟨v, h1, h3.mono h.size, h.trans (h4.mono h.size)⟩)
  clear hn hF hW hW1 c0 hc0 hc1 hrow
  go_enter Try.func83, Try.ntmps83
  go_wp2
  go_region_with ((go_at_call 138; (with_reducible refine (C1.out _ (by exact H0)).mono ?_); rintro e w11 ⟨v11, rfl, hown11, hb11⟩; obtain ⟨a11, k11, he11, -, -⟩ := hown11.row; subst he11; have c1 := (HW1.out.ext hb11).c; have f1 := (HW1.out.ext hb11).f))
  all_goals (
    go_wp2
    exact bodyPost_end (results_none rfl _ _ _) rfl ⟨rfl, _, wrote_put HW.out (hB.trans (hb11.mono hB.size)) (hown11.mono hB.size)⟩)
set_option maxRecDepth 100000 in
set_option maxHeartbeats 1600000 in
theorem wBytes_any {s : Nat} {v : Value} {bs : List Nat} {a : Option Addr} {c n : Nat} {ds : List Nat} {w : World} (hW : WrIs w s v bs) (hl : bs.length ≤ 68719476736) (hn : Hid (ds.length = n)) (hdl : n ≤ 68719476736) (hrow : ByteRow w a ds) (hne : ∀ b off, a = some ⟨b, off, none⟩ → ds ≠ [] → b ≠ s) :
    Calls Try.prog 84 #[.pointer (some ⟨s, 0, none⟩), .slice a n c] w fun e w' => e = .returned (.tuple #[]) ∧ ∃ v', Wrote w w' s v' (bs ++ (short n ++ ds)) := by
  have hln := short_len10 (n := n) (by omega)
  obtain ⟨F, hF⟩ : ∃ F, bs ++ short n = F := ⟨_, rfl⟩
  have hFl : F.length ≤ 68719476736 + 10 := by rw [← hF, List.length_append]; omega
  obtain ⟨E, hE⟩ : ∃ E, F ++ ds = E := ⟨_, rfl⟩
  have HF2 : Hid (bs ++ (short n ++ ds) = E) := hid (by rw [← hE, ← hF, List.append_assoc])
  have HE := hid hE
  have C1 : Hid (Calls Try.prog 82 #[.pointer (some ⟨s, 0, none⟩), .int .u64 n] w fun e w' => e = .returned (.tuple #[]) ∧ ∃ v', Wrote w w' s v' F) := hid (by rw [← hF]; exact wNum_any n hW (by omega) (by omega))
  have hs := hW.lt
  clear hF hE
  go_enter Try.func84, Try.ntmps84
  go_wp2_with (first
    | (go_at_call 82; refine C1.out.mono ?_; rintro e w1 ⟨rfl, v1, hw1⟩; obtain ⟨a1, k1, he1, -, -⟩ := hw1.own.row; subst he1; have c1 := hw1.wr.c; have hr1 := hrow.mutT hw1.mt (fun b off h1 h2 => hne b off h1 h2); have HR1 := hid hr1; clear hr1)
    | (at_builtin; refine wpList_appendB hw1.own HR1.out hn (by omega) (by have := hw1.mt.size; omega) rfl rfl rfl rfl ?_; intro v2 w2 hown2 hg2 hat2; rw [HE.out] at hown2; obtain ⟨a2, k2, he2, -, -⟩ := hown2.row; subst he2; have hz := wrote_more hw1 hs hg2 hown2; have hsb : w2.heap[s]? = w1.heap[s]? := hg2.block s hw1.wr.lt (fun e => by have := (World.ownsRow.lt hw1.own s e.symm).1; omega); have c2 := (World.cell?_of_block (w := w1) (a := ⟨s, 0, none⟩) hsb).trans c1; have f2 : w2.frozen? ⟨s, 0, none⟩ = false := (World.frozen?_of_block (w := w1) (a := ⟨s, 0, none⟩) hsb).trans hw1.wr.f; have HZ := hid hz; clear hz hsb))
  exact bodyPost_end (results_none rfl _ _ _) rfl ⟨rfl, _, by rw [HF2.out]; exact HZ.out⟩
end Go.Proofs.Yteodaakdjnjhmaa
