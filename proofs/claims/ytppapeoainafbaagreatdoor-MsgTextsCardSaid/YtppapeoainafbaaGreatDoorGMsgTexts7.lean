/- Parts of the proof: X9 X10 X11 X12 X13 X14 X16 X18 X25 X26 X27 XL X28 X29 X32 X34 X35 X36 X38 X44 X30. -/
import Derived.Defers
import Derived.Deep.DeepCutAuto
import Derived.Test.YtppapeoainafbaaGreatDoorX24
namespace Go.Proofs.YtppapeoainafbaaGreatDoor
open Go.RowKit
theorem ByteRow.nilA {w : World} {bs : List Nat} (h : ByteRow w none bs) : bs = [] := by
  rcases h with h | ⟨b, off, h, _⟩
  · exact h
  · cases h
set_option maxRecDepth 100000 in
set_option maxHeartbeats 800000 in
theorem cloneB_any {a : Option Addr} {c n : Nat} {bs : List Nat} {w : World} (hn : Hid (bs.length = n)) (hl : n ≤ 549755813888) (hrow : ByteRow w a bs) :
   Calls Tryz.prog 108 #[.slice a n c] w fun e w' => ∃ v, e = .returned v ∧ OwnB w' w.heap.size v bs ∧ Below w.heap.size w w' := by
  cases a with
  | none =>
    have hx := hrow.nilA
    subst hx
    have hn0 : n = 0 := hn.out.symm
    subst hn0
    have hnil : ∀ W, (binOp .eql 29 (.slice none 0 c) (.slice none 0 0)).run Tryz.prog W = .ok (.bool true) W := fun W => Lib.run_eql_slice_nil W 29 5 none 0 c 0 0 Tryz.underlying29
    go_enter Tryz.func108, Tryz.ntmps108
    go_wp2
    go_ret
    exact ⟨_, rfl, OwnB.nil _ _, Below.refl _ _⟩
  | some a =>
    have hnil : ∀ W, (binOp .eql 29 (.slice (some a) n c) (.slice none 0 0)).run Tryz.prog W = .ok (.bool false) W := fun W => Lib.run_eql_slice_nil W 29 5 (some a) n c 0 0 Tryz.underlying29
    have hown : OwnB (w.alloc (.cells #[] 5)) w.heap.size (.slice (some ⟨w.heap.size, 0, none⟩) 0 0) [] := World.ownsRow_made (w := w) #[] 0 (Nat.le_refl _) (by unfold maxLen; omega) (by simp)
    have hB : Below w.heap.size w (w.alloc (.cells #[] 5)) := (Below.refl _ _).alloc (Nat.le_refl _) _
    have hr1 := hrow.ext hB
    go_enter Tryz.func108, Tryz.ntmps108
    go_wp2_with (at_builtin; refine wpList_appendB hown hr1 hn ?cb ?cz rfl rfl rfl rfl ?_; rotate_right; intro v4 w4 hown4 hg4 hat4)
    case cb => simp; omega
    case cz => simp
    go_ret
    exact ⟨v4, rfl, by simpa using hown4, below_of_grown hB hg4 hown hB.size (Nat.le_refl _)⟩
theorem OwnB.cap {w : World} {base : Nat} {v : Value} {bs : List Nat} (h : OwnB w base v bs) : ∀ a n c, v = .slice a n c → bs.length ≤ c := by
  intro a n c e
  rcases h.2 with ⟨rfl, hn⟩ | ⟨g, cap, cur, rfl, hb, hg, hnc, _⟩
  · cases e; omega
  · cases e; exact hnc
/-- the writer behind a pointer -/
structure WrIs (w : World) (s : Nat) (v : Value) (bs : List Nat) : Prop where
  c : w.cell? ⟨s, 0, none⟩ = some v
  f : w.frozen? ⟨s, 0, none⟩ = false
  own : OwnB w (s + 1) v bs
theorem WrIs.lt {w : World} {s : Nat} {v : Value} {bs : List Nat} (h : WrIs w s v bs) : s < w.heap.size := World.block_lt_of_cell? w _ h.c
theorem WrIs.ext {w w' : World} {s : Nat} {v : Value} {bs : List Nat} (h : WrIs w s v bs) (hb : Below w.heap.size w w') : WrIs w' s v bs :=
  ⟨cell_toB h.c hb, (hb.frozen (by exact h.lt)).trans h.f, h.own.ext hb⟩
theorem WrIs.alloc {w : World} {s : Nat} {v : Value} {bs : List Nat} (h : WrIs w s v bs) (o : Obj) : WrIs (w.alloc o) s v bs := h.ext ((Below.refl _ _).alloc (Nat.le_refl _) _)
theorem WrIs.made (w : World) (t : TypeId) : WrIs (w.alloc (.cells #[.slice none 0 0] t)) w.heap.size (.slice none 0 0) [] := ⟨by simp, by simp, OwnB.nil _ _⟩
/-- what a call of the writer leaves -/
structure Wrote (w w' : World) (s : Nat) (v' : Value) (bs : List Nat) : Prop where
  wr : WrIs w' s v' bs
  own : OwnB w' w.heap.size v' bs
  mt : Mut (fun k => k = s) w w'
theorem mut_put {w w1 : World} {s : Nat} {v : Value} (hb : Below w.heap.size w w1) : Mut (fun k => k = s) w (w1.setCell ⟨s, 0, none⟩ v) :=
  (Mut.of_below hb).trans ⟨rfl, rfl, rfl, by simp, fun k _ hf => Below.heap_setCell _ _ _ _ (by exact hf)⟩
theorem wrote_put {w w1 : World} {s : Nat} {v v1 : Value} {bs bs1 : List Nat} (h : WrIs w s v bs) (hb : Below w.heap.size w w1) (hown : OwnB w1 w.heap.size v1 bs1) : Wrote w (w1.setCell ⟨s, 0, none⟩ v1) s v1 bs1 := by
  have h1 := h.ext hb
  have hs := h.lt
  have ho : OwnB (w1.setCell ⟨s, 0, none⟩ v1) w.heap.size v1 bs1 := hown.butT (t := s) (fun k hk => Below.heap_setCell _ _ _ _ hk) (fun e => by have := (World.ownsRow.lt hown s e.symm).1; omega)
  exact ⟨⟨World.cell?_setCell_same _ _ _ h1.c, by simp [h1.f], ho.mono (by omega)⟩, ho, mut_put hb⟩
theorem ByteRow.mutT {G : Nat → Prop} {w w' : World} {a : Option Addr} {bs : List Nat} (h : ByteRow w a bs) (hm : Mut G w w') (hne : ∀ b off, a = some ⟨b, off, none⟩ → bs ≠ [] → ¬ G b) : ByteRow w' a bs := by
  rcases h with rfl | ⟨b, off, rfl, hlt, hc⟩
  · exact .inl rfl
  · by_cases hl : bs = []
    · exact .inl hl
    · have hb := hm.block b hlt (hne b off rfl hl)
      exact .inr ⟨b, off, rfl, by have := hm.size; omega, fun i hi => (World.cell?_of_block (w := w) hb).trans (hc i hi)⟩
theorem wrote_more {w w1 w2 : World} {s : Nat} {v1 v2 : Value} {bs1 bs2 : List Nat} (h : Wrote w w1 s v1 bs1) (hs : s < w.heap.size) (hg : w1.grownBy w2 v1.ownBlock) (hown : OwnB w2 w.heap.size v2 bs2) : Wrote w (w2.setCell ⟨s, 0, none⟩ v2) s v2 bs2 := by
  have hs1 := h.wr.lt
  have hsb : w2.heap[s]? = w1.heap[s]? := hg.block s hs1 (fun e => by have := (World.ownsRow.lt h.own s e.symm).1; omega)
  have c2 : w2.cell? ⟨s, 0, none⟩ = some v1 := (World.cell?_of_block (w := w1) (a := ⟨s, 0, none⟩) hsb).trans h.wr.c
  have f2 : w2.frozen? ⟨s, 0, none⟩ = false := (World.frozen?_of_block (w := w1) (a := ⟨s, 0, none⟩) hsb).trans h.wr.f
  have ho : OwnB (w2.setCell ⟨s, 0, none⟩ v2) w.heap.size v2 bs2 := hown.butT (t := s) (fun k hk => Below.heap_setCell _ _ _ _ hk) (fun e => by have := (World.ownsRow.lt hown s e.symm).1; omega)
  refine ⟨⟨World.cell?_setCell_same _ _ _ c2, by simp [f2], ho.mono (by omega)⟩, ho, ?_⟩
  refine ⟨hg.os.trans h.mt.os, hg.tape.trans h.mt.tape, hg.output.trans h.mt.output, by have := hg.size; have := h.mt.size; simp; omega, fun k hk hf => ?_⟩
  rw [Below.heap_setCell _ _ _ _ (by exact hf), hg.block k (by have := h.mt.size; omega) (fun e => by have := (World.ownsRow.lt h.own k e.symm).1; omega), h.mt.block k hk hf]
set_option maxRecDepth 100000 in
set_option maxHeartbeats 1600000 in
theorem wNum_any {s : Nat} {v : Value} {bs : List Nat} {w : World} (m : Nat) (hW : WrIs w s v bs) (hl : bs.length ≤ 137438953472) (hm : m < 18446744073709551616) :
    Calls Tryz.prog 66 #[.pointer (some ⟨s, 0, none⟩), .int .u64 m] w fun e w' => e = .returned (.tuple #[]) ∧ ∃ v', Wrote w w' s v' (bs ++ short m) := by
  obtain ⟨a, c, rfl, hrow, -⟩ := hW.own.row
  obtain ⟨n, hn⟩ : ∃ n, bs.length = n := ⟨_, rfl⟩
  rw [hn] at hW hl
  have HW := hid hW
  have c0 := hW.c
  have HN := hid hn
  obtain ⟨F, hF⟩ : ∃ F, bs ++ short m = F := ⟨_, rfl⟩
  rw [hF]
  have HF := hid hF
  clear hn hW hF
  go_enter Tryz.func66, Tryz.ntmps66
  go_wp2_with (go_at_call 104; refine (putShort_is HF HN (by omega) hm hrow).mono ?_; rintro e w1 ⟨a1, k1, rfl, hown1, -, hb1⟩; have c1 := cell_toB c0 hb1; have f1 := (HW.out.ext hb1).f)
  exact bodyPost_end (results_none rfl _ _ _) rfl ⟨rfl, _, wrote_put HW.out hb1 hown1⟩
theorem pidPut_is {a : Option Addr} {c n : Nat} {bs F : List Nat} {w : World} {x y : Nat} (hF : Hid (bs ++ (short x ++ short y) = F)) (hn : Hid (bs.length = n)) (hl : n ≤ 137438953472) (hx : x < 65536) (hy : y < 4294967296) (hrow : ByteRow w a bs) :
    Calls Tryz.prog 105 #[.slice a n c, .agg #[.int .u16 x, .int .u32 y]] w fun e w' => ∃ v, e = .returned v ∧ OwnB w' w.heap.size v F ∧ Below w.heap.size w w' := by
  have := pidPut_any (c := c) x y hn hl hx hy hrow
  rw [hF.out] at this; exact this
set_option maxRecDepth 100000 in
set_option maxHeartbeats 3200000 in
theorem wPid_any {s : Nat} {v : Value} {bs : List Nat} {w : World} (x y : Nat) (hW : WrIs w s v bs) (hl : bs.length ≤ 68719476736) (hx : x < 65536) (hy : y < 4294967296) :
    Calls Tryz.prog 67 #[.pointer (some ⟨s, 0, none⟩), .agg #[.int .u16 x, .int .u32 y]] w fun e w' => e = .returned (.tuple #[]) ∧ ∃ v', Wrote w w' s v' (bs ++ (short x ++ short y)) := by
  have hB : Below w.heap.size w (w.alloc (.cells #[.int .u16 x, .int .u32 y] 25)) := (Below.refl _ _).alloc (Nat.le_refl _) _
  have hW1 := hW.ext hB
  obtain ⟨F, hF⟩ : ∃ F, bs ++ (short x ++ short y) = F := ⟨_, rfl⟩
  rw [hF]
  have HF := hid hF
  obtain ⟨a, c, rfl, hrow, -⟩ := hW1.own.row
  obtain ⟨n, hn⟩ : ∃ n, bs.length = n := ⟨_, rfl⟩
  rw [hn] at hW hW1 hl
  have HW := hid hW
  have HN := hid hn
  have c0 := hW1.c
  have hc0 : (w.alloc (.cells #[.int .u16 x, .int .u32 y] 25)).cell? ⟨w.heap.size, 0, none⟩ = some (.int .u16 x) := by simp
  have hc1 : (w.alloc (.cells #[.int .u16 x, .int .u32 y] 25)).cell? ⟨w.heap.size, 1, none⟩ = some (.int .u32 y) := by simp
  obtain ⟨w1, hw1⟩ : ∃ w1, w.alloc (.cells #[.int .u16 x, .int .u32 y] 25) = w1 := ⟨_, rfl⟩
  rw [hw1] at hB hW1 hrow c0 hc0 hc1
  have H0 : Below w1.heap.size w1 w1.drew := (Below.refl _ _).drew
  have d0 := cell_toB c0 H0
  have d1 := cell_toB hc0 H0
  have d2 := cell_toB hc1 H0
  have HW1 := hid hW1
  have C1 : Hid (∀ W, Below w1.heap.size w1 W → Calls Tryz.prog 105 #[.slice a n c, .agg #[.int .u16 x, .int .u32 y]] W fun e w' => ∃ v, e = .returned v ∧ OwnB w' w1.heap.size v F ∧ Below w1.heap.size w1 w') := hid fun W h => ((pidPut_is HF HN (by omega) hx hy (hrow.ext h)).mono fun e w' ⟨v, h1, h3, h4⟩ => ⟨v, h1, h3.mono h.size, h.trans (h4.mono h.size)⟩)
  clear hn hF hW hW1 c0 hc0 hc1 hrow
  go_enter Tryz.func67, Tryz.ntmps67
  go_wp2
  go_region_with ((go_at_call 105; (with_reducible refine (C1.out _ (by exact H0)).mono ?_); rintro e w11 ⟨v11, rfl, hown11, hb11⟩; obtain ⟨a11, k11, he11, -, -⟩ := hown11.row; subst he11; have c1 := (HW1.out.ext hb11).c; have f1 := (HW1.out.ext hb11).f))
  all_goals (
    go_wp2
    exact bodyPost_end (results_none rfl _ _ _) rfl ⟨rfl, _, wrote_put HW.out (hB.trans (hb11.mono hB.size)) (hown11.mono hB.size)⟩)
set_option maxRecDepth 100000 in
set_option maxHeartbeats 1600000 in
theorem wBytes_any {s : Nat} {v : Value} {bs : List Nat} {a : Option Addr} {c n : Nat} {ds : List Nat} {w : World} (hW : WrIs w s v bs) (hl : bs.length ≤ 68719476736) (hn : Hid (ds.length = n)) (hdl : n ≤ 68719476736) (hrow : ByteRow w a ds) (hne : ∀ b off, a = some ⟨b, off, none⟩ → ds ≠ [] → b ≠ s) :
    Calls Tryz.prog 72 #[.pointer (some ⟨s, 0, none⟩), .slice a n c] w fun e w' => e = .returned (.tuple #[]) ∧ ∃ v', Wrote w w' s v' (bs ++ (short n ++ ds)) := by
  have hln := short_len10 (n := n) (by omega)
  obtain ⟨F, hF⟩ : ∃ F, bs ++ short n = F := ⟨_, rfl⟩
  have hFl : F.length ≤ 68719476736 + 10 := by rw [← hF, List.length_append]; omega
  obtain ⟨E, hE⟩ : ∃ E, F ++ ds = E := ⟨_, rfl⟩
  have HF2 : Hid (bs ++ (short n ++ ds) = E) := hid (by rw [← hE, ← hF, List.append_assoc])
  have HE := hid hE
  have C1 : Hid (Calls Tryz.prog 66 #[.pointer (some ⟨s, 0, none⟩), .int .u64 n] w fun e w' => e = .returned (.tuple #[]) ∧ ∃ v', Wrote w w' s v' F) := hid (by rw [← hF]; exact wNum_any n hW (by omega) (by omega))
  have hs := hW.lt
  clear hF hE
  go_enter Tryz.func72, Tryz.ntmps72
  go_wp2_with (first
    | (go_at_call 66; refine C1.out.mono ?_; rintro e w1 ⟨rfl, v1, hw1⟩; obtain ⟨a1, k1, he1, -, -⟩ := hw1.own.row; subst he1; have c1 := hw1.wr.c; have hr1 := hrow.mutT hw1.mt (fun b off h1 h2 => hne b off h1 h2); have HR1 := hid hr1; clear hr1)
    | (at_builtin; refine wpList_appendB hw1.own HR1.out hn (by omega) (by have := hw1.mt.size; omega) rfl rfl rfl rfl ?_; intro v2 w2 hown2 hg2 hat2; rw [HE.out] at hown2; obtain ⟨a2, k2, he2, -, -⟩ := hown2.row; subst he2; have hz := wrote_more hw1 hs hg2 hown2; have hsb : w2.heap[s]? = w1.heap[s]? := hg2.block s hw1.wr.lt (fun e => by have := (World.ownsRow.lt hw1.own s e.symm).1; omega); have c2 := (World.cell?_of_block (w := w1) (a := ⟨s, 0, none⟩) hsb).trans c1; have f2 : w2.frozen? ⟨s, 0, none⟩ = false := (World.frozen?_of_block (w := w1) (a := ⟨s, 0, none⟩) hsb).trans hw1.wr.f; have HZ := hid hz; clear hz hsb))
  exact bodyPost_end (results_none rfl _ _ _) rfl ⟨rfl, _, by rw [HF2.out]; exact HZ.out⟩
end Go.Proofs.YtppapeoainafbaaGreatDoor

namespace Go.Proofs.YtppapeoainafbaaGreatDoor
open Go.RowKit
theorem PidRow.mutT {G : Nat → Prop} {w w' : World} {a : Option Addr} {l : List Pid} (h : PidRow w a l) (hm : Mut G w w') (hne : ∀ b off, a = some ⟨b, off, none⟩ → l ≠ [] → ¬ G b) : PidRow w' a l := by
  rcases h with rfl | ⟨b, off, rfl, hlt, hc⟩
  · exact .inl rfl
  · by_cases hl : l = []
    · exact .inl hl
    · have hb := hm.block b hlt (hne b off rfl hl)
      exact .inr ⟨b, off, rfl, by have := hm.size; omega, fun i hi => ⟨(World.cell?_of_block (w := w) hb).trans (hc i hi).1, (World.cell?_of_block (w := w) hb).trans (hc i hi).2⟩⟩
theorem Wrote.trans {w w1 w1' w2 : World} {s : Nat} {v1 v2 : Value} {b1 b2 : List Nat} (h : Wrote w w1 s v1 b1) (hb : Below w1.heap.size w1 w1') (h2 : Wrote w1' w2 s v2 b2) : Wrote w w2 s v2 b2 :=
  ⟨h2.wr, h2.own.mono (Nat.le_trans h.mt.size hb.size), (h.mt.trans (Mut.of_below hb)).trans h2.mt⟩
theorem pidF_nat (x y : Nat) : pidF ((x : Int), (y : Int)) = short x ++ short y := by simp [pidF]
theorem pidF_len {p : Pid} (h : okP p) : (pidF p).length ≤ 20 := by
  have h1 := short_len10 (n := p.1.toNat) (by have := h.2.1; have := h.1; omega)
  have h2 := short_len10 (n := p.2.toNat) (by have := h.2.2.2; omega)
  unfold pidF; rw [List.length_append]; omega
theorem flat_pidF_len : ∀ {l : List Pid}, (∀ p ∈ l, okP p) → (l.flatMap pidF).length ≤ l.length * 20
  | [], _ => by simp
  | p :: l, h => by
    have h1 := pidF_len (h p (List.mem_cons_self ..))
    have h2 := flat_pidF_len (l := l) (fun q hq => h q (List.mem_cons_of_mem _ hq))
    rw [List.flatMap_cons, List.length_append, List.length_cons]; omega
theorem take_flat {l : List Pid} {k : Nat} (h : k < l.length) {p : Pid} (hp : p = l[k]) : (l.take (k + 1)).flatMap pidF = (l.take k).flatMap pidF ++ pidF p := by
  rw [List.take_succ_eq_append_getElem h, List.flatMap_append, hp]; simp
theorem nat_pid {x y : Int} (h : okP (x, y)) : ∃ x' y' : Nat, x = (x' : Int) ∧ y = (y' : Int) ∧ x' < 65536 ∧ y' < 4294967296 := by
  obtain ⟨h1, h2, h3, h4⟩ := h
  exact ⟨x.toNat, y.toNat, by simp at *; omega, by simp at *; omega, by simp at *; omega, by simp at *; omega⟩
set_option maxRecDepth 100000 in
set_option maxHeartbeats 1600000 in
theorem wPids_any {s : Nat} {v : Value} {bs : List Nat} {a : Option Addr} {c n : Nat} {l : List Pid} {w : World} (hW : WrIs w s v bs) (hl : bs.length ≤ 34359738368) (hn : Hid (l.length = n)) (hnl : n ≤ 1073741824) (hok : ∀ p ∈ l, okP p) (hrow : PidRow w a l) (hne : ∀ b off, a = some ⟨b, off, none⟩ → l ≠ [] → b ≠ s) :
    Calls Tryz.prog 107 #[.pointer (some ⟨s, 0, none⟩), .slice a n c] w fun e w' => e = .returned (.tuple #[]) ∧ ∃ v', Wrote w w' s v' (bs ++ pidsF l) := by
  have hln := short_len10 (n := n) (by omega)
  have C1 : Hid (Calls Tryz.prog 66 #[.pointer (some ⟨s, 0, none⟩), .int .u64 n] w fun e w' => e = .returned (.tuple #[]) ∧ ∃ v', Wrote w w' s v' (bs ++ short n)) := hid (wNum_any n hW (by omega) (by omega))
  have hs := hW.lt
  have HOK := hid hok
  have hfl := flat_pidF_len hok
  have HROW := hid hrow
  have HNE := hid hne
  obtain ⟨B, hB⟩ : ∃ B, bs ++ short n = B := ⟨_, rfl⟩
  have hBl : B.length ≤ 34359738378 := by rw [← hB, List.length_append]; omega
  have HE : Hid (bs ++ pidsF l = B ++ l.flatMap pidF) := hid (by unfold pidsF; rw [hn.out, ← hB, List.append_assoc])
  rw [hB] at C1
  clear hok hrow hne hB
  go_enter Tryz.func107, Tryz.ntmps107
  go_wp2_with (go_at_call 66; refine C1.out.mono ?_; rintro e w1 ⟨rfl, v1, hw1⟩)
  have HW1 := hid hw1
  clear hw1
  go_loopw [13] (fun i wr => ∃ (k : Nat) (vk : Value), k ≤ n ∧ i = .int .i64 k ∧ Hid (Wrote w wr s vk (B ++ (l.take k).flatMap pidF))) (fun i _ => n - (intOf i).toNat)
  case atStart => exact ⟨0, v1, Nat.zero_le _, rfl, hid (by simpa using HW1.out)⟩
  case round =>
    obtain ⟨k, vk, hk, rfl, hWk⟩ := hrel
    by_cases hlt : k < n
    · have hlt' : decide (k < n) = true := by simpa using hlt
      have hkl : k < l.length := by rw [hn.out]; exact hlt
      obtain ⟨pb, po, x, y, rfl, hx, d1, d2⟩ := (HROW.out.mutT hWk.out.mt (fun b off h1 h2 => HNE.out b off h1 h2)).at (Below.refl _ _) rfl hkl
      obtain ⟨x', y', rfl, rfl, hx', hy'⟩ := nat_pid (show okP (x, y) by rw [hx]; exact HOK.out _ (List.getElem_mem _))
      have HT : Hid (B ++ (l.take (k + 1)).flatMap pidF = (B ++ (l.take k).flatMap pidF) ++ (short x' ++ short y')) := hid (by rw [take_flat hkl hx, pidF_nat]; simp)
      have hlen : (B ++ (l.take k).flatMap pidF).length ≤ 68719476736 := by
        have h1 : ((l.take k).flatMap pidF).length ≤ (l.take k).length * 20 := flat_pidF_len (fun p hp => HOK.out p (List.mem_of_mem_take hp))
        rw [List.length_take] at h1
        rw [List.length_append]; omega
      have hq : Below wr.heap.size wr (wr.alloc (.cells #[.int .u16 x', .int .u32 y'] 25)) := (Below.refl _ _).alloc (Nat.le_refl _) _
      have C2 : Hid (Calls Tryz.prog 67 #[.pointer (some ⟨s, 0, none⟩), .agg #[.int .u16 x', .int .u32 y']] (wr.alloc (.cells #[.int .u16 x', .int .u32 y'] 25)) fun e w' => e = .returned (.tuple #[]) ∧ ∃ v', Wrote (wr.alloc (.cells #[.int .u16 x', .int .u32 y'] 25)) w' s v' (B ++ (l.take (k + 1)).flatMap pidF)) := hid (by rw [HT.out]; exact wPid_any x' y' (hWk.out.wr.ext hq) hlen hx' hy')
      clear hx hlen
      go_wp2_with (go_at_call 67; refine C2.out.mono ?_; rintro e w2 ⟨rfl, v2, hw2⟩; have hw3 := hid (hWk.out.trans hq hw2); clear hw2)
      go_roundw
      case rel => exact ⟨k + 1, v2, by omega, by go_num, hw3⟩
      case measure => simp [intOf]; omega
    · have hlt' : decide (k < n) = false := by simpa using hlt
      have hend := hWk.out
      rw [List.take_of_length_le (by rw [hn.out]; omega), ← HE.out] at hend
      have HEND := hid hend
      clear hend
      go_wp2
      exact bodyPost_end (results_none rfl _ _ _) rfl ⟨rfl, _, HEND.out⟩
set_option maxRecDepth 100000 in
set_option maxHeartbeats 800000 in
theorem wDone_any {s : Nat} {v : Value} {bs : List Nat} {w : World} (hW : WrIs w s v bs) (hl : bs.length ≤ 137438953472) :
    Calls Tryz.prog 73 #[.pointer (some ⟨s, 0, none⟩)] w fun e w' => ∃ v', e = .returned v' ∧ OwnB w' w.heap.size v' bs ∧ Below w.heap.size w w' := by
  obtain ⟨a, c, rfl, hrow, -⟩ := hW.own.row
  obtain ⟨n, hn⟩ : ∃ n, bs.length = n := ⟨_, rfl⟩
  rw [hn] at hW hl
  have c0 := hW.c
  have HN := hid hn
  clear hn
  go_enter Tryz.func73, Tryz.ntmps73
  go_wp2_with (go_at_call 108; refine (cloneB_any HN (by omega) hrow).mono ?_; rintro e w1 ⟨v1, rfl, hown1, hb1⟩)
  go_ret
  exact ⟨_, rfl, hown1, hb1⟩
/-! ### the reference's forms -/
end Go.Proofs.YtppapeoainafbaaGreatDoor

namespace Go.Proofs.YtppapeoainafbaaGreatDoor
open Go.RowKit
/-- the reader behind a pointer -/
structure RdIs (w : World) (s : Nat) (a : Option Addr) (c : Nat) (S : RS) : Prop where
  c0 : w.cell? ⟨s, 0, none⟩ = some (.slice a S.b.length c)
  c1 : w.cell? ⟨s, 1, none⟩ = some (.int .i64 S.e)
  f0 : w.frozen? ⟨s, 0, none⟩ = false
  f1 : w.frozen? ⟨s, 1, none⟩ = false
  row : ByteRow w a S.b
  far : ∀ b off, a = some ⟨b, off, none⟩ → S.b ≠ [] → b < s
  cap : S.b.length ≤ c
  byt : ∀ b ∈ S.b, b < 256
  len : S.b.length ≤ 70368744177664
theorem RdIs.lt {w : World} {s c : Nat} {a : Option Addr} {S : RS} (h : RdIs w s a c S) : s < w.heap.size := World.block_lt_of_cell? w _ h.c0
theorem RdIs.ext {w w' : World} {s c : Nat} {a : Option Addr} {S : RS} (h : RdIs w s a c S) (hb : Below w.heap.size w w') : RdIs w' s a c S :=
  ⟨cell_toB h.c0 hb, cell_toB h.c1 hb, (hb.frozen (by exact h.lt)).trans h.f0, (hb.frozen (by exact h.lt)).trans h.f1, h.row.ext hb, h.far, h.cap, h.byt, h.len⟩
theorem RdIs.alloc {w : World} {s c : Nat} {a : Option Addr} {S : RS} (h : RdIs w s a c S) (o : Obj) : RdIs (w.alloc o) s a c S := h.ext ((Below.refl _ _).alloc (Nat.le_refl _) _)
theorem ByteRow.setFar {w : World} {a : Option Addr} {bs : List Nat} {s i : Nat} {v : Value} (h : ByteRow w a bs) (hf : ∀ b off, a = some ⟨b, off, none⟩ → bs ≠ [] → b < s) : ByteRow (w.setCell ⟨s, i, none⟩ v) a bs := by
  rcases h with rfl | ⟨b, off, rfl, hlt, hc⟩
  · exact .inl rfl
  · by_cases hl : bs = []
    · exact .inl hl
    · have hb : b ≠ s := Nat.ne_of_lt (hf b off rfl hl)
      exact .inr ⟨b, off, rfl, by simpa using hlt, fun j hj => by rw [World.cell?_setCell_far _ _ _ _ (by exact fun e => hb e.symm)]; exact hc j hj⟩
/-- other bytes -/
theorem RdIs.put {w : World} {s c c' : Nat} {a a' : Option Addr} {S : RS} {b' : List Nat} (h : RdIs w s a c S) {n : Nat} (hn : n = b'.length) (hrow : ByteRow w a' b') (hfar : ∀ b off, a' = some ⟨b, off, none⟩ → b' ≠ [] → b < s) (hcap : b'.length ≤ c') (hby : ∀ b ∈ b', b < 256) (hlen : b'.length ≤ 70368744177664) : RdIs (w.setCell ⟨s, 0, none⟩ (.slice a' n c')) s a' c' ⟨b', S.e⟩ := by
  subst hn
  exact ⟨World.cell?_setCell_same _ _ _ h.c0, by rw [World.cell?_setCell_other _ _ _ _ (by simp)]; exact h.c1, by simp [h.f0], by simp [h.f1], hrow.setFar hfar, hfar, hcap, hby, hlen⟩
theorem mut1 {w : World} {s i : Nat} {v : Value} : Mut (fun k => k = s) w (w.setCell ⟨s, i, none⟩ v) :=
  ⟨rfl, rfl, rfl, by simp, fun k _ hf => Below.heap_setCell _ _ _ _ (by exact hf)⟩
end Go.Proofs.YtppapeoainafbaaGreatDoor

namespace Go.Proofs.YtppapeoainafbaaGreatDoor
open Go.RowKit
theorem RdIs.mutT {G : Nat → Prop} {w w' : World} {s c : Nat} {a : Option Addr} {S : RS} (h : RdIs w s a c S) (hm : Mut G w w') (hG : ∀ k, G k → s < k) : RdIs w' s a c S := by
  have hb := hm.block s h.lt (fun hs => by have := hG s hs; omega)
  refine ⟨(World.cell?_of_block (w := w) (a := ⟨s, 0, none⟩) hb).trans h.c0, (World.cell?_of_block (w := w) (a := ⟨s, 1, none⟩) hb).trans h.c1, (World.frozen?_of_block (w := w) (a := ⟨s, 0, none⟩) hb).trans h.f0, (World.frozen?_of_block (w := w) (a := ⟨s, 1, none⟩) hb).trans h.f1, ?_, h.far, h.cap, h.byt, h.len⟩
  exact h.row.mutT hm (fun b off e hne hg => by have := h.far b off e hne; have := hG b hg; omega)
theorem cell_mut {G : Nat → Prop} {w w' : World} {p : Addr} {v : Value} (h : w.cell? p = some v) (hm : Mut G w w') (hG : ¬ G p.block) : w'.cell? p = some v :=
  (hm.cell (World.block_lt_of_cell? w _ h) hG).trans h
end Go.Proofs.YtppapeoainafbaaGreatDoor

namespace Go.Proofs.YtppapeoainafbaaGreatDoor
open Go.RowKit
/-- the place of a result: one cell -/
structure Cell1 (w : World) (g : Nat) (v : Value) : Prop where
  c : w.cell? ⟨g, 0, none⟩ = some v
  f : w.frozen? ⟨g, 0, none⟩ = false
theorem Cell1.made (w : World) (t : TypeId) (v : Value) : Cell1 (w.alloc (.cells #[v] t)) w.heap.size v := ⟨by simp, by simp⟩
theorem Cell1.lt {w : World} {g : Nat} {v : Value} (h : Cell1 w g v) : g < w.heap.size := World.block_lt_of_cell? w _ h.c
theorem Cell1.ext {w w' : World} {g : Nat} {v : Value} (h : Cell1 w g v) (hb : Below w.heap.size w w') : Cell1 w' g v := ⟨cell_toB h.c hb, (hb.frozen (by exact h.lt)).trans h.f⟩
theorem Cell1.mutT {G : Nat → Prop} {w w' : World} {g : Nat} {v : Value} (h : Cell1 w g v) (hm : Mut G w w') (hG : ¬ G g) : Cell1 w' g v :=
  ⟨cell_mut h.c hm hG, (World.frozen?_of_block (w := w) (a := ⟨g, 0, none⟩) (hm.block g h.lt hG)).trans h.f⟩
end Go.Proofs.YtppapeoainafbaaGreatDoor

namespace Go.Proofs.YtppapeoainafbaaGreatDoor
open Go.RowKit
/-- a box of two cells -/
structure BoxP (w : World) (b : Nat) (v0 v1 : Value) : Prop where
  c0 : w.cell? ⟨b, 0, none⟩ = some v0
  c1 : w.cell? ⟨b, 1, none⟩ = some v1
  f0 : w.frozen? ⟨b, 0, none⟩ = false
  f1 : w.frozen? ⟨b, 1, none⟩ = false
theorem BoxP.lt {w : World} {b : Nat} {v0 v1 : Value} (h : BoxP w b v0 v1) : b < w.heap.size := World.block_lt_of_cell? w _ h.c0
theorem BoxP.ext {w w' : World} {b : Nat} {v0 v1 : Value} (h : BoxP w b v0 v1) (hb : Below w.heap.size w w') : BoxP w' b v0 v1 :=
  ⟨cell_toB h.c0 hb, cell_toB h.c1 hb, (hb.frozen (by exact h.lt)).trans h.f0, (hb.frozen (by exact h.lt)).trans h.f1⟩
theorem BoxP.made (w : World) (t : TypeId) (v0 v1 : Value) : BoxP (w.alloc (.cells #[v0, v1] t)) w.heap.size v0 v1 := ⟨by simp, by simp, by simp, by simp⟩
theorem BoxP.mutT {G : Nat → Prop} {w w' : World} {b : Nat} {v0 v1 : Value} (h : BoxP w b v0 v1) (hm : Mut G w w') (hG : ¬ G b) : BoxP w' b v0 v1 :=
  ⟨cell_mut h.c0 hm hG, cell_mut h.c1 hm hG, (World.frozen?_of_block (w := w) (a := ⟨b, 0, none⟩) (hm.block b h.lt hG)).trans h.f0, (World.frozen?_of_block (w := w) (a := ⟨b, 1, none⟩) (hm.block b h.lt hG)).trans h.f1⟩
theorem BoxP.put {w : World} {b : Nat} {v0 v1 : Value} (h : BoxP w b v0 v1) (x y : Value) : BoxP ((w.setCell ⟨b, 0, none⟩ x).setCell ⟨b, 1, none⟩ y) b x y := by
  refine ⟨?_, ?_, by simp [h.f0], by simp [h.f1]⟩
  · rw [World.cell?_setCell_other _ _ _ _ (by simp)]
    exact World.cell?_setCell_same _ _ _ h.c0
  · refine World.cell?_setCell_same _ _ _ (u := v1) ?_
    rw [World.cell?_setCell_other _ _ _ _ (by simp)]
    exact h.c1
end Go.Proofs.YtppapeoainafbaaGreatDoor

namespace Go.Proofs.YtppapeoainafbaaGreatDoor
open Go.RowKit
theorem OwnP.mutT {G : Nat → Prop} {w w' : World} {base : Nat} {v : Value} {xs : List Pid} (h : OwnP w base v xs) (hm : Mut G w w') (hG : ∀ k, G k → k < base) : OwnP w' base v xs := by
  refine ⟨h.1, ?_⟩
  rcases h.2 with hn | ⟨g, cap, cur, rfl, hbb, hgg, rest⟩
  · exact .inl hn
  · exact .inr ⟨g, cap, cur, rfl, hbb, (hm.block g (Array.getElem?_eq_some_iff.1 hgg).1 (fun hg => by have := hG g hg; omega)).trans hgg, rest⟩
theorem Mut.drew {G : Nat → Prop} {w0 w : World} (hm : Mut G w0 w) : Mut G w0 w.drew := hm.trans (Mut.of_below (Below.refl _ _).drew)
end Go.Proofs.YtppapeoainafbaaGreatDoor

namespace Go.Proofs.YtppapeoainafbaaGreatDoor
open Go.RowKit
theorem OwnP.mono2 {w : World} {b b' : Nat} {v : Value} {xs : List Pid} (h : OwnP w b v xs) (hb : b' ≤ b) : OwnP w b' v xs := by
  refine ⟨h.1, ?_⟩
  rcases h.2 with hn | ⟨g, cap, cur, rfl, hbb, rest⟩
  · exact .inl hn
  · exact .inr ⟨g, cap, cur, rfl, Nat.le_trans hb hbb, rest⟩
end Go.Proofs.YtppapeoainafbaaGreatDoor

namespace Go.Proofs.YtppapeoainafbaaGreatDoor
open Go.RowKit

/-! ### view.Put's closure: a row as places -/
def rankS (S : List (Pid × Int)) (p : Pid) : List Nat := short ((look p S).getD 0).toNat
theorem take_flatS {S : List (Pid × Int)} {l : List Pid} {k : Nat} (h : k < l.length) {p : Pid} (hp : p = l[k]) : (l.take (k + 1)).flatMap (rankS S) = (l.take k).flatMap (rankS S) ++ rankS S p := by
  rw [List.take_succ_eq_append_getElem h, List.flatMap_append, hp]; simp
theorem flat_rankS_len {S : List (Pid × Int)} (hS : ∀ p, 0 ≤ (look p S).getD 0 ∧ (look p S).getD 0 < 4611686018427387904) : ∀ (l : List Pid), (l.flatMap (rankS S)).length ≤ l.length * 10
  | [] => by simp
  | p :: l => by
    have h1 := flat_rankS_len hS l
    have h2 : (rankS S p).length ≤ 10 := short_len10 (by have := (hS p).2; have := (hS p).1; omega)
    rw [List.flatMap_cons, List.length_append, List.length_cons]; omega
set_option maxRecDepth 100000 in
set_option maxHeartbeats 3200000 in
theorem putC_any {s g1 g2 r : Nat} {v : Value} {bs : List Nat} {S : List (Pid × Int)} {a : Option Addr} {c n : Nat} {l : List Pid} {w : World} (hW : WrIs w s v bs) (hl : bs.length ≤ 34359738368) (hn : Hid (l.length = n)) (hnl : n ≤ 1073741824)
    (hS : ∀ p, 0 ≤ (look p S).getD 0 ∧ (look p S).getD 0 < 4611686018427387904) (hrow : PidRow w a l) (hne : ∀ b off, a = some ⟨b, off, none⟩ → l ≠ [] → b ≠ s)
    (hp1 : w.cell? ⟨g1, 0, none⟩ = some (.pointer (some ⟨s, 0, none⟩))) (hp2 : w.cell? ⟨g2, 0, none⟩ = some (.map (some r))) (hM : MapIs w r pidV eI S) (h1 : g1 ≠ s) (h2 : g2 ≠ s) (hr : r ≠ s) :
    Calls Tryz.prog 106 #[.slice a n c, .pointer (some ⟨g1, 0, none⟩), .pointer (some ⟨g2, 0, none⟩)] w fun e w' => e = .returned (.tuple #[]) ∧ ∃ v', Wrote w w' s v' (bs ++ (short n ++ l.flatMap (rankS S))) := by
  have hln := short_len10 (n := n) (by omega)
  have C1 : Hid (Calls Tryz.prog 66 #[.pointer (some ⟨s, 0, none⟩), .int .u64 n] w fun e w' => e = .returned (.tuple #[]) ∧ ∃ v', Wrote w w' s v' (bs ++ short n)) := hid (wNum_any n hW (by omega) (by omega))
  have hs := hW.lt
  have hfl := flat_rankS_len hS
  have HFL := hid hfl
  have HSS := hid hS
  have HROW := hid hrow
  have HNE := hid hne
  have H1 := hid h1
  have H2 := hid h2
  have HRS := hid hr
  obtain ⟨B, hB⟩ : ∃ B, bs ++ short n = B := ⟨_, rfl⟩
  have hBl : B.length ≤ 34359738378 := by rw [← hB, List.length_append]; omega
  have HE : Hid (bs ++ (short n ++ l.flatMap (rankS S)) = B ++ l.flatMap (rankS S)) := hid (by rw [← hB, List.append_assoc])
  rw [hB] at C1
  have HM := hid hM
  have HP1 := hid hp1
  have HP2 := hid hp2
  have ewn : IntKind.u64.wrap ((n : Nat) : Int) = ((n : Nat) : Int) := by rw [IntKind.wrap_u64]; omega
  clear hrow hne hB hfl hS h1 h2 hr hM
  go_enter Tryz.func106, Tryz.ntmps106
  go_wp2_with (go_at_call 66; refine C1.out.mono ?_; rintro e w1 ⟨rfl, v1, hw1⟩)
  have HW1 := hid hw1
  clear hw1 ewn
  go_loopw [13] (fun i wr => ∃ (k : Nat) (vk : Value), k ≤ n ∧ i = .int .i64 k ∧ Hid (Wrote w wr s vk (B ++ (l.take k).flatMap (rankS S)))) (fun i _ => n - (intOf i).toNat)
  case atStart => exact ⟨0, v1, Nat.zero_le _, rfl, hid (by simpa using HW1.out)⟩
  case round =>
    obtain ⟨k, vk, hk, rfl, hWk⟩ := hrel
    by_cases hlt : k < n
    · have hlt' : decide (k < n) = true := by simpa using hlt
      have hkl : k < l.length := by rw [hn.out]; exact hlt
      obtain ⟨pb, po, x, y, rfl, hx, d1, d2⟩ := (HROW.out.mutT hWk.out.mt (fun b off h1 h2 => HNE.out b off h1 h2)).at (Below.refl _ _) rfl hkl
      obtain ⟨q, hq⟩ : ∃ q : Nat, (look (x, y) S).getD 0 = (q : Int) := ⟨((look (x, y) S).getD 0).toNat, by have := (HSS.out (x, y)).1; omega⟩
      have hq62 : q < 4611686018427387904 := by have := (HSS.out (x, y)).2; omega
      have HT : Hid (B ++ (l.take (k + 1)).flatMap (rankS S) = (B ++ (l.take k).flatMap (rankS S)) ++ short q) := hid (by rw [take_flatS hkl hx, rankS, hq]; simp)
      have hlen : (B ++ (l.take k).flatMap (rankS S)).length ≤ 68719476736 := by
        have h1 := HFL.out (l.take k)
        rw [List.length_take] at h1
        rw [List.length_append]; omega
      have hqq : Below wr.heap.size wr (wr.alloc (.cells #[.int .u16 x, .int .u32 y] 25)) := (Below.refl _ _).alloc (Nat.le_refl _) _
      have HQD := hid hqq.drew
      have C2 : Hid (Calls Tryz.prog 66 #[.pointer (some ⟨s, 0, none⟩), .int .u64 q] (wr.alloc (.cells #[.int .u16 x, .int .u32 y] 25)).drew fun e w' => e = .returned (.tuple #[]) ∧ ∃ v', Wrote (wr.alloc (.cells #[.int .u16 x, .int .u32 y] 25)).drew w' s v' (B ++ (l.take (k + 1)).flatMap (rankS S))) := hid (by rw [HT.out]; exact wNum_any q (hWk.out.wr.ext hqq.drew) (by omega) (by omega))
      have hsw : s < wr.heap.size := hWk.out.wr.lt
      have hMr : MapIs wr r pidV eI S := HM.out.same (hWk.out.mt.block r HM.out.lt HRS.out)
      have hc1 : wr.cell? ⟨g1, 0, none⟩ = some (.pointer (some ⟨s, 0, none⟩)) := cell_mut HP1.out hWk.out.mt H1.out
      have hc2 : wr.cell? ⟨g2, 0, none⟩ = some (.map (some r)) := cell_mut HP2.out hWk.out.mt H2.out
      have hne9 : wr.heap.size ≠ s := by omega
      have HS : Hid (∀ W, Mut (fun k => k = s) (wr.alloc (.cells #[.int .u16 x, .int .u32 y] 25)) W → W.cell? ⟨g1, 0, none⟩ = some (.pointer (some ⟨s, 0, none⟩)) ∧ W.cell? ⟨g2, 0, none⟩ = some (.map (some r)) ∧ W.cell? ⟨wr.heap.size, 0, none⟩ = some (.int .u16 x) ∧ W.cell? ⟨wr.heap.size, 1, none⟩ = some (.int .u32 y) ∧ MapIs W r pidV eI S) := hid fun W h =>
        ⟨cell_mut (cell_toB hc1 hqq) h H1.out, cell_mut (cell_toB hc2 hqq) h H2.out, cell_mut (by simp) h hne9, cell_mut (by simp) h hne9, (hMr.ext hqq).same (h.block r (hMr.ext hqq).lt HRS.out)⟩
      have hlk : ∀ W, MapIs W r pidV eI S → (Instr.lookup 121 (.map (some r)) (.agg #[.int .u16 x, .int .u32 y]) false).run Tryz.prog W = .ok (.int .i64 (q : Nat)) W := fun W h => by
        have := h.lookup_no keyPid Tryz.underlying121 (zero3 W) (x, y)
        rw [look_int, hq] at this
        exact this
      have ew : IntKind.u64.wrap ((q : Nat) : Int) = ((q : Nat) : Int) := by rw [IntKind.wrap_u64]; omega
      have HMD := hid ((Mut.refl (fun k => k = s) (wr.alloc (.cells #[.int .u16 x, .int .u32 y] 25))).drew)
      have HX := hid hx
      have HQ := hid hq
      clear hx hlen hMr hc1 hc2 hqq hq hq62
      go_wp2_with fail
      go_region_held3 (fun W => W.cell? ⟨g1, 0, none⟩ = some (.pointer (some ⟨s, 0, none⟩)) ∧ W.cell? ⟨g2, 0, none⟩ = some (.map (some r)) ∧ W.cell? ⟨wr.heap.size, 0, none⟩ = some (.int .u16 x) ∧ W.cell? ⟨wr.heap.size, 1, none⟩ = some (.int .u32 y) ∧ MapIs W r pidV eI S) (first | exact HS.out _ HMD.out | exact HS.out _ (by assumption)) (first
        | ((go_at_call 66; (with_reducible refine C2.out.mono ?_); rintro e w2 ⟨rfl, v2, hw2⟩; have hm2 := HMD.out.trans hw2.mt; have hw3 := hid (hWk.out.trans HQD.out hw2); clear hw2)))
      all_goals (
        clear ew hlk
        go_wp2
        go_roundw
        case rel => exact ⟨k + 1, v2, by omega, by go_num, hw3⟩
        case measure => simp [intOf]; omega)
    · have hlt' : decide (k < n) = false := by simpa using hlt
      have hend := hWk.out
      rw [List.take_of_length_le (by rw [hn.out]; omega), ← HE.out] at hend
      have HEND := hid hend
      clear hend
      go_wp2
      exact bodyPost_end (results_none rfl _ _ _) rfl ⟨rfl, _, HEND.out⟩
end Go.Proofs.YtppapeoainafbaaGreatDoor

namespace Go.Proofs.YtppapeoainafbaaGreatDoor
open Go.RowKit

/-! ### view.Put -/
theorem atIx_neg {ms : List Pid} {p : Pid} (h : p ∉ ms) : atIx ms p < 0 := atFrom_neg.2 h
theorem rankS_F (ms : List Pid) (p : Pid) : rankS (ranksL ms) p = rankF ms p := by
  unfold rankS rankF
  rw [look_ranksL]
  unfold rankO
  by_cases h : atIx ms p < 0
  · rw [if_pos h]
    have : (atIx ms p).toNat = 0 := by omega
    rw [this]; rfl
  · rw [if_neg h]; rfl
theorem flat_rankS_F (ms l : List Pid) : l.flatMap (rankS (ranksL ms)) = l.flatMap (rankF ms) := by
  rw [show rankS (ranksL ms) = rankF ms from funext (rankS_F ms)]
theorem rankS_bound {ms : List Pid} (h : ms.length ≤ 1000) (p : Pid) : 0 ≤ (look p (ranksL ms)).getD 0 ∧ (look p (ranksL ms)).getD 0 < 4611686018427387904 := by
  rw [look_ranksL]
  unfold rankO
  by_cases hp : p ∈ ms
  · obtain ⟨h1, h2, -⟩ := atIx_get hp
    rw [if_neg (by omega)]
    show 0 ≤ atIx ms p ∧ atIx ms p < 4611686018427387904
    omega
  · rw [if_pos (atIx_neg hp)]
    exact ⟨by decide, by decide⟩
/-- a row of an earlier world is no block of a later one -/
theorem PidRow.far {w : World} {a : Option Addr} {l : List Pid} (h : PidRow w a l) {s : Nat} (hs : w.heap.size ≤ s) : ∀ b off, a = some ⟨b, off, none⟩ → l ≠ [] → b ≠ s := by
  rintro b off rfl hl
  rcases h with rfl | ⟨b', off', e, hlt, -⟩
  · exact absurd rfl hl
  · cases e; omega
theorem placesF_len {ms l : List Pid} (hm : ms.length ≤ 1000) (hl : l.length ≤ 1000) : (placesF ms l).length ≤ 10010 := by
  unfold placesF
  have h1 := short_len10 (n := l.length) (by omega)
  have h2 := flat_rankS_len (S := ranksL ms) (rankS_bound hm) l
  rw [flat_rankS_F] at h2
  rw [List.length_append]; omega
theorem flat_places_len {ms : List Pid} (hm : ms.length ≤ 1000) : ∀ (ls : List (List Pid)), (∀ l ∈ ls, l.length ≤ 1000) → (ls.flatMap (placesF ms)).length ≤ ls.length * 10010
  | [], _ => by simp
  | l :: ls, h => by
    have h1 := flat_places_len hm ls (fun x hx => h x (by simp [hx]))
    have h2 := placesF_len hm (h l (by simp))
    rw [List.flatMap_cons, List.length_append, List.length_cons]; omega
theorem take_places {ms : List Pid} {ls : List (List Pid)} {k : Nat} (h : k < ls.length) {l : List Pid} (hl : l = ls[k]) : (ls.take (k + 1)).flatMap (placesF ms) = (ls.take k).flatMap (placesF ms) ++ placesF ms l := by
  rw [List.take_succ_eq_append_getElem h, List.flatMap_append, hl]; simp
theorem putC_F {s g1 g2 r : Nat} {v : Value} {bs : List Nat} {ms : List Pid} {a : Option Addr} {c : Nat} {l : List Pid} {w w0 : World} (hW : WrIs w s v bs) (hl : bs.length ≤ 34359738368) (hnl : l.length ≤ 1000) (hm : ms.length ≤ 1000) (hrow : PidRow w0 a l) (h0 : Below w0.heap.size w0 w) (hs0 : w0.heap.size ≤ s)
    (hp1 : w.cell? ⟨g1, 0, none⟩ = some (.pointer (some ⟨s, 0, none⟩))) (hp2 : w.cell? ⟨g2, 0, none⟩ = some (.map (some r))) (hM : MapIs w r pidV eI (ranksL ms)) (h1 : g1 ≠ s) (h2 : g2 ≠ s) (hr : r ≠ s) :
    Calls Tryz.prog 106 #[.slice a l.length c, .pointer (some ⟨g1, 0, none⟩), .pointer (some ⟨g2, 0, none⟩)] w fun e w' => e = .returned (.tuple #[]) ∧ ∃ v', Wrote w w' s v' (bs ++ placesF ms l) := by
  have := putC_any (c := c) hW hl (hid rfl) (by omega) (rankS_bound hm) (hrow.ext h0) (hrow.far hs0) hp1 hp2 hM h1 h2 hr
  rw [flat_rankS_F] at this
  exact this
end Go.Proofs.YtppapeoainafbaaGreatDoor

namespace Go.Proofs.YtppapeoainafbaaGreatDoor
open Go.RowKit

/-! ### view.Put, where the view may be -/
theorem Wrote.step {w w1 w2 : World} {s : Nat} {v1 v2 : Value} {b1 b2 : List Nat} (h : Wrote w w1 s v1 b1) (h2 : Wrote w1 w2 s v2 b2) : Wrote w w2 s v2 b2 := h.trans (Below.refl _ _) h2
theorem ranks_is {V : View} {am al ad : Option Addr} {cm cl cd : Nat} {w : World} (hV : ViewR w am al ad V) :
   Calls Tryz.prog 83 #[.agg #[.int .u64 V.id, .slice am V.ms.length cm, .slice al V.ls.length cl, .slice ad V.ds.length cd]] w fun e w' => ∃ r, e = .returned (.map (some r)) ∧ w.heap.size ≤ r ∧ Below w.heap.size w w' ∧ MapIs w' r pidV eI (ranksL V.ms) := ranks_any V am al ad cm cl cd w hV

theorem Wrote.pre {w w1 w2 : World} {s : Nat} {v : Value} {bs : List Nat} (hb : Below w.heap.size w w1) (h : Wrote w1 w2 s v bs) : Wrote w w2 s v bs :=
  ⟨h.wr, h.own.mono hb.size, (Mut.of_below hb).trans h.mt⟩
/-- what the rest of view.Put leans on -/
structure PutS (w0 W : World) (s g1 g2 r b i : Nat) (V : View) (am al ad : Option Addr) (cm cl cd : Nat) : Prop where
  c1 : W.cell? ⟨g1, 0, none⟩ = some (.pointer (some ⟨s, 0, none⟩))
  c2 : W.cell? ⟨g2, 0, none⟩ = some (.map (some r))
  y0 : W.cell? ⟨b, 0, none⟩ = some (.int .u64 i)
  y1 : W.cell? ⟨b, 1, none⟩ = some (.slice am V.ms.length cm)
  y2 : W.cell? ⟨b, 2, none⟩ = some (.slice al V.ls.length cl)
  y3 : W.cell? ⟨b, 3, none⟩ = some (.slice ad V.ds.length cd)
  M : MapIs W r pidV eI (ranksL V.ms)
  n1 : g1 ≠ s
  n2 : g2 ≠ s
  nr : r ≠ s
  nb : b ≠ s
  b0 : Below w0.heap.size w0 W
  hs : w0.heap.size ≤ s
theorem PutS.mut {w0 W W' : World} {s g1 g2 r b i : Nat} {V : View} {am al ad : Option Addr} {cm cl cd : Nat} (h : PutS w0 W s g1 g2 r b i V am al ad cm cl cd) (hm : Mut (fun k => k = s) W W') : PutS w0 W' s g1 g2 r b i V am al ad cm cl cd :=
  ⟨cell_mut h.c1 hm h.n1, cell_mut h.c2 hm h.n2, cell_mut h.y0 hm h.nb, cell_mut h.y1 hm h.nb, cell_mut h.y2 hm h.nb, cell_mut h.y3 hm h.nb, h.M.same (hm.block r h.M.lt h.nr), h.n1, h.n2, h.nr, h.nb, h.b0.trans (hm.below h.b0.size (fun _k e => e ▸ h.hs)), h.hs⟩

set_option maxRecDepth 100000 in
set_option maxHeartbeats 6400000 in
theorem viewPut_any {s : Nat} {v : Value} {bs : List Nat} {V : View} {i : Nat} {am al ad : Option Addr} {cm cl cd : Nat} {w0 w : World} (hi : V.id = (i : Int)) (hi64 : i < 18446744073709551616) (hW : WrIs w s v bs) (hl : bs.length ≤ 1000000)
    (hV : ViewR w0 am al ad V) (h0 : Below w0.heap.size w0 w) (hs0 : w0.heap.size ≤ s) (hok : ∀ p ∈ V.ms, okP p) (hlm : V.ms.length ≤ 1000) (hll : V.ls.length ≤ 1000) (hld : V.ds.length ≤ 1000) (hle : ∀ l ∈ V.ls, l.length ≤ 1000) (hsum : lens V.ls ≤ 549755813888) (hc : checkB V = true) :
   Calls Tryz.prog 71 #[.pointer (some ⟨s, 0, none⟩), .agg #[.int .u64 i, .slice am V.ms.length cm, .slice al V.ls.length cl, .slice ad V.ds.length cd]] w fun e w' => e = .returned (.tuple #[]) ∧ ∃ v', Wrote w w' s v' (bs ++ viewF V) := by
  have hs := hW.lt
  obtain ⟨W2, hW2⟩ : ∃ W2, ((w.alloc (.cells #[.pointer (some ⟨s, 0, none⟩)] 105)).alloc (.cells #[.int .u64 i, .slice am V.ms.length cm, .slice al V.ls.length cl, .slice ad V.ds.length cd] 33)) = W2 := ⟨_, rfl⟩
  have hB2 : Below w.heap.size w W2 := by rw [← hW2]; exact ((Below.refl _ _).alloc (Nat.le_refl _) _).alloc (by simp) _
  have xg : W2.cell? ⟨w.heap.size, 0, none⟩ = some (.pointer (some ⟨s, 0, none⟩)) := by rw [← hW2]; simp
  have xv : ViewBox W2 (w.heap.size + 1) V am al ad cm cl cd := by
    rw [← hW2]
    have := ViewBox.made (V := V) (am := am) (al := al) (ad := ad) (cm := cm) (cl := cl) (cd := cd) (w.alloc (.cells #[.pointer (some ⟨s, 0, none⟩)] 105))
    rw [hi] at this
    simpa using this
  have hz2 : W2.heap.size = w.heap.size + 1 + 1 := by rw [← hW2]; simp
  have hb2 : Below w0.heap.size w0 W2 := h0.trans (hB2.mono h0.size)
  have HB02 := hid hb2
  have hV2 : ViewR W2 am al ad V := hV.ext hb2
  have HC := hid hc
  have CK : Hid (Calls Tryz.prog 44 #[.agg #[.int .u64 i, .slice am V.ms.length cm, .slice al V.ls.length cl, .slice ad V.ds.length cd]] W2 fun e w' => e = .returned (.int .i64 0) ∧ Below W2.heap.size W2 w') := hid (by
    have := check_is (k := 0) (cm := cm) (cl := cl) (cd := cd) HC rfl hV2 hsum
    rw [hi] at this; exact this)
  have CR : Hid (∀ W, Below W2.heap.size W2 W → Calls Tryz.prog 83 #[.agg #[.int .u64 i, .slice am V.ms.length cm, .slice al V.ls.length cl, .slice ad V.ds.length cd]] W fun e w' => ∃ r, e = .returned (.map (some r)) ∧ W.heap.size ≤ r ∧ Below W.heap.size W w' ∧ MapIs w' r pidV eI (ranksL V.ms)) := hid (fun W h => by
    have := ranks_is (cm := cm) (cl := cl) (cd := cd) (hV2.ext h)
    rw [hi] at this; exact this)
  have HB2 := hid hB2
  have HXV := hid xv
  have HZ2 := hid hz2
  have HV := hid hV
  have H0 := hid h0
  have HWR := hid hW
  have HOK := hid hok
  have ewl : IntKind.u64.wrap ((V.ls.length : Nat) : Int) = ((V.ls.length : Nat) : Int) := by rw [IntKind.wrap_u64]; omega
  obtain ⟨y0, y1, y2, y3⟩ := id xv
  rw [hi] at y0
  have HXG := hid xg
  have HS := hid hs
  have HS0 := hid hs0
  have HLE := hid hle
  have HI := hid hi
  clear hc hV2 hB2 xv hz2 hV h0 hW hok xg hs0 hle hsum hs hb2 hi
  go_enter Tryz.func71, Tryz.ntmps71
  go_wp2_with fail
  (with_reducible refine CK.out.mono ?_)
  rintro e w3 ⟨rfl, hb3⟩
  have z0 := cell_toB y0 hb3
  have z1 := cell_toB y1 hb3
  have z2 := cell_toB y2 hb3
  have z3 := cell_toB y3 hb3
  clear y0 y1 y2 y3
  go_wp2_with fail
  (with_reducible refine (CR.out _ hb3).mono ?_)
  rintro e w4 ⟨r, rfl, hr4, hb4, hM4⟩
  clear z0 z1 z2 z3 hW2
  obtain ⟨w5, hw5⟩ : ∃ w5, w4.alloc (.cells #[.map (some r)] 121) = w5 := ⟨_, rfl⟩
  have hb45 : Below w4.heap.size w4 w5 := by rw [← hw5]; exact (Below.refl _ _).alloc (Nat.le_refl _) _
  have hb25 : Below W2.heap.size W2 w5 := hb3.trans ((hb4.trans (hb45.mono hb4.size)).mono hb3.size)
  have hz := HZ2.out
  have hsw := HS.out
  have h34 := hb4.size
  have h23 := hb3.size
  obtain ⟨y0, y1, y2, y3⟩ := HXV.out.ext hb25 (by omega)
  rw [HI.out] at y0
  have P5 : PutS w0 w5 s w.heap.size w4.heap.size r (w.heap.size + 1) i V am al ad cm cl cd :=
    ⟨cell_toB HXG.out hb25, by rw [← hw5]; simp, y0, y1, y2, y3, hM4.ext hb45, by omega, by omega, by omega, by omega, HB02.out.trans (hb25.mono HB02.out.size), HS0.out⟩
  have hbw5 : Below w.heap.size w w5 := HB2.out.trans (hb25.mono HB2.out.size)
  have HBW5 := hid hbw5
  have P5' := hid P5
  have N1 := hid (wNum_any i (HWR.out.ext hbw5) (by omega) hi64)
  clear hb3 hb4 hM4 hr4 CK CR hb45 hb25 hz hsw h34 h23 hbw5
  generalize w.heap.size + 1 = b at y0 y1 y2 y3 P5 P5' ⊢
  generalize hg1 : w.heap.size = g1 at P5 P5' ⊢
  have x1 := P5.c1
  clear P5
  have hp1 := flat_pidF_len HOK.out
  have ln1 := short_len10 (n := i) (by omega)
  have ln2 := short_len10 (n := V.ms.length) (by omega)
  have ln3 := short_len10 (n := V.ls.length) (by omega)
  have hpl : (pidsF V.ms).length ≤ 20010 := by unfold pidsF; rw [List.length_append]; omega
  go_wp2_with fail
  refine N1.out.mono ?_
  rintro e w6 ⟨rfl, v6, hw6⟩
  have P6 := hid (P5'.out.mut hw6.mt)
  have N2 := hid (wPids_any (n := V.ms.length) (c := cm) hw6.wr (by rw [List.length_append]; omega) (hid rfl) (by omega) HOK.out (HV.out.ms.ext P6.out.b0) (HV.out.ms.far HS0.out))
  have HW6 := hid hw6
  clear hw6 N1 y0 y1 y2 y3 x1 hw5
  have x1 := P6.out.c1
  have y1 := P6.out.y1
  go_wp2_with fail
  refine N2.out.mono ?_
  rintro e w7 ⟨rfl, v7, hw7⟩
  have P7 := hid (P6.out.mut hw7.mt)
  have N3 := hid (wNum_any V.ls.length hw7.wr (by simp only [List.length_append]; omega) (by omega))
  have HW7 := hid (HW6.out.step hw7)
  clear hw7 N2 x1 y1 P6 HW6
  have x1 := P7.out.c1
  have y2 := P7.out.y2
  go_wp2_with fail
  refine N3.out.mono ?_
  rintro e w8 ⟨rfl, v8, hw8⟩
  have P8 := hid (P7.out.mut hw8.mt)
  have HW8 := hid (HW7.out.step hw8)
  clear hw8 N3 x1 y2 P7 HW7
  have y2 := P8.out.y2
  have y3 := P8.out.y3
  obtain ⟨B, hB⟩ : ∃ B, ((bs ++ short i) ++ pidsF V.ms) ++ short V.ls.length = B := ⟨_, rfl⟩
  have hBl : B.length ≤ 1100000 := by rw [← hB]; simp only [List.length_append]; omega
  have hfl := flat_places_len (ms := V.ms) (by omega) V.ls HLE.out
  have HE : Hid (bs ++ viewF V = (B ++ V.ls.flatMap (placesF V.ms)) ++ placesF V.ms V.ds) := hid (by
    unfold viewF; rw [← hB, HI.out]; simp)
  rw [hB] at HW8
  have HTL : Hid (∀ k, (B ++ (V.ls.take k).flatMap (placesF V.ms)).length ≤ 34359738368) := hid (fun k => by
    have h1 := flat_places_len (ms := V.ms) (by omega) (V.ls.take k) (fun l hl => HLE.out l (List.mem_of_mem_take hl))
    rw [List.length_take] at h1
    rw [List.length_append]
    omega)
  clear hB hp1 hpl ln1 ln2 ln3 hfl ewl
  generalize hg2 : w4.heap.size = g2 at P8 P5' ⊢
  clear hg2
  go_wp2_with fail
  go_loopw [31] (fun i wr => ∃ (k : Nat) (vk : Value), k ≤ V.ls.length ∧ i = .int .i64 k ∧ Hid (Wrote w5 wr s vk (B ++ (V.ls.take k).flatMap (placesF V.ms)))) (fun i _ => V.ls.length - (intOf i).toNat)
  case atStart => exact ⟨0, v8, Nat.zero_le _, rfl, hid (by simpa using HW8.out)⟩
  case round =>
    obtain ⟨k, vk, hk, rfl, hWk⟩ := hrel
    have Pr := hid (P5'.out.mut hWk.out.mt)
    by_cases hlt : k < V.ls.length
    · have hlt' : decide (k < V.ls.length) = true := by simpa using hlt
      obtain ⟨bl, ofl, ai, ci, l, rfl, hx, f1, f2⟩ := HV.out.ls.at (Below.refl _ _) rfl hlt
      have d1 := cell_toB f1 Pr.out.b0
      have hll1 : l.length ≤ 1000 := HLE.out l (by rw [hx]; exact List.getElem_mem _)
      have HT : Hid (B ++ (V.ls.take (k + 1)).flatMap (placesF V.ms) = (B ++ (V.ls.take k).flatMap (placesF V.ms)) ++ placesF V.ms l) := hid (by rw [take_places hlt hx]; simp)
      have C2 : Hid (Calls Tryz.prog 106 #[.slice ai l.length ci, .pointer (some ⟨g1, 0, none⟩), .pointer (some ⟨g2, 0, none⟩)] wr fun e w' => e = .returned (.tuple #[]) ∧ ∃ v', Wrote wr w' s v' (B ++ (V.ls.take (k + 1)).flatMap (placesF V.ms))) := hid (by
        rw [HT.out]
        exact putC_F hWk.out.wr (HTL.out k) hll1 hlm f2 Pr.out.b0 HS0.out Pr.out.c1 Pr.out.c2 Pr.out.M Pr.out.n1 Pr.out.n2 Pr.out.nr)
      clear hx f1 f2 y2 y3
      go_wp2_with (go_at_call 106; (with_reducible refine C2.out.mono ?_); rintro e w9 ⟨rfl, v9, hw9⟩; have hw10 := hid (hWk.out.step hw9); clear hw9)
      go_roundw
      case rel => exact ⟨k + 1, v9, by omega, by go_num, hw10⟩
      case measure => simp [intOf]; omega
    · have hlt' : decide (k < V.ls.length) = false := by simpa using hlt
      have hend := hWk.out
      rw [List.take_of_length_le (by omega)] at hend
      have hH := HTL.out k
      rw [List.take_of_length_le (by omega)] at hH
      have C3 : Hid (Calls Tryz.prog 106 #[.slice ad V.ds.length cd, .pointer (some ⟨g1, 0, none⟩), .pointer (some ⟨g2, 0, none⟩)] wr fun e w' => e = .returned (.tuple #[]) ∧ ∃ v', Wrote wr w' s v' (bs ++ viewF V)) := hid (by
        rw [HE.out]
        exact putC_F hend.wr hH hld hlm HV.out.ds (Pr.out.b0) HS0.out Pr.out.c1 Pr.out.c2 Pr.out.M Pr.out.n1 Pr.out.n2 Pr.out.nr)
      have HEND := hid hend
      have d3 := Pr.out.y3
      clear hend y2 y3 hH
      go_wp2_with (go_at_call 106; (with_reducible refine C3.out.mono ?_); rintro e w9 ⟨rfl, v9, hw9⟩)
      exact bodyPost_end (results_none rfl _ _ _) rfl ⟨rfl, _, (HEND.out.step hw9).pre HBW5.out⟩
end Go.Proofs.YtppapeoainafbaaGreatDoor

namespace Go.Proofs.YtppapeoainafbaaGreatDoor
open Go.RowKit

/-! ### what a view that may be is bounded by; great of a command -/
theorem laid_of_check {V : View} (hw : WfPids V.ms) (h : checkB V = true) : Laid V := by
  unfold checkB at h
  simp only [Bool.and_eq_true, decide_eq_true_eq, chkFrom_iff, chkEnd, ris_same, List.nil_append, Nat.zero_add] at h
  obtain ⟨a, b, c, d, e, f, g, h, i⟩ := h
  have hl := lens_flatten V.ls
  unfold membersB at c
  rw [memFrom_iff] at c
  have hls := lens_ge (fun l hl => (d l hl).1)
  have hc := c.1.2
  refine ⟨by omega, b, hw, hc, by omega, fun l hl => ⟨risR_mem (d l hl).2, ?_⟩, ⟨risR_mem i, ?_⟩⟩
  · have := nodup_len (risR_nodup (d l hl).2) (risR_mem (d l hl).2); omega
  · have := nodup_len (risR_nodup i) (risR_mem i); omega
theorem lens_leC {n : Nat} : ∀ {ls : List (List Pid)}, (∀ l ∈ ls, l.length ≤ n) → lens ls ≤ ls.length * n
  | [], _ => by simp [lens]
  | l :: ls, h => by
    have h1 := h l (by simp)
    have h2 := lens_leC (ls := ls) (fun x hx => h x (by simp [hx]))
    simp only [lens, List.map_cons, List.sum_cons, List.length_cons] at *
    rw [Nat.add_mul]; omega
theorem great_noC {V : View} (h : greatB V = false) : V.ms.length ≤ 40 ∧ V.ls.length ≤ 40 ∧ V.ds.length ≤ 40 ∧ (∀ l ∈ V.ls, l.length ≤ 40) ∧ lens V.ls ≤ 1600 := by
  unfold greatB at h
  simp only [Bool.or_eq_false_iff, decide_eq_false_iff_not, List.any_eq_false] at h
  obtain ⟨a, b, c, d⟩ := h
  have d' : ∀ l ∈ V.ls, l.length ≤ 40 := fun l hl => by have := d l hl; simp at this; omega
  have := lens_leC d'
  exact ⟨by omega, by omega, by omega, d', by omega⟩
def greatC (A : CmdD) : Bool := decide (400 < A.data.length) || greatB A.v
set_option maxRecDepth 100000 in
set_option maxHeartbeats 1600000 in
theorem cmdGreat_any {A : CmdD} {da am al ad : Option Addr} {dc cm cl cd : Nat} {w : World} (hV : ViewR w am al ad A.v) :
   Calls Tryz.prog 20 #[.agg (cmdL da am al ad dc cm cl cd A)] w fun e w' => e = .returned (.bool (greatC A)) ∧ Below w.heap.size w w' := by
  have xA : CmdBox (w.alloc (.cells (cmdL da am al ad dc cm cl cd A) 35)) w.heap.size A da am al ad dc cm cl cd := CmdBox.made (c := A) w
  have hB1 : Below w.heap.size w (w.alloc (.cells (cmdL da am al ad dc cm cl cd A) 35)) := (Below.refl _ _).alloc (Nat.le_refl _) _
  have hl : ∀ (x : CmdD) (da am al ad : Option Addr) (dc cm cl cd : Nat), cmdL da am al ad dc cm cl cd x = #[.int .i64 x.kind, .int .u16 x.fr.1, .int .u32 x.fr.2, .int .u64 x.num, .int .u64 x.vw, .slice da x.data.length dc, .int .u64 x.v.id, .slice am x.v.ms.length cm, .slice al x.v.ls.length cl, .slice ad x.v.ds.length cd] := fun _ _ _ _ _ _ _ _ _ => rfl
  simp only [hl] at *
  have hV1 := hV.ext hB1
  obtain ⟨a0, a1, a2, a3, a4, a5, a6, a7, a8, a9⟩ := id xA
  obtain ⟨r, hr⟩ : ∃ r, greatB A.v = r := ⟨_, rfl⟩
  have HR := hid hr
  by_cases h : 400 < A.data.length
  · have hd : decide ((A.data.length : Int) > 400) = true := by simp; omega
    have hd' : decide ((400 : Int) < (A.data.length : Int)) = true := by simp; omega
    have HC : Hid (greatC A = true) := hid (by unfold greatC; rw [decide_eq_true h]; rfl)
    clear h
    go_enter Tryz.func20, Tryz.ntmps20
    go_wp2
    go_ret
    exact ⟨by rw [HC.out]; rfl, hB1⟩
  · have hd : decide ((A.data.length : Int) > 400) = false := by simp; omega
    have hd' : decide ((400 : Int) < (A.data.length : Int)) = false := by simp; omega
    have HC : Hid (greatC A = r) := hid (by unfold greatC; rw [decide_eq_false h, hr]; rfl)
    clear h hr
    go_enter Tryz.func20, Tryz.ntmps20
    go_wp2_with (go_at_call 12; (with_reducible refine (great_is HR hV1).mono ?_); rintro e w3 ⟨rfl, hb3⟩)
    go_ret
    exact ⟨by rw [HC.out]; rfl, hB1.trans (hb3.mono hB1.size)⟩
theorem cmdGreat_is {A : CmdD} {da am al ad : Option Addr} {dc cm cl cd : Nat} {w : World} {r : Bool} (h : Hid (greatC A = r)) (hV : ViewR w am al ad A.v) :
   Calls Tryz.prog 20 #[.agg (cmdL da am al ad dc cm cl cd A)] w fun e w' => e = .returned (.bool r) ∧ Below w.heap.size w w' := by
  have := cmdGreat_any (da := da) (dc := dc) (cm := cm) (cl := cl) (cd := cd) hV
  rw [h.out] at this; exact this
theorem greatC_no {A : CmdD} (h : greatC A = false) : A.data.length ≤ 400 ∧ lens A.v.ls ≤ 1600 := by
  unfold greatC at h
  simp only [Bool.or_eq_false_iff, decide_eq_false_iff_not] at h
  exact ⟨by omega, (great_noC h.2).2.2.2.2⟩
theorem viewF_small {V : View} (h : Laid V) : (viewF V).length ≤ 290000 := by
  have h1 := short_len10 (n := V.id.toNat) (by have := h.id1; omega)
  have h2 := short_len10 (n := V.ms.length) (by have := h.lm; omega)
  have h3 := flat_pidF_len h.wf
  have h4 := short_len10 (n := V.ls.length) (by have := h.ll; omega)
  have h5 := flat_places_len (ms := V.ms) (by have := h.lm; omega) V.ls (fun l hl => by have := (h.le l hl).2; omega)
  have h6 := placesF_len (ms := V.ms) (l := V.ds) (by have := h.lm; omega) (by have := h.ld.2; omega)
  have h7 := h.lm
  have h8 := h.ll
  unfold viewF pidsF
  simp only [List.length_append]
  omega
end Go.Proofs.YtppapeoainafbaaGreatDoor

namespace Go.Proofs.YtppapeoainafbaaGreatDoor
open Go.RowKit

/-! ### cmd.Put, where the command may be -/
theorem CmdBox.mutT {w w' : World} {b s : Nat} {c : CmdD} {da am al ad : Option Addr} {dc cm cl cd : Nat} (h : CmdBox w b c da am al ad dc cm cl cd) (hm : Mut (fun k => k = s) w w') (hb : b ≠ s) : CmdBox w' b c da am al ad dc cm cl cd :=
  ⟨cell_mut h.c0 hm hb, cell_mut h.c1 hm hb, cell_mut h.c2 hm hb, cell_mut h.c3 hm hb, cell_mut h.c4 hm hb, cell_mut h.c5 hm hb, cell_mut h.c6 hm hb, cell_mut h.c7 hm hb, cell_mut h.c8 hm hb, cell_mut h.c9 hm hb⟩
theorem cmdCheck_is {A : CmdD} {da am al ad : Option Addr} {dc cm cl cd : Nat} {w : World} {r : Int} (h : Hid ((cmdChk A : Int) = r)) (hA : CmdR w da am al ad A) (hsum : lens A.v.ls ≤ 549755813888) (hwf : WfPids A.v.ms) (hfr : okP A.fr) :
   Calls Tryz.prog 77 #[.agg (cmdL da am al ad dc cm cl cd A)] w fun e w' => e = .returned (.int .i64 r) ∧ Below w.heap.size w w' := by
  have := cmdCheck_any (dc := dc) (cm := cm) (cl := cl) (cd := cd) hA hsum hwf hfr
  rw [h.out] at this; exact this
theorem cmdF_1 {A : CmdD} (h : A.kind = 1) : cmdF A = short 1 := by
  unfold cmdF; rw [if_neg (by omega), if_neg (by omega), h]; simp
theorem cmdF_2 {A : CmdD} {x y : Nat} (h : A.kind = 2) (hf : A.fr = ((x : Int), (y : Int))) : cmdF A = short 2 ++ ((short x ++ short y) ++ (short A.num ++ (short A.vw ++ (short A.data.length ++ A.data)))) := by
  unfold cmdF; rw [if_pos h, h, hf, pidF_nat]; rfl
theorem cmdF_3 {A : CmdD} (h : A.kind = 3) : cmdF A = short 3 ++ viewF A.v := by
  unfold cmdF; rw [if_neg (by omega), if_pos h, h]; rfl
theorem cmdChk_kinds {A : CmdD} (h : cmdChk A = 0) : A.kind = 1 ∨ (A.kind = 2 ∧ A.num < 18446744073709551616 ∧ A.vw < 18446744073709551616 ∧ A.data.length ≤ 200) ∨ (A.kind = 3 ∧ refCheckB A.v = true) := by
  unfold cmdChk at h
  split at h
  · next h1 => exact .inl h1
  · split at h
    · next h2 =>
      split at h
      · next g =>
        obtain ⟨-, g2, g3, -⟩ := g
        unfold cntB at g2 g3
        simp only [Bool.and_eq_true, decide_eq_true_eq] at g2 g3
        split at h
        · cases h
        · exact .inr (.inl ⟨h2, by omega, by omega, by omega⟩)
      · cases h
    · split at h
      · next h3 =>
        split at h
        · next g => exact .inr (.inr ⟨h3, g.2.2.2.2⟩)
        · cases h
      · cases h
theorem ByteRow.far {w : World} {a : Option Addr} {l : List Nat} (h : ByteRow w a l) {s : Nat} (hs : w.heap.size ≤ s) : ∀ b off, a = some ⟨b, off, none⟩ → l ≠ [] → b ≠ s := by
  rintro b off rfl hl
  rcases h with rfl | ⟨b', off', e, hlt, -⟩
  · exact absurd rfl hl
  · cases e; omega
theorem wNum_z {s : Nat} {v : Value} {bs : List Nat} {w : World} (m : Nat) {z : Int} (hz : z = (m : Int)) (hW : WrIs w s v bs) (hl : bs.length ≤ 137438953472) (hm : m < 18446744073709551616) :
    Calls Tryz.prog 66 #[.pointer (some ⟨s, 0, none⟩), .int .u64 z] w fun e w' => e = .returned (.tuple #[]) ∧ ∃ v', Wrote w w' s v' (bs ++ short m) := by
  subst hz; exact wNum_any m hW hl hm
theorem below_mut {w0 W W' : World} {s : Nat} (h : Below w0.heap.size w0 W) (hm : Mut (fun k => k = s) W W') (hs : w0.heap.size ≤ s) : Below w0.heap.size w0 W' :=
  h.trans (hm.below h.size (fun _k e => e ▸ hs))

set_option maxRecDepth 100000 in
set_option maxHeartbeats 6400000 in
theorem cmdPut_any {s : Nat} {v : Value} {bs : List Nat} {A : CmdD} {da am al ad : Option Addr} {dc cm cl cd : Nat} {w0 w : World} (hW : WrIs w s v bs) (hbl : bs.length ≤ 900000)
    (hdr : ByteRow w da A.data) (hdb : ∀ b ∈ A.data, b < 256) (hdl : A.data.length ≤ 400) (hdne : ∀ b off, da = some ⟨b, off, none⟩ → A.data ≠ [] → b ≠ s)
    (hV : ViewR w0 am al ad A.v) (h0 : Below w0.heap.size w0 w) (hs0 : w0.heap.size ≤ s) (hfr : okP A.fr) (hwf : WfPids A.v.ms) (hid64 : 0 ≤ A.v.id ∧ A.v.id < 18446744073709551616) (hsum : lens A.v.ls ≤ 549755813888) (hc : cmdChk A = 0) :
   Calls Tryz.prog 70 #[.pointer (some ⟨s, 0, none⟩), .agg (cmdL da am al ad dc cm cl cd A)] w fun e w' => e = .returned (.tuple #[]) ∧ ∃ v', Wrote w w' s v' (bs ++ cmdF A) := by
  have hB1 : Below w.heap.size w (w.alloc (.cells (cmdL da am al ad dc cm cl cd A) 35)) := (Below.refl _ _).alloc (Nat.le_refl _) _
  have hb01 : Below w0.heap.size w0 (w.alloc (.cells (cmdL da am al ad dc cm cl cd A) 35)) := h0.trans (hB1.mono h0.size)
  have hdr1 := hdr.ext hB1
  have CK : Hid (Calls Tryz.prog 77 #[.agg (cmdL da am al ad dc cm cl cd A)] (w.alloc (.cells (cmdL da am al ad dc cm cl cd A) 35)) fun e w' => e = .returned (.int .i64 0) ∧ Below (w.alloc (.cells (cmdL da am al ad dc cm cl cd A) 35)).heap.size (w.alloc (.cells (cmdL da am al ad dc cm cl cd A) 35)) w') :=
    hid (cmdCheck_is (hid (by rw [hc]; rfl)) ⟨hdr1, by omega, hdb, hV.ext hb01⟩ hsum hwf hfr)
  have hs := hW.lt
  have hns : w.heap.size ≠ s := by omega
  have HX := hid hW
  have XA : Hid (CmdBox (w.alloc (.cells (cmdL da am al ad dc cm cl cd A) 35)) w.heap.size A da am al ad dc cm cl cd) := hid (CmdBox.made (c := A) w)
  have hl : ∀ (x : CmdD) (da am al ad : Option Addr) (dc cm cl cd : Nat), cmdL da am al ad dc cm cl cd x = #[.int .i64 x.kind, .int .u16 x.fr.1, .int .u32 x.fr.2, .int .u64 x.num, .int .u64 x.vw, .slice da x.data.length dc, .int .u64 x.v.id, .slice am x.v.ms.length cm, .slice al x.v.ls.length cl, .slice ad x.v.ds.length cd] := fun _ _ _ _ _ _ _ _ _ => rfl
  obtain ⟨CL, hCL⟩ : ∃ CL, cmdL da am al ad dc cm cl cd A = CL := ⟨_, rfl⟩
  rw [hCL] at CK XA hB1 hb01 ⊢
  rw [hl] at hCL
  have hHW := hW.ext hB1
  obtain ⟨a0, a1, a2, a3, a4, a5, a6, a7, a8, a9⟩ := id XA.out
  have HDR := hid hdr
  have HNE := hid hdne
  have HV := hid hV
  have H0 := hid h0
  have HS0 := hid hs0
  have HWF := hid hwf
  rcases cmdChk_kinds hc with hk | ⟨hk, hnum, hvw, hdl2⟩ | ⟨hk, hrc⟩
  · have HF := hid (cmdF_1 hk)
    have HK := hid hk
    rw [hk] at a0 hCL
    subst hCL
    have e1 : IntKind.u64.wrap (1 : Int) = 1 := by decide
    clear hc hk hW h0 hs0 hdr hdr1 hdb hdne hV hfr hwf hsum hl
    go_enter Tryz.func70, Tryz.ntmps70
    go_wp2_with fail
    (with_reducible refine CK.out.mono ?_)
    rintro e w3 ⟨rfl, hb3⟩
    have X3 := hid (XA.out.ext hb3 XA.out.lt)
    have c0 := X3.out.c0
    rw [HK.out] at c0
    have N1 := hid (wNum_z 1 (z := 1) rfl (hHW.ext hb3) (by omega) (by decide))
    have HB3 := hid (hB1.trans (hb3.mono hB1.size))
    clear a0 a1 a2 a3 a4 a5 a6 a7 a8 a9 CK hB1 hb01 XA hHW hb3
    go_wp2_with fail
    refine N1.out.mono ?_
    rintro e w4 ⟨rfl, v4, hw4⟩
    have X4 := hid (X3.out.mutT hw4.mt hns)
    have HW4 := hid hw4
    clear c0 hw4 N1 X3
    have c0 := X4.out.c0
    rw [HK.out] at c0
    go_wp2
    exact bodyPost_end (results_none rfl _ _ _) rfl ⟨rfl, v4, by rw [HF.out]; exact HW4.out.pre HB3.out⟩
  · obtain ⟨x, y, hx, hy, hx2, hy2⟩ := nat_pid (x := A.fr.1) (y := A.fr.2) hfr
    have HF := hid (cmdF_2 (x := x) (y := y) hk (by rw [← hx, ← hy]))
    have HK := hid hk
    have HX1 := hid hx
    have HY1 := hid hy
    rw [hk] at a0 hCL
    subst hCL
    have e1 : IntKind.u64.wrap (2 : Int) = 2 := by decide
    have ln0 := short_len10 (n := 2) (by decide)
    have ln1 := short_len10 (n := x) (by omega)
    have ln2 := short_len10 (n := y) (by omega)
    have ln3 := short_len10 (n := A.num) (by omega)
    have ln4 := short_len10 (n := A.vw) (by omega)
    clear hc hk hW h0 hs0 hdr hdr1 hdb hdne hV hfr hwf hsum hl hx hy
    go_enter Tryz.func70, Tryz.ntmps70
    go_wp2_with fail
    (with_reducible refine CK.out.mono ?_)
    rintro e w3 ⟨rfl, hb3⟩
    have X3 := hid (XA.out.ext hb3 XA.out.lt)
    have c0 := X3.out.c0
    rw [HK.out] at c0
    have N1 := hid (wNum_z 2 (z := 2) rfl (hHW.ext hb3) (by omega) (by decide))
    have HB3 := hid (hB1.trans (hb3.mono hB1.size))
    clear a0 a1 a2 a3 a4 a5 a6 a7 a8 a9 CK hB1 hb01 XA hHW hb3
    go_wp2_with fail
    refine N1.out.mono ?_
    rintro e w4 ⟨rfl, v4, hw4⟩
    have X4 := hid (X3.out.mutT hw4.mt hns)
    have HW4 := hid hw4
    clear c0 hw4 N1 X3
    have c0 := X4.out.c0
    rw [HK.out] at c0
    have c1 := X4.out.c1
    have c2 := X4.out.c2
    rw [HX1.out] at c1
    rw [HY1.out] at c2
    have N2 := hid (wPid_any x y HW4.out.wr (by simp only [List.length_append]; omega) hx2 hy2)
    go_wp2_with fail
    (with_reducible refine N2.out.mono ?_)
    rintro e w5 ⟨rfl, v5, hw5⟩
    have X5 := hid (X4.out.mutT hw5.mt hns)
    have HW5 := hid (HW4.out.step hw5)
    have N3 := hid (wNum_any A.num hw5.wr (by simp only [List.length_append]; omega) hnum)
    clear c0 c1 c2 N2 X4 hw5 HW4
    have c3 := X5.out.c3
    go_wp2_with fail
    (with_reducible refine N3.out.mono ?_)
    rintro e w6 ⟨rfl, v6, hw6⟩
    have X6 := hid (X5.out.mutT hw6.mt hns)
    have HW6 := hid (HW5.out.step hw6)
    have N4 := hid (wNum_any A.vw hw6.wr (by simp only [List.length_append]; omega) hvw)
    clear c3 N3 X5 hw6 HW5
    have c4 := X6.out.c4
    go_wp2_with fail
    (with_reducible refine N4.out.mono ?_)
    rintro e w7 ⟨rfl, v7, hw7⟩
    have X7 := hid (X6.out.mutT hw7.mt hns)
    have HW7 := hid (HW6.out.step hw7)
    have hr7 := (HDR.out.ext HB3.out).mutT (HW6.out.step hw7).mt (fun b off h1 h2 => HNE.out b off h1 h2)
    have N5 := hid (wBytes_any (c := dc) (n := A.data.length) hw7.wr (by simp only [List.length_append]; omega) (hid rfl) (by omega) hr7 HNE.out)
    clear c4 N4 X6 hw7 HW6 hr7
    have c5 := X7.out.c5
    go_wp2_with fail
    (with_reducible refine N5.out.mono ?_)
    rintro e w8 ⟨rfl, v8, hw8⟩
    have HW8 := hid ((HW7.out.step hw8).pre HB3.out)
    have HE : Hid (bs ++ cmdF A = (((bs ++ short 2) ++ (short x ++ short y)) ++ short A.num ++ short A.vw) ++ (short A.data.length ++ A.data)) := hid (by rw [HF.out]; simp)
    clear hw8 HW7 N5
    go_wp2
    exact bodyPost_end (results_none rfl _ _ _) rfl ⟨rfl, v8, by rw [HE.out]; exact HW8.out⟩
  · have HF := hid (cmdF_3 hk)
    have HK := hid hk
    rw [hk] at a0 hCL
    subst hCL
    have hcb : checkB A.v = true := (check_eq A.v hwf).trans hrc
    have HL := hid (laid_of_check hwf hcb)
    have HC := hid hcb
    obtain ⟨i, hi⟩ : ∃ i : Nat, A.v.id = (i : Int) := ⟨A.v.id.toNat, by omega⟩
    have hi64 : i < 18446744073709551616 := by omega
    have HI := hid hi
    have e1 : IntKind.u64.wrap (3 : Int) = 3 := by decide
    have ln0 := short_len10 (n := 3) (by decide)
    have HSUM := hid hsum
    clear hc hk hW h0 hs0 hdr hdr1 hdb hdne hV hfr hwf hsum hl hcb hrc hid64 hi
    go_enter Tryz.func70, Tryz.ntmps70
    go_wp2_with fail
    (with_reducible refine CK.out.mono ?_)
    rintro e w3 ⟨rfl, hb3⟩
    have X3 := hid (XA.out.ext hb3 XA.out.lt)
    have c0 := X3.out.c0
    rw [HK.out] at c0
    have N1 := hid (wNum_z 3 (z := 3) rfl (hHW.ext hb3) (by omega) (by decide))
    have HB3 := hid (hB1.trans (hb3.mono hB1.size))
    clear a0 a1 a2 a3 a4 a5 a6 a7 a8 a9 CK hB1 hb01 XA hHW hb3
    go_wp2_with fail
    refine N1.out.mono ?_
    rintro e w4 ⟨rfl, v4, hw4⟩
    have X4 := hid (X3.out.mutT hw4.mt hns)
    have HW4 := hid hw4
    clear c0 hw4 N1 X3
    have c0 := X4.out.c0
    rw [HK.out] at c0
    have c6 := X4.out.c6
    have c7 := X4.out.c7
    have c8 := X4.out.c8
    have c9 := X4.out.c9
    rw [HI.out] at c6
    have N2 := hid (viewPut_any (cm := cm) (cl := cl) (cd := cd) HI.out hi64 HW4.out.wr (by simp only [List.length_append]; omega) HV.out (below_mut (H0.out.trans (HB3.out.mono H0.out.size)) HW4.out.mt HS0.out) HS0.out HWF.out (by have := HL.out.lm; omega) (by have := HL.out.ll; omega) (by have := HL.out.ld.2; omega) (fun l hl => by have := (HL.out.le l hl).2; omega) HSUM.out HC.out)
    go_wp2_with fail
    (with_reducible refine N2.out.mono ?_)
    rintro e w5 ⟨rfl, v5, hw5⟩
    have HW5 := hid ((HW4.out.step hw5).pre HB3.out)
    have HE : Hid (bs ++ cmdF A = (bs ++ short 3) ++ viewF A.v) := hid (by rw [HF.out]; simp)
    clear hw5 HW4 N2
    go_wp2
    exact bodyPost_end (results_none rfl _ _ _) rfl ⟨rfl, v5, by rw [HE.out]; exact HW5.out⟩
theorem viewR_zero (w : World) : ViewR w none none none zeroV := ⟨.inl rfl, .inl rfl, .inl rfl, by simp [zeroV], by simp [zeroV], by simp [zeroV], by simp [zeroV]⟩
end Go.Proofs.YtppapeoainafbaaGreatDoor

namespace Go.Proofs.YtppapeoainafbaaGreatDoor
open Go.RowKit

/-! ### commands: awake -/
theorem OwnB.mutT {G : Nat → Prop} {w w' : World} {base : Nat} {v : Value} {xs : List Nat} (h : OwnB w base v xs) (hm : Mut G w w') (hG : ∀ k, G k → k < base) : OwnB w' base v xs := by
  refine ⟨h.1, ?_⟩
  rcases h.2 with hn | ⟨g, cap, cur, rfl, hbb, hgg, rest⟩
  · exact .inl hn
  · exact .inr ⟨g, cap, cur, rfl, hbb, (hm.block g (Array.getElem?_eq_some_iff.1 hgg).1 (fun hg => by have := hG g hg; omega)).trans hgg, rest⟩
/-- a writer stays where another one writes -/
theorem WrIs.mutT {w w' : World} {s t base : Nat} {v : Value} {bs : List Nat} (h : WrIs w s v bs) (hm : Mut (fun k => k = t) w w') (hst : s ≠ t) (hown : OwnB w base v bs) (hb : s + 1 ≤ base) (ht : t < base) : WrIs w' s v bs :=
  ⟨cell_mut h.c hm hst, (World.frozen?_of_block (w := w) (a := ⟨s, 0, none⟩) (hm.block s h.lt hst)).trans h.f, (hown.mutT hm (fun _k e => e ▸ ht)).mono hb⟩
end Go.Proofs.YtppapeoainafbaaGreatDoor

namespace Go.Proofs.YtppapeoainafbaaGreatDoor
open Go.RowKit

/-! ### lists of lists, each in a block of the call's own; boxes of four cells -/
theorem OwnP.mutN {G : Nat → Prop} {w w' : World} {base : Nat} {v : Value} {xs : List Pid} (h : OwnP w base v xs) (hm : Mut G w w') (hG : ∀ g, v.ownBlock = some g → ¬ G g) : OwnP w' base v xs := by
  refine ⟨h.1, ?_⟩
  rcases h.2 with hn | ⟨g, cap, cur, rfl, hbb, hgg, rest⟩
  · exact .inl hn
  · exact .inr ⟨g, cap, cur, rfl, hbb, (hm.block g (Array.getElem?_eq_some_iff.1 hgg).1 (hG g rfl)).trans hgg, rest⟩
theorem OwnP.blk {w : World} {base : Nat} {v : Value} {xs : List Pid} (h : OwnP w base v xs) {g : Nat} (hg : v.ownBlock = some g) : base ≤ g ∧ g < w.heap.size := World.ownsRow.lt h g hg
def OwnLL (w : World) (base : Nat) (v : Value) (Ls : List (List Pid)) : Prop :=
  ∃ cells : List Value, w.ownsRow base 30 1 v Ls.length cells ∧ ∀ i (h : i < Ls.length), ∃ vi, cells[i]? = some vi ∧ OwnP w base vi Ls[i] ∧ ∀ g, vi.ownBlock = some g → v.ownBlock ≠ some g
theorem OwnLL.nil (w : World) (base : Nat) : OwnLL w base (.slice none 0 0) [] := ⟨[], World.ownsRow_nil _ _ _ _, fun i h => by simp at h⟩
theorem OwnLL.ext {w w' : World} {base : Nat} {v : Value} {Ls : List (List Pid)} (h : OwnLL w base v Ls) (hb : Below w.heap.size w w') : OwnLL w' base v Ls := by
  obtain ⟨cells, ho, he⟩ := h
  refine ⟨cells, ⟨ho.1, ?_⟩, fun i hi => ?_⟩
  · rcases ho.2 with hn | ⟨g, cap, cur, rfl, hbb, hgg, rest⟩
    · exact .inl hn
    · exact .inr ⟨g, cap, cur, rfl, hbb, (hb.block g (Array.getElem?_eq_some_iff.1 hgg).1).trans hgg, rest⟩
  · obtain ⟨vi, h1, h2, h3⟩ := he i hi
    exact ⟨vi, h1, h2.ext hb, h3⟩
theorem OwnLL.mutT {G : Nat → Prop} {w w' : World} {base : Nat} {v : Value} {Ls : List (List Pid)} (h : OwnLL w base v Ls) (hm : Mut G w w') (hG : ∀ k, G k → k < base) : OwnLL w' base v Ls := by
  obtain ⟨cells, ho, he⟩ := h
  refine ⟨cells, ⟨ho.1, ?_⟩, fun i hi => ?_⟩
  · rcases ho.2 with hn | ⟨g, cap, cur, rfl, hbb, hgg, rest⟩
    · exact .inl hn
    · exact .inr ⟨g, cap, cur, rfl, hbb, (hm.block g (Array.getElem?_eq_some_iff.1 hgg).1 (fun hg => by have := hG g hg; omega)).trans hgg, rest⟩
  · obtain ⟨vi, h1, h2, h3⟩ := he i hi
    exact ⟨vi, h1, h2.mutT hm hG, h3⟩
theorem OwnLL.mono {w : World} {b b' : Nat} {v : Value} {Ls : List (List Pid)} (h : OwnLL w b v Ls) (hb : b' ≤ b) : OwnLL w b' v Ls := by
  obtain ⟨cells, ho, he⟩ := h
  refine ⟨cells, ⟨ho.1, ?_⟩, fun i hi => ?_⟩
  · rcases ho.2 with hn | ⟨g, cap, cur, rfl, hbb, rest⟩
    · exact .inl hn
    · exact .inr ⟨g, cap, cur, rfl, by omega, rest⟩
  · obtain ⟨vi, h1, h2, h3⟩ := he i hi
    exact ⟨vi, h1, h2.mono2 hb, h3⟩
theorem OwnLL.row {w : World} {base : Nat} {v : Value} {Ls : List (List Pid)} (h : OwnLL w base v Ls) : ∃ a c, v = .slice a Ls.length c ∧ LeafRow w a Ls := by
  obtain ⟨cells, ho, he⟩ := h
  have hcells := fun g => World.ownsRow.cells (g := g) ho
  rcases ho.2 with ⟨rfl, hn⟩ | ⟨g, cap, cur, rfl, hb, hg, hnc, hcm, hcs, htake⟩
  · exact ⟨none, 0, by rw [hn], .inl (List.length_eq_zero_iff.1 hn)⟩
  · refine ⟨_, cap, rfl, .inr ⟨g, 0, rfl, (Array.getElem?_eq_some_iff.1 hg).1, fun i hi => ?_⟩⟩
    obtain ⟨vi, h1, h2, _⟩ := he i hi
    have := hcells g rfl i _ h1
    rw [addr_add] at this
    obtain ⟨ai, ci, e, hr, _⟩ := h2.row
    exact ⟨ai, ci, by rw [this, e], hr⟩
theorem OwnLL.blk {w : World} {base : Nat} {v : Value} {Ls : List (List Pid)} (h : OwnLL w base v Ls) {g : Nat} (hg : v.ownBlock = some g) : base ≤ g ∧ g < w.heap.size := by
  obtain ⟨cells, ho, _⟩ := h
  exact World.ownsRow.lt ho g hg
theorem off2t {w : World} {b q j : Nat} {x : Value} (hc : j ≠ q) : (w.setCell ⟨b, q, none⟩ x).cell? ⟨b, j, none⟩ = w.cell? ⟨b, j, none⟩ :=
  World.cell?_setCell_other _ _ _ _ (by intro e; injection e with e1 e2; exact hc e2.symm)
/-- a block of four cells that may be written -/
structure BoxV (w : World) (b : Nat) (v0 v1 v2 v3 : Value) : Prop where
  c0 : w.cell? ⟨b, 0, none⟩ = some v0
  c1 : w.cell? ⟨b, 1, none⟩ = some v1
  c2 : w.cell? ⟨b, 2, none⟩ = some v2
  c3 : w.cell? ⟨b, 3, none⟩ = some v3
  f0 : w.frozen? ⟨b, 0, none⟩ = false
  f1 : w.frozen? ⟨b, 1, none⟩ = false
  f2 : w.frozen? ⟨b, 2, none⟩ = false
  f3 : w.frozen? ⟨b, 3, none⟩ = false
section
variable {w w' : World} {b : Nat} {v0 v1 v2 v3 : Value}
theorem BoxV.lt (h : BoxV w b v0 v1 v2 v3) : b < w.heap.size := World.block_lt_of_cell? w _ h.c0
theorem BoxV.ext (h : BoxV w b v0 v1 v2 v3) (hb : Below w.heap.size w w') : BoxV w' b v0 v1 v2 v3 :=
  ⟨cell_toB h.c0 hb, cell_toB h.c1 hb, cell_toB h.c2 hb, cell_toB h.c3 hb, (hb.frozen (by exact h.lt)).trans h.f0, (hb.frozen (by exact h.lt)).trans h.f1, (hb.frozen (by exact h.lt)).trans h.f2, (hb.frozen (by exact h.lt)).trans h.f3⟩
theorem BoxV.made (w : World) (t : TypeId) (v0 v1 v2 v3 : Value) : BoxV (w.alloc (.cells #[v0, v1, v2, v3] t)) w.heap.size v0 v1 v2 v3 := ⟨by simp, by simp, by simp, by simp, by simp, by simp, by simp, by simp⟩
theorem BoxV.mutT {G : Nat → Prop} (h : BoxV w b v0 v1 v2 v3) (hm : Mut G w w') (hG : ¬ G b) : BoxV w' b v0 v1 v2 v3 := by
  have g : ∀ j, w'.frozen? ⟨b, j, none⟩ = w.frozen? ⟨b, j, none⟩ := fun j => World.frozen?_of_block (w := w) (a := ⟨b, j, none⟩) (hm.block b h.lt hG)
  exact ⟨cell_mut h.c0 hm hG, cell_mut h.c1 hm hG, cell_mut h.c2 hm hG, cell_mut h.c3 hm hG, (g 0).trans h.f0, (g 1).trans h.f1, (g 2).trans h.f2, (g 3).trans h.f3⟩
theorem BoxV.set2 (h : BoxV w b v0 v1 v2 v3) (u : Value) : BoxV (w.setCell ⟨b, 2, none⟩ u) b v0 v1 u v3 :=
  ⟨by rw [off2t (by omega)]; exact h.c0, by rw [off2t (by omega)]; exact h.c1, World.cell?_setCell_same _ _ _ h.c2, by rw [off2t (by omega)]; exact h.c3, by simp [h.f0], by simp [h.f1], by simp [h.f2], by simp [h.f3]⟩
theorem BoxV.set3 (h : BoxV w b v0 v1 v2 v3) (u : Value) : BoxV (w.setCell ⟨b, 3, none⟩ u) b v0 v1 v2 u :=
  ⟨by rw [off2t (by omega)]; exact h.c0, by rw [off2t (by omega)]; exact h.c1, by rw [off2t (by omega)]; exact h.c2, World.cell?_setCell_same _ _ _ h.c3, by simp [h.f0], by simp [h.f1], by simp [h.f2], by simp [h.f3]⟩
theorem BoxV.put (h : BoxV w b v0 v1 v2 v3) (u0 u1 u2 u3 : Value) : BoxV ((((w.setCell ⟨b, 0, none⟩ u0).setCell ⟨b, 1, none⟩ u1).setCell ⟨b, 2, none⟩ u2).setCell ⟨b, 3, none⟩ u3) b u0 u1 u2 u3 := by
  obtain ⟨c0, c1, c2, c3, f0, f1, f2, f3⟩ := h
  refine ⟨?_, ?_, ?_, ?_, by simp [f0], by simp [f1], by simp [f2], by simp [f3]⟩
  · rw [off2t (by omega), off2t (by omega), off2t (by omega)]; exact World.cell?_setCell_same _ _ _ c0
  · rw [off2t (by omega), off2t (by omega)]; exact World.cell?_setCell_same _ _ _ (by rw [off2t (by omega)]; exact c1)
  · rw [off2t (by omega)]; exact World.cell?_setCell_same _ _ _ (by rw [off2t (by omega), off2t (by omega)]; exact c2)
  · exact World.cell?_setCell_same _ _ _ (by rw [off2t (by omega), off2t (by omega), off2t (by omega)]; exact c3)
theorem mutV (w : World) (b : Nat) (u0 u1 u2 u3 : Value) : Mut (fun k => k = b) w ((((w.setCell ⟨b, 0, none⟩ u0).setCell ⟨b, 1, none⟩ u1).setCell ⟨b, 2, none⟩ u2).setCell ⟨b, 3, none⟩ u3) :=
  ((mut1.trans mut1).trans mut1).trans mut1
end
/-! ### lengths of what is read -/
end Go.Proofs.YtppapeoainafbaaGreatDoor

namespace Go.Proofs.YtppapeoainafbaaGreatDoor
open Go.RowKit

/-! ### slices.Clone -/
theorem PidRow.nilA {w : World} {xs : List Pid} (h : PidRow w none xs) : xs = [] := by
  rcases h with h | ⟨b, off, h, _⟩
  · exact h
  · cases h
end Go.Proofs.YtppapeoainafbaaGreatDoor

namespace Go.Proofs.YtppapeoainafbaaGreatDoor
open Go.RowKit

/-! ### view.Copy -/
theorem OwnP.put4 {w : World} {base b : Nat} {v : Value} {xs : List Pid} {u0 u1 u2 u3 : Value} (h : OwnP w base v xs) (hb : ∀ g, v.ownBlock = some g → g ≠ b) : OwnP ((((w.setCell ⟨b, 0, none⟩ u0).setCell ⟨b, 1, none⟩ u1).setCell ⟨b, 2, none⟩ u2).setCell ⟨b, 3, none⟩ u3) base v xs :=
  h.mutN (mutV w b u0 u1 u2 u3) (fun g hg e => hb g hg e)
theorem below_put4 {B : Nat} {w W : World} {b : Nat} {u0 u1 u2 u3 : Value} (h : Below B w W) (hb : B ≤ b) : Below B w ((((W.setCell ⟨b, 0, none⟩ u0).setCell ⟨b, 1, none⟩ u1).setCell ⟨b, 2, none⟩ u2).setCell ⟨b, 3, none⟩ u3) :=
  below_set (below_set (below_set (below_set h hb) hb) hb) hb
/-- the copy in its box, without its leaves -/
structure CopyS (W2 wx : World) (b3 : Nat) (i : Int) (vm vd : Value) (V : View) : Prop where
  bx : BoxV wx b3 (.int .u64 i) vm (.slice none 0 0) vd
  om : OwnP wx W2.heap.size vm V.ms
  od : OwnP wx W2.heap.size vd V.ds
  nm : ∀ g, vm.ownBlock = some g → g ≠ b3
  nd : ∀ g, vd.ownBlock = some g → g ≠ b3
  nn : ∀ g, vm.ownBlock = some g → vd.ownBlock ≠ some g
  le : W2.heap.size ≤ b3
  b : Below W2.heap.size W2 wx
theorem CopyS.of {W2 w7 : World} {b3 : Nat} {i : Int} {vm vd z0 z1 z2 z3 : Value} {V : View} (bx : BoxV w7 b3 z0 z1 z2 z3) (om : OwnP w7 W2.heap.size vm V.ms) (od : OwnP w7 W2.heap.size vd V.ds) (nm : ∀ g, vm.ownBlock = some g → g ≠ b3) (nd : ∀ g, vd.ownBlock = some g → g ≠ b3) (nn : ∀ g, vm.ownBlock = some g → vd.ownBlock ≠ some g) (le : W2.heap.size ≤ b3) (b : Below W2.heap.size W2 w7) :
    CopyS W2 ((((w7.setCell ⟨b3, 0, none⟩ (.int .u64 i)).setCell ⟨b3, 1, none⟩ vm).setCell ⟨b3, 2, none⟩ (.slice none 0 0)).setCell ⟨b3, 3, none⟩ vd) b3 i vm vd V :=
  ⟨bx.put _ _ _ _, om.put4 nm, od.put4 nd, nm, nd, nn, le, below_put4 b le⟩
theorem CopyS.made {W2 w7 : World} {i : Int} {vm vd : Value} {V : View} (om : OwnP w7 W2.heap.size vm V.ms) (od : OwnP w7 W2.heap.size vd V.ds) (nn : ∀ g, vm.ownBlock = some g → vd.ownBlock ≠ some g) (b : Below W2.heap.size W2 w7) :
    CopyS W2 (w7.alloc (.cells #[.int .u64 i, vm, .slice none 0 0, vd] 33)) w7.heap.size i vm vd V :=
  ⟨BoxV.made _ _ _ _ _ _, om.ext ((Below.refl _ _).alloc (Nat.le_refl _) _), od.ext ((Below.refl _ _).alloc (Nat.le_refl _) _), fun g hg e => by have := (om.blk hg).2; omega, fun g hg e => by have := (od.blk hg).2; omega, nn, b.size, b.alloc b.size _⟩

end Go.Proofs.YtppapeoainafbaaGreatDoor

namespace Go.Proofs.YtppapeoainafbaaGreatDoor
open Go.RowKit

/-! ### ViewBack -/
theorem ViewR.own {w : World} {b1 b2 b3 : Nat} {V : View} {am al ad : Option Addr} {cm cl cd : Nat} (hm : OwnP w b1 (.slice am V.ms.length cm) V.ms) (hl : OwnLL w b2 (.slice al V.ls.length cl) V.ls) (hd : OwnP w b3 (.slice ad V.ds.length cd) V.ds) {w0 : World} {x y z : Option Addr} (hV : ViewR w0 x y z V) : ViewR w am al ad V := by
  obtain ⟨a1, c1, e1, r1, -⟩ := hm.row
  obtain ⟨a2, c2, e2, r2⟩ := hl.row
  obtain ⟨a3, c3, e3, r3, -⟩ := hd.row
  cases e1; cases e2; cases e3
  exact ⟨r1, r2, r3, hV.lm, hV.ll, hV.ld, hV.le⟩
theorem great_i {V : View} {i : Nat} {am al ad : Option Addr} {cm cl cd : Nat} {w : World} {r : Bool} (hi : V.id = (i : Int)) (h : Hid (greatB V = r)) (hV : ViewR w am al ad V) :
   Calls Tryz.prog 12 #[.agg #[.int .u64 i, .slice am V.ms.length cm, .slice al V.ls.length cl, .slice ad V.ds.length cd]] w fun e w' => e = .returned (.bool r) ∧ Below w.heap.size w w' := by
  have := great_is (cm := cm) (cl := cl) (cd := cd) h hV
  rw [hi] at this; exact this
end Go.Proofs.YtppapeoainafbaaGreatDoor

namespace Go.Proofs.YtppapeoainafbaaGreatDoor
open Go.RowKit

/-! ### cmd.Get -/
section
variable {w w' : World} {b : Nat} {u0 u1 u2 u3 u4 u5 u6 u7 u8 u9 : Value}
theorem Box10.lt (h : Box10 w b u0 u1 u2 u3 u4 u5 u6 u7 u8 u9) : b < w.heap.size := World.block_lt_of_cell? w _ h.c0
theorem Box10.mutT {G : Nat → Prop} (h : Box10 w b u0 u1 u2 u3 u4 u5 u6 u7 u8 u9) (hm : Mut G w w') (hG : ¬ G b) : Box10 w' b u0 u1 u2 u3 u4 u5 u6 u7 u8 u9 :=
  ⟨cell_mut h.c0 hm hG, cell_mut h.c1 hm hG, cell_mut h.c2 hm hG, cell_mut h.c3 hm hG, cell_mut h.c4 hm hG, cell_mut h.c5 hm hG, cell_mut h.c6 hm hG, cell_mut h.c7 hm hG, cell_mut h.c8 hm hG, cell_mut h.c9 hm hG, fun j => (World.frozen?_of_block (w := w) (a := ⟨b, j, none⟩) (hm.block b h.lt hG)).trans (h.f j)⟩
theorem Box10.set0 (h : Box10 w b u0 u1 u2 u3 u4 u5 u6 u7 u8 u9) (x : Value) : Box10 (w.setCell ⟨b, 0, none⟩ x) b x u1 u2 u3 u4 u5 u6 u7 u8 u9 :=
  ⟨World.cell?_setCell_same _ _ _ h.c0, by rw [off2t (by omega)]; exact h.c1, by rw [off2t (by omega)]; exact h.c2, by rw [off2t (by omega)]; exact h.c3, by rw [off2t (by omega)]; exact h.c4, by rw [off2t (by omega)]; exact h.c5, by rw [off2t (by omega)]; exact h.c6, by rw [off2t (by omega)]; exact h.c7, by rw [off2t (by omega)]; exact h.c8, by rw [off2t (by omega)]; exact h.c9, fun j => by simp [h.f j]⟩
theorem Box10.set1 (h : Box10 w b u0 u1 u2 u3 u4 u5 u6 u7 u8 u9) (x : Value) : Box10 (w.setCell ⟨b, 1, none⟩ x) b u0 x u2 u3 u4 u5 u6 u7 u8 u9 :=
  ⟨by rw [off2t (by omega)]; exact h.c0, World.cell?_setCell_same _ _ _ h.c1, by rw [off2t (by omega)]; exact h.c2, by rw [off2t (by omega)]; exact h.c3, by rw [off2t (by omega)]; exact h.c4, by rw [off2t (by omega)]; exact h.c5, by rw [off2t (by omega)]; exact h.c6, by rw [off2t (by omega)]; exact h.c7, by rw [off2t (by omega)]; exact h.c8, by rw [off2t (by omega)]; exact h.c9, fun j => by simp [h.f j]⟩
theorem Box10.set2 (h : Box10 w b u0 u1 u2 u3 u4 u5 u6 u7 u8 u9) (x : Value) : Box10 (w.setCell ⟨b, 2, none⟩ x) b u0 u1 x u3 u4 u5 u6 u7 u8 u9 :=
  ⟨by rw [off2t (by omega)]; exact h.c0, by rw [off2t (by omega)]; exact h.c1, World.cell?_setCell_same _ _ _ h.c2, by rw [off2t (by omega)]; exact h.c3, by rw [off2t (by omega)]; exact h.c4, by rw [off2t (by omega)]; exact h.c5, by rw [off2t (by omega)]; exact h.c6, by rw [off2t (by omega)]; exact h.c7, by rw [off2t (by omega)]; exact h.c8, by rw [off2t (by omega)]; exact h.c9, fun j => by simp [h.f j]⟩
theorem Box10.set3 (h : Box10 w b u0 u1 u2 u3 u4 u5 u6 u7 u8 u9) (x : Value) : Box10 (w.setCell ⟨b, 3, none⟩ x) b u0 u1 u2 x u4 u5 u6 u7 u8 u9 :=
  ⟨by rw [off2t (by omega)]; exact h.c0, by rw [off2t (by omega)]; exact h.c1, by rw [off2t (by omega)]; exact h.c2, World.cell?_setCell_same _ _ _ h.c3, by rw [off2t (by omega)]; exact h.c4, by rw [off2t (by omega)]; exact h.c5, by rw [off2t (by omega)]; exact h.c6, by rw [off2t (by omega)]; exact h.c7, by rw [off2t (by omega)]; exact h.c8, by rw [off2t (by omega)]; exact h.c9, fun j => by simp [h.f j]⟩
theorem Box10.set4 (h : Box10 w b u0 u1 u2 u3 u4 u5 u6 u7 u8 u9) (x : Value) : Box10 (w.setCell ⟨b, 4, none⟩ x) b u0 u1 u2 u3 x u5 u6 u7 u8 u9 :=
  ⟨by rw [off2t (by omega)]; exact h.c0, by rw [off2t (by omega)]; exact h.c1, by rw [off2t (by omega)]; exact h.c2, by rw [off2t (by omega)]; exact h.c3, World.cell?_setCell_same _ _ _ h.c4, by rw [off2t (by omega)]; exact h.c5, by rw [off2t (by omega)]; exact h.c6, by rw [off2t (by omega)]; exact h.c7, by rw [off2t (by omega)]; exact h.c8, by rw [off2t (by omega)]; exact h.c9, fun j => by simp [h.f j]⟩
theorem Box10.set5 (h : Box10 w b u0 u1 u2 u3 u4 u5 u6 u7 u8 u9) (x : Value) : Box10 (w.setCell ⟨b, 5, none⟩ x) b u0 u1 u2 u3 u4 x u6 u7 u8 u9 :=
  ⟨by rw [off2t (by omega)]; exact h.c0, by rw [off2t (by omega)]; exact h.c1, by rw [off2t (by omega)]; exact h.c2, by rw [off2t (by omega)]; exact h.c3, by rw [off2t (by omega)]; exact h.c4, World.cell?_setCell_same _ _ _ h.c5, by rw [off2t (by omega)]; exact h.c6, by rw [off2t (by omega)]; exact h.c7, by rw [off2t (by omega)]; exact h.c8, by rw [off2t (by omega)]; exact h.c9, fun j => by simp [h.f j]⟩
theorem Box10.set6 (h : Box10 w b u0 u1 u2 u3 u4 u5 u6 u7 u8 u9) (x : Value) : Box10 (w.setCell ⟨b, 6, none⟩ x) b u0 u1 u2 u3 u4 u5 x u7 u8 u9 :=
  ⟨by rw [off2t (by omega)]; exact h.c0, by rw [off2t (by omega)]; exact h.c1, by rw [off2t (by omega)]; exact h.c2, by rw [off2t (by omega)]; exact h.c3, by rw [off2t (by omega)]; exact h.c4, by rw [off2t (by omega)]; exact h.c5, World.cell?_setCell_same _ _ _ h.c6, by rw [off2t (by omega)]; exact h.c7, by rw [off2t (by omega)]; exact h.c8, by rw [off2t (by omega)]; exact h.c9, fun j => by simp [h.f j]⟩
theorem Box10.set7 (h : Box10 w b u0 u1 u2 u3 u4 u5 u6 u7 u8 u9) (x : Value) : Box10 (w.setCell ⟨b, 7, none⟩ x) b u0 u1 u2 u3 u4 u5 u6 x u8 u9 :=
  ⟨by rw [off2t (by omega)]; exact h.c0, by rw [off2t (by omega)]; exact h.c1, by rw [off2t (by omega)]; exact h.c2, by rw [off2t (by omega)]; exact h.c3, by rw [off2t (by omega)]; exact h.c4, by rw [off2t (by omega)]; exact h.c5, by rw [off2t (by omega)]; exact h.c6, World.cell?_setCell_same _ _ _ h.c7, by rw [off2t (by omega)]; exact h.c8, by rw [off2t (by omega)]; exact h.c9, fun j => by simp [h.f j]⟩
theorem Box10.set8 (h : Box10 w b u0 u1 u2 u3 u4 u5 u6 u7 u8 u9) (x : Value) : Box10 (w.setCell ⟨b, 8, none⟩ x) b u0 u1 u2 u3 u4 u5 u6 u7 x u9 :=
  ⟨by rw [off2t (by omega)]; exact h.c0, by rw [off2t (by omega)]; exact h.c1, by rw [off2t (by omega)]; exact h.c2, by rw [off2t (by omega)]; exact h.c3, by rw [off2t (by omega)]; exact h.c4, by rw [off2t (by omega)]; exact h.c5, by rw [off2t (by omega)]; exact h.c6, by rw [off2t (by omega)]; exact h.c7, World.cell?_setCell_same _ _ _ h.c8, by rw [off2t (by omega)]; exact h.c9, fun j => by simp [h.f j]⟩
theorem Box10.set9 (h : Box10 w b u0 u1 u2 u3 u4 u5 u6 u7 u8 u9) (x : Value) : Box10 (w.setCell ⟨b, 9, none⟩ x) b u0 u1 u2 u3 u4 u5 u6 u7 u8 x :=
  ⟨by rw [off2t (by omega)]; exact h.c0, by rw [off2t (by omega)]; exact h.c1, by rw [off2t (by omega)]; exact h.c2, by rw [off2t (by omega)]; exact h.c3, by rw [off2t (by omega)]; exact h.c4, by rw [off2t (by omega)]; exact h.c5, by rw [off2t (by omega)]; exact h.c6, by rw [off2t (by omega)]; exact h.c7, by rw [off2t (by omega)]; exact h.c8, World.cell?_setCell_same _ _ _ h.c9, fun j => by simp [h.f j]⟩
theorem Box10.put (h : Box10 w b u0 u1 u2 u3 u4 u5 u6 u7 u8 u9) (v0 v1 v2 v3 v4 v5 v6 v7 v8 v9 : Value) : Box10 ((((((((((w.setCell ⟨b, 0, none⟩ v0).setCell ⟨b, 1, none⟩ v1).setCell ⟨b, 2, none⟩ v2).setCell ⟨b, 3, none⟩ v3).setCell ⟨b, 4, none⟩ v4).setCell ⟨b, 5, none⟩ v5).setCell ⟨b, 6, none⟩ v6).setCell ⟨b, 7, none⟩ v7).setCell ⟨b, 8, none⟩ v8).setCell ⟨b, 9, none⟩ v9) b v0 v1 v2 v3 v4 v5 v6 v7 v8 v9 :=
  ((((((((((h.set0 v0).set1 v1).set2 v2).set3 v3).set4 v4).set5 v5).set6 v6).set7 v7).set8 v8).set9 v9)
end
end Go.Proofs.YtppapeoainafbaaGreatDoor

namespace Go.Proofs.YtppapeoainafbaaGreatDoor
open Go.RowKit

/-! ### the reference's Get of a view -/
theorem BoxV.set1 {w : World} {b : Nat} {v0 v1 v2 v3 : Value} (h : BoxV w b v0 v1 v2 v3) (u : Value) : BoxV (w.setCell ⟨b, 1, none⟩ u) b v0 u v2 v3 :=
  ⟨by rw [off2t (by omega)]; exact h.c0, World.cell?_setCell_same _ _ _ h.c1, by rw [off2t (by omega)]; exact h.c2, by rw [off2t (by omega)]; exact h.c3, by simp [h.f0], by simp [h.f1], by simp [h.f2], by simp [h.f3]⟩
end Go.Proofs.YtppapeoainafbaaGreatDoor

namespace Go.Proofs.YtppapeoainafbaaGreatDoor
open Go.RowKit

/-! ### CmdApart -/
theorem sameC_self (a : CmdD) : sameC a a = true := by
  unfold sameC
  simp [sameB_refl]
/-- a command as the row brings it -/
structure CmdIn (w : World) (da am al ad : Option Addr) (A : CmdD) : Prop where
  dr : ByteRow w da A.data
  db : ∀ b ∈ A.data, b < 256
  v : ViewR w am al ad A.v
  wf : WfView A.v
  fr : okP A.fr
  num : A.num < 18446744073709551616
  vw : A.vw < 18446744073709551616
theorem CmdIn.ext {w w' : World} {da am al ad : Option Addr} {A : CmdD} (h : CmdIn w da am al ad A) (hb : Below w.heap.size w w') : CmdIn w' da am al ad A := ⟨h.dr.ext hb, h.db, h.v.ext hb, h.wf, h.fr, h.num, h.vw⟩
theorem CmdIn.r {w : World} {da am al ad : Option Addr} {A : CmdD} (h : CmdIn w da am al ad A) (hg : greatC A = false) : CmdR w da am al ad A := ⟨h.dr, by have := (greatC_no hg).1; omega, h.db, h.v⟩
theorem CmdIn.laid {w : World} {da am al ad : Option Addr} {A : CmdD} (h : CmdIn w da am al ad A) : refCheckB A.v = true → Laid A.v := fun hc => laid_of_check h.wf.ms ((check_eq A.v h.wf.ms).trans hc)
theorem cmdF_small {w : World} {da am al ad : Option Addr} {A : CmdD} (h : CmdIn w da am al ad A) (hc : cmdChk A = 0) : (cmdF A).length ≤ 300000 := by
  rcases cmdChk_kinds hc with hk | ⟨hk, hnum, hvw, hdl⟩ | ⟨hk, hrc⟩
  · rw [cmdF_1 hk, short_lt (by decide)]; simp
  · obtain ⟨x, y, hx, hy, hx2, hy2⟩ := nat_pid (x := A.fr.1) (y := A.fr.2) h.fr
    rw [cmdF_2 (x := x) (y := y) hk (by rw [← hx, ← hy])]
    have h1 := short_len10 (n := x) (by omega)
    have h2 := short_len10 (n := y) (by omega)
    have h3 := short_len10 (n := A.num) (by omega)
    have h4 := short_len10 (n := A.vw) (by omega)
    have h5 := short_len10 (n := A.data.length) (by omega)
    have h6 := short_len10 (n := 2) (by decide)
    simp only [List.length_append]; omega
  · rw [cmdF_3 hk]
    have hL := h.laid hrc
    have h1 := short_len10 (n := 3) (by decide)
    have h2 := viewF_small hL
    rw [List.length_append]; omega

end Go.Proofs.YtppapeoainafbaaGreatDoor

