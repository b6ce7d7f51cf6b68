/- Parts of the proof: X9 X10 X11 X12 X13 X14 X16 X18 X26 X27 X32 X34. -/
import Derived.Defers
import Derived.Test.YtehagnbphamjhaaGreatDoorX24
namespace Go.Proofs.YtehagnbphamjhaaGreatDoor
open Go.RowKit
theorem ByteRow.nilA {w : World} {bs : List Nat} (h : ByteRow w none bs) : bs = [] := by
  rcases h with h | ⟨b, off, h, _⟩
  · exact h
  · cases h
set_option maxRecDepth 100000 in
set_option maxHeartbeats 800000 in
theorem cloneB_any {a : Option Addr} {c n : Nat} {bs : List Nat} {w : World} (hn : Hid (bs.length = n)) (hl : n ≤ 549755813888) (hrow : ByteRow w a bs) :
   Calls Tryz.prog 160 #[.slice a n c] w fun e w' => ∃ v, e = .returned v ∧ OwnB w' w.heap.size v bs ∧ Below w.heap.size w w' := by
  cases a with
  | none =>
    have hx := hrow.nilA
    subst hx
    have hn0 : n = 0 := hn.out.symm
    subst hn0
    have hnil : ∀ W, (binOp .eql 55 (.slice none 0 c) (.slice none 0 0)).run Tryz.prog W = .ok (.bool true) W := fun W => Lib.run_eql_slice_nil W 55 5 none 0 c 0 0 Tryz.underlying55
    go_enter Tryz.func160, Tryz.ntmps160
    go_wp2
    go_ret
    exact ⟨_, rfl, OwnB.nil _ _, Below.refl _ _⟩
  | some a =>
    have hnil : ∀ W, (binOp .eql 55 (.slice (some a) n c) (.slice none 0 0)).run Tryz.prog W = .ok (.bool false) W := fun W => Lib.run_eql_slice_nil W 55 5 (some a) n c 0 0 Tryz.underlying55
    have hown : OwnB (w.alloc (.cells #[] 5)) w.heap.size (.slice (some ⟨w.heap.size, 0, none⟩) 0 0) [] := World.ownsRow_made (w := w) #[] 0 (Nat.le_refl _) (by unfold maxLen; omega) (by simp)
    have hB : Below w.heap.size w (w.alloc (.cells #[] 5)) := (Below.refl _ _).alloc (Nat.le_refl _) _
    have hr1 := hrow.ext hB
    go_enter Tryz.func160, Tryz.ntmps160
    go_wp2_with (at_builtin; refine wpList_appendB hown hr1 hn ?cb ?cz rfl rfl rfl rfl ?_; rotate_right; intro v4 w4 hown4 hg4 hat4)
    case cb => simp; omega
    case cz => simp
    go_ret
    exact ⟨v4, rfl, by simpa using hown4, below_of_grown hB hg4 hown hB.size (Nat.le_refl _)⟩
theorem OwnB.cap {w : World} {base : Nat} {v : Value} {bs : List Nat} (h : OwnB w base v bs) : ∀ a n c, v = .slice a n c → bs.length ≤ c := by
  intro a n c e
  rcases h.2 with ⟨rfl, hn⟩ | ⟨g, cap, cur, rfl, hb, hg, hnc, _⟩
  · cases e; omega
  · cases e; exact hnc
/-- the writer behind a pointer -/
structure WrIs (w : World) (s : Nat) (v : Value) (bs : List Nat) : Prop where
  c : w.cell? ⟨s, 0, none⟩ = some v
  f : w.frozen? ⟨s, 0, none⟩ = false
  own : OwnB w (s + 1) v bs
theorem WrIs.lt {w : World} {s : Nat} {v : Value} {bs : List Nat} (h : WrIs w s v bs) : s < w.heap.size := World.block_lt_of_cell? w _ h.c
theorem WrIs.ext {w w' : World} {s : Nat} {v : Value} {bs : List Nat} (h : WrIs w s v bs) (hb : Below w.heap.size w w') : WrIs w' s v bs :=
  ⟨cell_toB h.c hb, (hb.frozen (by exact h.lt)).trans h.f, h.own.ext hb⟩
theorem WrIs.alloc {w : World} {s : Nat} {v : Value} {bs : List Nat} (h : WrIs w s v bs) (o : Obj) : WrIs (w.alloc o) s v bs := h.ext ((Below.refl _ _).alloc (Nat.le_refl _) _)
theorem WrIs.made (w : World) (t : TypeId) : WrIs (w.alloc (.cells #[.slice none 0 0] t)) w.heap.size (.slice none 0 0) [] := ⟨by simp, by simp, OwnB.nil _ _⟩
/-- what a call of the writer leaves -/
structure Wrote (w w' : World) (s : Nat) (v' : Value) (bs : List Nat) : Prop where
  wr : WrIs w' s v' bs
  own : OwnB w' w.heap.size v' bs
  mt : Mut (fun k => k = s) w w'
theorem mut_put {w w1 : World} {s : Nat} {v : Value} (hb : Below w.heap.size w w1) : Mut (fun k => k = s) w (w1.setCell ⟨s, 0, none⟩ v) :=
  (Mut.of_below hb).trans ⟨rfl, rfl, rfl, by simp, fun k _ hf => Below.heap_setCell _ _ _ _ (by exact hf)⟩
theorem wrote_put {w w1 : World} {s : Nat} {v v1 : Value} {bs bs1 : List Nat} (h : WrIs w s v bs) (hb : Below w.heap.size w w1) (hown : OwnB w1 w.heap.size v1 bs1) : Wrote w (w1.setCell ⟨s, 0, none⟩ v1) s v1 bs1 := by
  have h1 := h.ext hb
  have hs := h.lt
  have ho : OwnB (w1.setCell ⟨s, 0, none⟩ v1) w.heap.size v1 bs1 := hown.butT (t := s) (fun k hk => Below.heap_setCell _ _ _ _ hk) (fun e => by have := (World.ownsRow.lt hown s e.symm).1; omega)
  exact ⟨⟨World.cell?_setCell_same _ _ _ h1.c, by simp [h1.f], ho.mono (by omega)⟩, ho, mut_put hb⟩
theorem ByteRow.mutT {G : Nat → Prop} {w w' : World} {a : Option Addr} {bs : List Nat} (h : ByteRow w a bs) (hm : Mut G w w') (hne : ∀ b off, a = some ⟨b, off, none⟩ → bs ≠ [] → ¬ G b) : ByteRow w' a bs := by
  rcases h with rfl | ⟨b, off, rfl, hlt, hc⟩
  · exact .inl rfl
  · by_cases hl : bs = []
    · exact .inl hl
    · have hb := hm.block b hlt (hne b off rfl hl)
      exact .inr ⟨b, off, rfl, by have := hm.size; omega, fun i hi => (World.cell?_of_block (w := w) hb).trans (hc i hi)⟩
theorem wrote_more {w w1 w2 : World} {s : Nat} {v1 v2 : Value} {bs1 bs2 : List Nat} (h : Wrote w w1 s v1 bs1) (hs : s < w.heap.size) (hg : w1.grownBy w2 v1.ownBlock) (hown : OwnB w2 w.heap.size v2 bs2) : Wrote w (w2.setCell ⟨s, 0, none⟩ v2) s v2 bs2 := by
  have hs1 := h.wr.lt
  have hsb : w2.heap[s]? = w1.heap[s]? := hg.block s hs1 (fun e => by have := (World.ownsRow.lt h.own s e.symm).1; omega)
  have c2 : w2.cell? ⟨s, 0, none⟩ = some v1 := (World.cell?_of_block (w := w1) (a := ⟨s, 0, none⟩) hsb).trans h.wr.c
  have f2 : w2.frozen? ⟨s, 0, none⟩ = false := (World.frozen?_of_block (w := w1) (a := ⟨s, 0, none⟩) hsb).trans h.wr.f
  have ho : OwnB (w2.setCell ⟨s, 0, none⟩ v2) w.heap.size v2 bs2 := hown.butT (t := s) (fun k hk => Below.heap_setCell _ _ _ _ hk) (fun e => by have := (World.ownsRow.lt hown s e.symm).1; omega)
  refine ⟨⟨World.cell?_setCell_same _ _ _ c2, by simp [f2], ho.mono (by omega)⟩, ho, ?_⟩
  refine ⟨hg.os.trans h.mt.os, hg.tape.trans h.mt.tape, hg.output.trans h.mt.output, by have := hg.size; have := h.mt.size; simp; omega, fun k hk hf => ?_⟩
  rw [Below.heap_setCell _ _ _ _ (by exact hf), hg.block k (by have := h.mt.size; omega) (fun e => by have := (World.ownsRow.lt h.own k e.symm).1; omega), h.mt.block k hk hf]
set_option maxRecDepth 100000 in
set_option maxHeartbeats 1600000 in
theorem wNum_any {s : Nat} {v : Value} {bs : List Nat} {w : World} (m : Nat) (hW : WrIs w s v bs) (hl : bs.length ≤ 137438953472) (hm : m < 18446744073709551616) :
    Calls Tryz.prog 351 #[.pointer (some ⟨s, 0, none⟩), .int .u64 m] w fun e w' => e = .returned (.tuple #[]) ∧ ∃ v', Wrote w w' s v' (bs ++ short m) := by
  obtain ⟨a, c, rfl, hrow, -⟩ := hW.own.row
  obtain ⟨n, hn⟩ : ∃ n, bs.length = n := ⟨_, rfl⟩
  rw [hn] at hW hl
  have HW := hid hW
  have c0 := hW.c
  have HN := hid hn
  obtain ⟨F, hF⟩ : ∃ F, bs ++ short m = F := ⟨_, rfl⟩
  rw [hF]
  have HF := hid hF
  clear hn hW hF
  go_enter Tryz.func351, Tryz.ntmps351
  go_wp2_with (go_at_call 278; refine (putShort_is HF HN (by omega) hm hrow).mono ?_; rintro e w1 ⟨a1, k1, rfl, hown1, -, hb1⟩; have c1 := cell_toB c0 hb1; have f1 := (HW.out.ext hb1).f)
  exact bodyPost_end (results_none rfl _ _ _) rfl ⟨rfl, _, wrote_put HW.out hb1 hown1⟩
set_option maxRecDepth 100000 in
set_option maxHeartbeats 1600000 in
theorem wBytes_any {s : Nat} {v : Value} {bs : List Nat} {a : Option Addr} {c n : Nat} {ds : List Nat} {w : World} (hW : WrIs w s v bs) (hl : bs.length ≤ 68719476736) (hn : Hid (ds.length = n)) (hdl : n ≤ 68719476736) (hrow : ByteRow w a ds) (hne : ∀ b off, a = some ⟨b, off, none⟩ → ds ≠ [] → b ≠ s) :
    Calls Tryz.prog 262 #[.pointer (some ⟨s, 0, none⟩), .slice a n c] w fun e w' => e = .returned (.tuple #[]) ∧ ∃ v', Wrote w w' s v' (bs ++ (short n ++ ds)) := by
  have hln := short_len10 (n := n) (by omega)
  obtain ⟨F, hF⟩ : ∃ F, bs ++ short n = F := ⟨_, rfl⟩
  have hFl : F.length ≤ 68719476736 + 10 := by rw [← hF, List.length_append]; omega
  obtain ⟨E, hE⟩ : ∃ E, F ++ ds = E := ⟨_, rfl⟩
  have HF2 : Hid (bs ++ (short n ++ ds) = E) := hid (by rw [← hE, ← hF, List.append_assoc])
  have HE := hid hE
  have C1 : Hid (Calls Tryz.prog 351 #[.pointer (some ⟨s, 0, none⟩), .int .u64 n] w fun e w' => e = .returned (.tuple #[]) ∧ ∃ v', Wrote w w' s v' F) := hid (by rw [← hF]; exact wNum_any n hW (by omega) (by omega))
  have hs := hW.lt
  clear hF hE
  go_enter Tryz.func262, Tryz.ntmps262
  go_wp2_with (first
    | (go_at_call 351; refine C1.out.mono ?_; rintro e w1 ⟨rfl, v1, hw1⟩; obtain ⟨a1, k1, he1, -, -⟩ := hw1.own.row; subst he1; have c1 := hw1.wr.c; have hr1 := hrow.mutT hw1.mt (fun b off h1 h2 => hne b off h1 h2); have HR1 := hid hr1; clear hr1)
    | (at_builtin; refine wpList_appendB hw1.own HR1.out hn (by omega) (by have := hw1.mt.size; omega) rfl rfl rfl rfl ?_; intro v2 w2 hown2 hg2 hat2; rw [HE.out] at hown2; obtain ⟨a2, k2, he2, -, -⟩ := hown2.row; subst he2; have hz := wrote_more hw1 hs hg2 hown2; have hsb : w2.heap[s]? = w1.heap[s]? := hg2.block s hw1.wr.lt (fun e => by have := (World.ownsRow.lt hw1.own s e.symm).1; omega); have c2 := (World.cell?_of_block (w := w1) (a := ⟨s, 0, none⟩) hsb).trans c1; have f2 : w2.frozen? ⟨s, 0, none⟩ = false := (World.frozen?_of_block (w := w1) (a := ⟨s, 0, none⟩) hsb).trans hw1.wr.f; have HZ := hid hz; clear hz hsb))
  exact bodyPost_end (results_none rfl _ _ _) rfl ⟨rfl, _, by rw [HF2.out]; exact HZ.out⟩
end Go.Proofs.YtehagnbphamjhaaGreatDoor

namespace Go.Proofs.YtehagnbphamjhaaGreatDoor
open Go.RowKit
theorem PidRow.mutT {G : Nat → Prop} {w w' : World} {a : Option Addr} {l : List Pid} (h : PidRow w a l) (hm : Mut G w w') (hne : ∀ b off, a = some ⟨b, off, none⟩ → l ≠ [] → ¬ G b) : PidRow w' a l := by
  rcases h with rfl | ⟨b, off, rfl, hlt, hc⟩
  · exact .inl rfl
  · by_cases hl : l = []
    · exact .inl hl
    · have hb := hm.block b hlt (hne b off rfl hl)
      exact .inr ⟨b, off, rfl, by have := hm.size; omega, fun i hi => ⟨(World.cell?_of_block (w := w) hb).trans (hc i hi).1, (World.cell?_of_block (w := w) hb).trans (hc i hi).2⟩⟩
theorem Wrote.trans {w w1 w1' w2 : World} {s : Nat} {v1 v2 : Value} {b1 b2 : List Nat} (h : Wrote w w1 s v1 b1) (hb : Below w1.heap.size w1 w1') (h2 : Wrote w1' w2 s v2 b2) : Wrote w w2 s v2 b2 :=
  ⟨h2.wr, h2.own.mono (Nat.le_trans h.mt.size hb.size), (h.mt.trans (Mut.of_below hb)).trans h2.mt⟩
set_option maxRecDepth 100000 in
set_option maxHeartbeats 800000 in
theorem wDone_any {s : Nat} {v : Value} {bs : List Nat} {w : World} (hW : WrIs w s v bs) (hl : bs.length ≤ 137438953472) :
    Calls Tryz.prog 263 #[.pointer (some ⟨s, 0, none⟩)] w fun e w' => ∃ v', e = .returned v' ∧ OwnB w' w.heap.size v' bs ∧ Below w.heap.size w w' := by
  obtain ⟨a, c, rfl, hrow, -⟩ := hW.own.row
  obtain ⟨n, hn⟩ : ∃ n, bs.length = n := ⟨_, rfl⟩
  rw [hn] at hW hl
  have c0 := hW.c
  have HN := hid hn
  clear hn
  go_enter Tryz.func263, Tryz.ntmps263
  go_wp2_with (go_at_call 160; refine (cloneB_any HN (by omega) hrow).mono ?_; rintro e w1 ⟨v1, rfl, hown1, hb1⟩)
  go_ret
  exact ⟨_, rfl, hown1, hb1⟩
/-! ### the reference's forms -/
end Go.Proofs.YtehagnbphamjhaaGreatDoor

namespace Go.Proofs.YtehagnbphamjhaaGreatDoor
open Go.RowKit
/-- the reader behind a pointer -/
structure RdIs (w : World) (s : Nat) (a : Option Addr) (c : Nat) (S : RS) : Prop where
  c0 : w.cell? ⟨s, 0, none⟩ = some (.slice a S.b.length c)
  c1 : w.cell? ⟨s, 1, none⟩ = some (.int .i64 S.e)
  f0 : w.frozen? ⟨s, 0, none⟩ = false
  f1 : w.frozen? ⟨s, 1, none⟩ = false
  row : ByteRow w a S.b
  far : ∀ b off, a = some ⟨b, off, none⟩ → S.b ≠ [] → b < s
  cap : S.b.length ≤ c
  byt : ∀ b ∈ S.b, b < 256
  len : S.b.length ≤ 70368744177664
theorem RdIs.lt {w : World} {s c : Nat} {a : Option Addr} {S : RS} (h : RdIs w s a c S) : s < w.heap.size := World.block_lt_of_cell? w _ h.c0
theorem RdIs.ext {w w' : World} {s c : Nat} {a : Option Addr} {S : RS} (h : RdIs w s a c S) (hb : Below w.heap.size w w') : RdIs w' s a c S :=
  ⟨cell_toB h.c0 hb, cell_toB h.c1 hb, (hb.frozen (by exact h.lt)).trans h.f0, (hb.frozen (by exact h.lt)).trans h.f1, h.row.ext hb, h.far, h.cap, h.byt, h.len⟩
theorem RdIs.alloc {w : World} {s c : Nat} {a : Option Addr} {S : RS} (h : RdIs w s a c S) (o : Obj) : RdIs (w.alloc o) s a c S := h.ext ((Below.refl _ _).alloc (Nat.le_refl _) _)
theorem ByteRow.setFar {w : World} {a : Option Addr} {bs : List Nat} {s i : Nat} {v : Value} (h : ByteRow w a bs) (hf : ∀ b off, a = some ⟨b, off, none⟩ → bs ≠ [] → b < s) : ByteRow (w.setCell ⟨s, i, none⟩ v) a bs := by
  rcases h with rfl | ⟨b, off, rfl, hlt, hc⟩
  · exact .inl rfl
  · by_cases hl : bs = []
    · exact .inl hl
    · have hb : b ≠ s := Nat.ne_of_lt (hf b off rfl hl)
      exact .inr ⟨b, off, rfl, by simpa using hlt, fun j hj => by rw [World.cell?_setCell_far _ _ _ _ (by exact fun e => hb e.symm)]; exact hc j hj⟩
/-- other bytes -/
theorem RdIs.put {w : World} {s c c' : Nat} {a a' : Option Addr} {S : RS} {b' : List Nat} (h : RdIs w s a c S) {n : Nat} (hn : n = b'.length) (hrow : ByteRow w a' b') (hfar : ∀ b off, a' = some ⟨b, off, none⟩ → b' ≠ [] → b < s) (hcap : b'.length ≤ c') (hby : ∀ b ∈ b', b < 256) (hlen : b'.length ≤ 70368744177664) : RdIs (w.setCell ⟨s, 0, none⟩ (.slice a' n c')) s a' c' ⟨b', S.e⟩ := by
  subst hn
  exact ⟨World.cell?_setCell_same _ _ _ h.c0, by rw [World.cell?_setCell_other _ _ _ _ (by simp)]; exact h.c1, by simp [h.f0], by simp [h.f1], hrow.setFar hfar, hfar, hcap, hby, hlen⟩
theorem mut1 {w : World} {s i : Nat} {v : Value} : Mut (fun k => k = s) w (w.setCell ⟨s, i, none⟩ v) :=
  ⟨rfl, rfl, rfl, by simp, fun k _ hf => Below.heap_setCell _ _ _ _ (by exact hf)⟩
end Go.Proofs.YtehagnbphamjhaaGreatDoor

namespace Go.Proofs.YtehagnbphamjhaaGreatDoor
open Go.RowKit
theorem RdIs.mutT {G : Nat → Prop} {w w' : World} {s c : Nat} {a : Option Addr} {S : RS} (h : RdIs w s a c S) (hm : Mut G w w') (hG : ∀ k, G k → s < k) : RdIs w' s a c S := by
  have hb := hm.block s h.lt (fun hs => by have := hG s hs; omega)
  refine ⟨(World.cell?_of_block (w := w) (a := ⟨s, 0, none⟩) hb).trans h.c0, (World.cell?_of_block (w := w) (a := ⟨s, 1, none⟩) hb).trans h.c1, (World.frozen?_of_block (w := w) (a := ⟨s, 0, none⟩) hb).trans h.f0, (World.frozen?_of_block (w := w) (a := ⟨s, 1, none⟩) hb).trans h.f1, ?_, h.far, h.cap, h.byt, h.len⟩
  exact h.row.mutT hm (fun b off e hne hg => by have := h.far b off e hne; have := hG b hg; omega)
theorem cell_mut {G : Nat → Prop} {w w' : World} {p : Addr} {v : Value} (h : w.cell? p = some v) (hm : Mut G w w') (hG : ¬ G p.block) : w'.cell? p = some v :=
  (hm.cell (World.block_lt_of_cell? w _ h) hG).trans h
end Go.Proofs.YtehagnbphamjhaaGreatDoor

namespace Go.Proofs.YtehagnbphamjhaaGreatDoor
open Go.RowKit
/-- the place of a result: one cell -/
structure Cell1 (w : World) (g : Nat) (v : Value) : Prop where
  c : w.cell? ⟨g, 0, none⟩ = some v
  f : w.frozen? ⟨g, 0, none⟩ = false
theorem Cell1.made (w : World) (t : TypeId) (v : Value) : Cell1 (w.alloc (.cells #[v] t)) w.heap.size v := ⟨by simp, by simp⟩
theorem Cell1.lt {w : World} {g : Nat} {v : Value} (h : Cell1 w g v) : g < w.heap.size := World.block_lt_of_cell? w _ h.c
theorem Cell1.ext {w w' : World} {g : Nat} {v : Value} (h : Cell1 w g v) (hb : Below w.heap.size w w') : Cell1 w' g v := ⟨cell_toB h.c hb, (hb.frozen (by exact h.lt)).trans h.f⟩
theorem Cell1.mutT {G : Nat → Prop} {w w' : World} {g : Nat} {v : Value} (h : Cell1 w g v) (hm : Mut G w w') (hG : ¬ G g) : Cell1 w' g v :=
  ⟨cell_mut h.c hm hG, (World.frozen?_of_block (w := w) (a := ⟨g, 0, none⟩) (hm.block g h.lt hG)).trans h.f⟩
end Go.Proofs.YtehagnbphamjhaaGreatDoor

namespace Go.Proofs.YtehagnbphamjhaaGreatDoor
open Go.RowKit
/-- a box of two cells -/
structure BoxP (w : World) (b : Nat) (v0 v1 : Value) : Prop where
  c0 : w.cell? ⟨b, 0, none⟩ = some v0
  c1 : w.cell? ⟨b, 1, none⟩ = some v1
  f0 : w.frozen? ⟨b, 0, none⟩ = false
  f1 : w.frozen? ⟨b, 1, none⟩ = false
theorem BoxP.lt {w : World} {b : Nat} {v0 v1 : Value} (h : BoxP w b v0 v1) : b < w.heap.size := World.block_lt_of_cell? w _ h.c0
theorem BoxP.ext {w w' : World} {b : Nat} {v0 v1 : Value} (h : BoxP w b v0 v1) (hb : Below w.heap.size w w') : BoxP w' b v0 v1 :=
  ⟨cell_toB h.c0 hb, cell_toB h.c1 hb, (hb.frozen (by exact h.lt)).trans h.f0, (hb.frozen (by exact h.lt)).trans h.f1⟩
theorem BoxP.made (w : World) (t : TypeId) (v0 v1 : Value) : BoxP (w.alloc (.cells #[v0, v1] t)) w.heap.size v0 v1 := ⟨by simp, by simp, by simp, by simp⟩
theorem BoxP.mutT {G : Nat → Prop} {w w' : World} {b : Nat} {v0 v1 : Value} (h : BoxP w b v0 v1) (hm : Mut G w w') (hG : ¬ G b) : BoxP w' b v0 v1 :=
  ⟨cell_mut h.c0 hm hG, cell_mut h.c1 hm hG, (World.frozen?_of_block (w := w) (a := ⟨b, 0, none⟩) (hm.block b h.lt hG)).trans h.f0, (World.frozen?_of_block (w := w) (a := ⟨b, 1, none⟩) (hm.block b h.lt hG)).trans h.f1⟩
theorem BoxP.put {w : World} {b : Nat} {v0 v1 : Value} (h : BoxP w b v0 v1) (x y : Value) : BoxP ((w.setCell ⟨b, 0, none⟩ x).setCell ⟨b, 1, none⟩ y) b x y := by
  refine ⟨?_, ?_, by simp [h.f0], by simp [h.f1]⟩
  · rw [World.cell?_setCell_other _ _ _ _ (by simp)]
    exact World.cell?_setCell_same _ _ _ h.c0
  · refine World.cell?_setCell_same _ _ _ (u := v1) ?_
    rw [World.cell?_setCell_other _ _ _ _ (by simp)]
    exact h.c1
end Go.Proofs.YtehagnbphamjhaaGreatDoor

namespace Go.Proofs.YtehagnbphamjhaaGreatDoor
open Go.RowKit
theorem OwnP.mutT {G : Nat → Prop} {w w' : World} {base : Nat} {v : Value} {xs : List Pid} (h : OwnP w base v xs) (hm : Mut G w w') (hG : ∀ k, G k → k < base) : OwnP w' base v xs := by
  refine ⟨h.1, ?_⟩
  rcases h.2 with hn | ⟨g, cap, cur, rfl, hbb, hgg, rest⟩
  · exact .inl hn
  · exact .inr ⟨g, cap, cur, rfl, hbb, (hm.block g (Array.getElem?_eq_some_iff.1 hgg).1 (fun hg => by have := hG g hg; omega)).trans hgg, rest⟩
theorem Mut.drew {G : Nat → Prop} {w0 w : World} (hm : Mut G w0 w) : Mut G w0 w.drew := hm.trans (Mut.of_below (Below.refl _ _).drew)
end Go.Proofs.YtehagnbphamjhaaGreatDoor

namespace Go.Proofs.YtehagnbphamjhaaGreatDoor
open Go.RowKit
theorem OwnP.mono2 {w : World} {b b' : Nat} {v : Value} {xs : List Pid} (h : OwnP w b v xs) (hb : b' ≤ b) : OwnP w b' v xs := by
  refine ⟨h.1, ?_⟩
  rcases h.2 with hn | ⟨g, cap, cur, rfl, hbb, rest⟩
  · exact .inl hn
  · exact .inr ⟨g, cap, cur, rfl, Nat.le_trans hb hbb, rest⟩
end Go.Proofs.YtehagnbphamjhaaGreatDoor

namespace Go.Proofs.YtehagnbphamjhaaGreatDoor
open Go.RowKit

/-! ### view.Put -/
/-- a row of an earlier world is no block of a later one -/
theorem PidRow.far {w : World} {a : Option Addr} {l : List Pid} (h : PidRow w a l) {s : Nat} (hs : w.heap.size ≤ s) : ∀ b off, a = some ⟨b, off, none⟩ → l ≠ [] → b ≠ s := by
  rintro b off rfl hl
  rcases h with rfl | ⟨b', off', e, hlt, -⟩
  · exact absurd rfl hl
  · cases e; omega
end Go.Proofs.YtehagnbphamjhaaGreatDoor

namespace Go.Proofs.YtehagnbphamjhaaGreatDoor
open Go.RowKit

/-! ### view.Put, where the view may be -/
theorem Wrote.step {w w1 w2 : World} {s : Nat} {v1 v2 : Value} {b1 b2 : List Nat} (h : Wrote w w1 s v1 b1) (h2 : Wrote w1 w2 s v2 b2) : Wrote w w2 s v2 b2 := h.trans (Below.refl _ _) h2
theorem Wrote.pre {w w1 w2 : World} {s : Nat} {v : Value} {bs : List Nat} (hb : Below w.heap.size w w1) (h : Wrote w1 w2 s v bs) : Wrote w w2 s v bs :=
  ⟨h.wr, h.own.mono hb.size, (Mut.of_below hb).trans h.mt⟩
/-- what the rest of view.Put leans on -/
structure PutS (w0 W : World) (s g1 g2 r b i : Nat) (V : View) (am al ad : Option Addr) (cm cl cd : Nat) : Prop where
  c1 : W.cell? ⟨g1, 0, none⟩ = some (.pointer (some ⟨s, 0, none⟩))
  c2 : W.cell? ⟨g2, 0, none⟩ = some (.map (some r))
  y0 : W.cell? ⟨b, 0, none⟩ = some (.int .u64 i)
  y1 : W.cell? ⟨b, 1, none⟩ = some (.slice am V.ms.length cm)
  y2 : W.cell? ⟨b, 2, none⟩ = some (.slice al V.ls.length cl)
  y3 : W.cell? ⟨b, 3, none⟩ = some (.slice ad V.ds.length cd)
  M : MapIs W r pidV eI (ranksL V.ms)
  n1 : g1 ≠ s
  n2 : g2 ≠ s
  nr : r ≠ s
  nb : b ≠ s
  b0 : Below w0.heap.size w0 W
  hs : w0.heap.size ≤ s
theorem PutS.mut {w0 W W' : World} {s g1 g2 r b i : Nat} {V : View} {am al ad : Option Addr} {cm cl cd : Nat} (h : PutS w0 W s g1 g2 r b i V am al ad cm cl cd) (hm : Mut (fun k => k = s) W W') : PutS w0 W' s g1 g2 r b i V am al ad cm cl cd :=
  ⟨cell_mut h.c1 hm h.n1, cell_mut h.c2 hm h.n2, cell_mut h.y0 hm h.nb, cell_mut h.y1 hm h.nb, cell_mut h.y2 hm h.nb, cell_mut h.y3 hm h.nb, h.M.same (hm.block r h.M.lt h.nr), h.n1, h.n2, h.nr, h.nb, h.b0.trans (hm.below h.b0.size (fun _k e => e ▸ h.hs)), h.hs⟩

end Go.Proofs.YtehagnbphamjhaaGreatDoor

namespace Go.Proofs.YtehagnbphamjhaaGreatDoor
open Go.RowKit

/-! ### lists of lists, each in a block of the call's own; boxes of four cells -/
theorem infoPs : (Tryz.prog.info? 51).map (fun i => (i.zero, i.size, i.bytes)) = some (some (.slice none 0 0), 1, 24) := by kernel_rfl
theorem OwnP.grownN {w w' : World} {base : Nat} {v : Value} {xs : List Pid} {row : Option Nat} (h : OwnP w base v xs) (hg : w.grownBy w' row) (hne : ∀ g, v.ownBlock = some g → row ≠ some g) : OwnP w' base v xs := by
  refine ⟨h.1, ?_⟩
  rcases h.2 with hn | ⟨g, cap, cur, rfl, hbb, hgg, rest⟩
  · exact .inl hn
  · exact .inr ⟨g, cap, cur, rfl, hbb, (hg.block g (Array.getElem?_eq_some_iff.1 hgg).1 (fun e => hne g rfl e.symm)).trans hgg, rest⟩
theorem OwnP.mutN {G : Nat → Prop} {w w' : World} {base : Nat} {v : Value} {xs : List Pid} (h : OwnP w base v xs) (hm : Mut G w w') (hG : ∀ g, v.ownBlock = some g → ¬ G g) : OwnP w' base v xs := by
  refine ⟨h.1, ?_⟩
  rcases h.2 with hn | ⟨g, cap, cur, rfl, hbb, hgg, rest⟩
  · exact .inl hn
  · exact .inr ⟨g, cap, cur, rfl, hbb, (hm.block g (Array.getElem?_eq_some_iff.1 hgg).1 (hG g rfl)).trans hgg, rest⟩
theorem OwnP.blk {w : World} {base : Nat} {v : Value} {xs : List Pid} (h : OwnP w base v xs) {g : Nat} (hg : v.ownBlock = some g) : base ≤ g ∧ g < w.heap.size := World.ownsRow.lt h g hg
def OwnLL (w : World) (base : Nat) (v : Value) (Ls : List (List Pid)) : Prop :=
  ∃ cells : List Value, w.ownsRow base 51 1 v Ls.length cells ∧ ∀ i (h : i < Ls.length), ∃ vi, cells[i]? = some vi ∧ OwnP w base vi Ls[i] ∧ ∀ g, vi.ownBlock = some g → v.ownBlock ≠ some g
theorem OwnLL.nil (w : World) (base : Nat) : OwnLL w base (.slice none 0 0) [] := ⟨[], World.ownsRow_nil _ _ _ _, fun i h => by simp at h⟩
theorem OwnLL.ext {w w' : World} {base : Nat} {v : Value} {Ls : List (List Pid)} (h : OwnLL w base v Ls) (hb : Below w.heap.size w w') : OwnLL w' base v Ls := by
  obtain ⟨cells, ho, he⟩ := h
  refine ⟨cells, ⟨ho.1, ?_⟩, fun i hi => ?_⟩
  · rcases ho.2 with hn | ⟨g, cap, cur, rfl, hbb, hgg, rest⟩
    · exact .inl hn
    · exact .inr ⟨g, cap, cur, rfl, hbb, (hb.block g (Array.getElem?_eq_some_iff.1 hgg).1).trans hgg, rest⟩
  · obtain ⟨vi, h1, h2, h3⟩ := he i hi
    exact ⟨vi, h1, h2.ext hb, h3⟩
theorem OwnLL.mutT {G : Nat → Prop} {w w' : World} {base : Nat} {v : Value} {Ls : List (List Pid)} (h : OwnLL w base v Ls) (hm : Mut G w w') (hG : ∀ k, G k → k < base) : OwnLL w' base v Ls := by
  obtain ⟨cells, ho, he⟩ := h
  refine ⟨cells, ⟨ho.1, ?_⟩, fun i hi => ?_⟩
  · rcases ho.2 with hn | ⟨g, cap, cur, rfl, hbb, hgg, rest⟩
    · exact .inl hn
    · exact .inr ⟨g, cap, cur, rfl, hbb, (hm.block g (Array.getElem?_eq_some_iff.1 hgg).1 (fun hg => by have := hG g hg; omega)).trans hgg, rest⟩
  · obtain ⟨vi, h1, h2, h3⟩ := he i hi
    exact ⟨vi, h1, h2.mutT hm hG, h3⟩
theorem OwnLL.mono {w : World} {b b' : Nat} {v : Value} {Ls : List (List Pid)} (h : OwnLL w b v Ls) (hb : b' ≤ b) : OwnLL w b' v Ls := by
  obtain ⟨cells, ho, he⟩ := h
  refine ⟨cells, ⟨ho.1, ?_⟩, fun i hi => ?_⟩
  · rcases ho.2 with hn | ⟨g, cap, cur, rfl, hbb, rest⟩
    · exact .inl hn
    · exact .inr ⟨g, cap, cur, rfl, by omega, rest⟩
  · obtain ⟨vi, h1, h2, h3⟩ := he i hi
    exact ⟨vi, h1, h2.mono2 hb, h3⟩
theorem OwnLL.row {w : World} {base : Nat} {v : Value} {Ls : List (List Pid)} (h : OwnLL w base v Ls) : ∃ a c, v = .slice a Ls.length c ∧ LeafRow w a Ls := by
  obtain ⟨cells, ho, he⟩ := h
  have hcells := fun g => World.ownsRow.cells (g := g) ho
  rcases ho.2 with ⟨rfl, hn⟩ | ⟨g, cap, cur, rfl, hb, hg, hnc, hcm, hcs, htake⟩
  · exact ⟨none, 0, by rw [hn], .inl (List.length_eq_zero_iff.1 hn)⟩
  · refine ⟨_, cap, rfl, .inr ⟨g, 0, rfl, (Array.getElem?_eq_some_iff.1 hg).1, fun i hi => ?_⟩⟩
    obtain ⟨vi, h1, h2, _⟩ := he i hi
    have := hcells g rfl i _ h1
    rw [addr_add] at this
    obtain ⟨ai, ci, e, hr, _⟩ := h2.row
    exact ⟨ai, ci, by rw [this, e], hr⟩
theorem OwnLL.blk {w : World} {base : Nat} {v : Value} {Ls : List (List Pid)} (h : OwnLL w base v Ls) {g : Nat} (hg : v.ownBlock = some g) : base ≤ g ∧ g < w.heap.size := by
  obtain ⟨cells, ho, _⟩ := h
  exact World.ownsRow.lt ho g hg
theorem grownLL_mut {w w' : World} {base : Nat} {v : Value} {Ls : List (List Pid)} (hg : w.grownBy w' v.ownBlock) (hown : OwnLL w base v Ls) : Mut (fun k => base ≤ k) w w' :=
  ⟨hg.os, hg.tape, hg.output, hg.size, fun k hk hf => hg.block k hk (fun e => hf (hown.blk e.symm).1)⟩
theorem run_appendLL {w : World} {base : Nat} {v vi : Value} {Ls : List (List Pid)} {l : List Pid} {b c : Nat} (hown : OwnLL w base v Ls) (h0 : w.cell? ⟨b, 0, none⟩ = some vi) (hvi : OwnP w base vi l) (hne : ∀ g, vi.ownBlock = some g → v.ownBlock ≠ some g)
    (hlen : Ls.length + 1 ≤ 1099511627776) (hbase : base ≤ w.heap.size) (ty : TypeId) :
    ∃ v' w', (Builtin.append_ #[52, 52] ty #[v, .slice (some ⟨b, 0, none⟩) 1 c]).run Tryz.prog w = .ok v' w' ∧ OwnLL w' base v' (Ls ++ [l]) ∧ w.grownBy w' v.ownBlock := by
  obtain ⟨i0, hi, hz0, hz1, hz2⟩ := info_parts infoPs
  obtain ⟨cells, hoc, he⟩ := hown
  obtain ⟨ai, ci, e0, -, -⟩ := hvi.row
  obtain ⟨v', w', hrun, h2, h3, h4, h5⟩ := run_append_own_at (P := Tryz.prog) w base 52 ty 51 i0 _ 1 24 Tryz.underlying52 hi hz0 hz1 hz2 rfl (by decide) v Ls.length cells hoc ⟨b, 0, none⟩ 1 c [vi] rfl (fun j u hu => by
    have hj : j = 0 := by have := (List.getElem?_eq_some_iff.1 hu).1; simpa using this
    subst hj
    rw [addr_add]
    simp at hu; subst hu
    exact h0) (fun u hu => by simp at hu; subst hu; rw [e0]; rfl) (by unfold maxLen; omega) (by omega) hbase
  have hcl : cells.length = Ls.length := by simpa using hoc.1
  have far : ∀ (u : Value) (m : List Pid), OwnP w base u m → (∀ g, u.ownBlock = some g → v.ownBlock ≠ some g) → ∀ g, u.ownBlock = some g → v'.ownBlock ≠ some g := by
    intro u m hm hno g hg
    rcases h5 with h5 | h5
    · rw [h5]; exact hno g hg
    · rw [h5]
      have := (hm.blk hg).2
      intro e2; simp at e2; omega
  refine ⟨v', w', hrun, ⟨cells ++ [vi], ?_, fun i hi => ?_⟩, h3⟩
  · rw [List.length_append]; exact h2
  · by_cases hlt : i < Ls.length
    · obtain ⟨u, g1, g2, g3⟩ := he i hlt
      rw [List.getElem?_append_left (by omega), List.getElem_append_left hlt]
      exact ⟨u, g1, g2.grownN h3 g3, far u _ g2 g3⟩
    · have hi' : i = Ls.length := by simp at hi; omega
      subst hi'
      rw [List.getElem?_append_right (by omega), List.getElem_append_right (by omega)]
      simp only [hcl, Nat.sub_self, List.getElem?_cons_zero, List.getElem_cons_zero]
      exact ⟨vi, rfl, hvi.grownN h3 hne, far vi l hvi hne⟩
/-- append of a row at an operation of a region that draws -/
theorem step_appendLL {w : World} {o : Oper} {a : Go.Act} {K : Go.Act → World → Prop} {Q : Exit → Go.Act → World → Prop} {y : Nat → Option Bool} {s x : Operand} {base : Nat} {v vi : Value} {Ls : List (List Pid)} {l : List Pid} {b c : Nat} (hw : Region.wanted o y = true) (hown : OwnLL w base v Ls) (h0 : w.cell? ⟨b, 0, none⟩ = some vi) (hvi : OwnP w base vi l)
    (hne : ∀ g, vi.ownBlock = some g → v.ownBlock ≠ some g) (hlen : Ls.length + 1 ≤ 1099511627776) (hbase : base ≤ w.heap.size)
    (ho : o.op = .call { callee := .builtin .append, args := #[s, x], argTypes := #[52, 52] }) (hs : a.eval s = v) (hx : a.eval x = .slice (some ⟨b, 0, none⟩) 1 c)
    (h : ∀ v' w', OwnLL w' base v' (Ls ++ [l]) → w.grownBy w' v.ownBlock → K (a.put o.dst v') w') : if Region.wanted o y = true then Oper.wp Tryz.prog o a w K Q else K (a.put o.dst undef) w := by
  rw [if_pos hw]
  obtain ⟨v', w', hr, h2, h3⟩ := run_appendLL hown h0 hvi hne hlen hbase (c := c) o.type
  exact Lib.wp_append_run w s x 52 52 ho _ _ hs hx v' w' hr (h v' w' h2 h3)
theorem off2t {w : World} {b q j : Nat} {x : Value} (hc : j ≠ q) : (w.setCell ⟨b, q, none⟩ x).cell? ⟨b, j, none⟩ = w.cell? ⟨b, j, none⟩ :=
  World.cell?_setCell_other _ _ _ _ (by intro e; injection e with e1 e2; exact hc e2.symm)
/-- a block of four cells that may be written -/
structure BoxV (w : World) (b : Nat) (v0 v1 v2 v3 : Value) : Prop where
  c0 : w.cell? ⟨b, 0, none⟩ = some v0
  c1 : w.cell? ⟨b, 1, none⟩ = some v1
  c2 : w.cell? ⟨b, 2, none⟩ = some v2
  c3 : w.cell? ⟨b, 3, none⟩ = some v3
  f0 : w.frozen? ⟨b, 0, none⟩ = false
  f1 : w.frozen? ⟨b, 1, none⟩ = false
  f2 : w.frozen? ⟨b, 2, none⟩ = false
  f3 : w.frozen? ⟨b, 3, none⟩ = false
section
variable {w w' : World} {b : Nat} {v0 v1 v2 v3 : Value}
theorem BoxV.lt (h : BoxV w b v0 v1 v2 v3) : b < w.heap.size := World.block_lt_of_cell? w _ h.c0
theorem BoxV.ext (h : BoxV w b v0 v1 v2 v3) (hb : Below w.heap.size w w') : BoxV w' b v0 v1 v2 v3 :=
  ⟨cell_toB h.c0 hb, cell_toB h.c1 hb, cell_toB h.c2 hb, cell_toB h.c3 hb, (hb.frozen (by exact h.lt)).trans h.f0, (hb.frozen (by exact h.lt)).trans h.f1, (hb.frozen (by exact h.lt)).trans h.f2, (hb.frozen (by exact h.lt)).trans h.f3⟩
theorem BoxV.made (w : World) (t : TypeId) (v0 v1 v2 v3 : Value) : BoxV (w.alloc (.cells #[v0, v1, v2, v3] t)) w.heap.size v0 v1 v2 v3 := ⟨by simp, by simp, by simp, by simp, by simp, by simp, by simp, by simp⟩
theorem BoxV.mutT {G : Nat → Prop} (h : BoxV w b v0 v1 v2 v3) (hm : Mut G w w') (hG : ¬ G b) : BoxV w' b v0 v1 v2 v3 := by
  have g : ∀ j, w'.frozen? ⟨b, j, none⟩ = w.frozen? ⟨b, j, none⟩ := fun j => World.frozen?_of_block (w := w) (a := ⟨b, j, none⟩) (hm.block b h.lt hG)
  exact ⟨cell_mut h.c0 hm hG, cell_mut h.c1 hm hG, cell_mut h.c2 hm hG, cell_mut h.c3 hm hG, (g 0).trans h.f0, (g 1).trans h.f1, (g 2).trans h.f2, (g 3).trans h.f3⟩
theorem BoxV.set2 (h : BoxV w b v0 v1 v2 v3) (u : Value) : BoxV (w.setCell ⟨b, 2, none⟩ u) b v0 v1 u v3 :=
  ⟨by rw [off2t (by omega)]; exact h.c0, by rw [off2t (by omega)]; exact h.c1, World.cell?_setCell_same _ _ _ h.c2, by rw [off2t (by omega)]; exact h.c3, by simp [h.f0], by simp [h.f1], by simp [h.f2], by simp [h.f3]⟩
theorem BoxV.set3 (h : BoxV w b v0 v1 v2 v3) (u : Value) : BoxV (w.setCell ⟨b, 3, none⟩ u) b v0 v1 v2 u :=
  ⟨by rw [off2t (by omega)]; exact h.c0, by rw [off2t (by omega)]; exact h.c1, by rw [off2t (by omega)]; exact h.c2, World.cell?_setCell_same _ _ _ h.c3, by simp [h.f0], by simp [h.f1], by simp [h.f2], by simp [h.f3]⟩
theorem BoxV.put (h : BoxV w b v0 v1 v2 v3) (u0 u1 u2 u3 : Value) : BoxV ((((w.setCell ⟨b, 0, none⟩ u0).setCell ⟨b, 1, none⟩ u1).setCell ⟨b, 2, none⟩ u2).setCell ⟨b, 3, none⟩ u3) b u0 u1 u2 u3 := by
  obtain ⟨c0, c1, c2, c3, f0, f1, f2, f3⟩ := h
  refine ⟨?_, ?_, ?_, ?_, by simp [f0], by simp [f1], by simp [f2], by simp [f3]⟩
  · rw [off2t (by omega), off2t (by omega), off2t (by omega)]; exact World.cell?_setCell_same _ _ _ c0
  · rw [off2t (by omega), off2t (by omega)]; exact World.cell?_setCell_same _ _ _ (by rw [off2t (by omega)]; exact c1)
  · rw [off2t (by omega)]; exact World.cell?_setCell_same _ _ _ (by rw [off2t (by omega), off2t (by omega)]; exact c2)
  · exact World.cell?_setCell_same _ _ _ (by rw [off2t (by omega), off2t (by omega), off2t (by omega)]; exact c3)
theorem mutV (w : World) (b : Nat) (u0 u1 u2 u3 : Value) : Mut (fun k => k = b) w ((((w.setCell ⟨b, 0, none⟩ u0).setCell ⟨b, 1, none⟩ u1).setCell ⟨b, 2, none⟩ u2).setCell ⟨b, 3, none⟩ u3) :=
  ((mut1.trans mut1).trans mut1).trans mut1
end
/-! ### lengths of what is read -/
end Go.Proofs.YtehagnbphamjhaaGreatDoor

namespace Go.Proofs.YtehagnbphamjhaaGreatDoor
open Go.RowKit

/-! ### slices.Clone -/
theorem PidRow.nilA {w : World} {xs : List Pid} (h : PidRow w none xs) : xs = [] := by
  rcases h with h | ⟨b, off, h, _⟩
  · exact h
  · cases h
set_option maxRecDepth 100000 in
set_option maxHeartbeats 800000 in
theorem clone_any {a : Option Addr} {c : Nat} {xs : List Pid} {w : World} (hn : xs.length ≤ 549755813888) (hrow : PidRow w a xs) :
   Calls Tryz.prog 261 #[.slice a xs.length c] w fun e w' => ∃ v, e = .returned v ∧ OwnP w' w.heap.size v xs ∧ Below w.heap.size w w' := by
  cases a with
  | none =>
    have hx := hrow.nilA
    subst hx
    have hnil : ∀ W, (binOp .eql 51 (.slice none 0 c) (.slice none 0 0)).run Tryz.prog W = .ok (.bool true) W := fun W => Lib.run_eql_slice_nil W 51 46 none 0 c 0 0 Tryz.underlying51
    go_enter Tryz.func261, Tryz.ntmps261
    go_wp2
    go_ret
    exact ⟨_, rfl, OwnP.nil _ _, Below.refl _ _⟩
  | some a =>
    have hnil : ∀ W, (binOp .eql 51 (.slice (some a) xs.length c) (.slice none 0 0)).run Tryz.prog W = .ok (.bool false) W := fun W => Lib.run_eql_slice_nil W 51 46 (some a) xs.length c 0 0 Tryz.underlying51
    have hown : OwnP (w.alloc (.cells #[] 46)) w.heap.size (.slice (some ⟨w.heap.size, 0, none⟩) 0 0) [] := World.ownsRow_made (w := w) #[] 0 (Nat.le_refl _) (by unfold maxLen; omega) (by simp)
    have hB : Below w.heap.size w (w.alloc (.cells #[] 46)) := (Below.refl _ _).alloc (Nat.le_refl _) _
    have hr1 := hrow.ext hB
    go_enter Tryz.func261, Tryz.ntmps261
    go_wp2_with (at_builtin; refine wpList_appendP hown hr1 ?cb ?cz rfl rfl rfl rfl ?_; rotate_right; intro v4 w4 hown4 hg4 hnil4)
    case cb => simp; omega
    case cz => simp
    go_ret
    exact ⟨v4, rfl, hown4, hB.grown hg4 hB.size (fun g hg => (World.ownsRow.lt hown g hg).1)⟩
theorem clone_is {a : Option Addr} {c n : Nat} {xs : List Pid} {w : World} (hn : Hid (xs.length = n)) (hl : n ≤ 549755813888) (hrow : PidRow w a xs) :
   Calls Tryz.prog 261 #[.slice a n c] w fun e w' => ∃ v, e = .returned v ∧ OwnP w' w.heap.size v xs ∧ Below w.heap.size w w' := by
  have hn := hn.out; subst hn
  exact clone_any hl hrow
end Go.Proofs.YtehagnbphamjhaaGreatDoor

