/- Parts of the proof: X22 X23 X9 X10 X11 X12 X13 X14. -/
import Derived.Defers
import Derived.WalkSpells
import Derived.Lib.Bytes
import Derived.Test.YtbpfhclcjedkcaaLa10
import Derived.Test.YtbpfhclcjedkcaaLa2
import Derived.Test.YtbpfhclcjedkcaaLa6
namespace Go.Proofs.Ytbpfhclcjedkcaa
open Go.RowKit

/-! ### a command in its box; cmd.Same and the reference's -/
def cmdL (da am al ad : Option Addr) (dc cm cl cd : Nat) (c : CmdD) : Array Value :=
  #[.int .i64 c.kind, .int .u16 c.fr.1, .int .u32 c.fr.2, .int .u64 c.num, .int .u64 c.vw, .slice da c.data.length dc, .int .u64 c.v.id, .slice am c.v.ms.length cm, .slice al c.v.ls.length cl, .slice ad c.v.ds.length cd]
structure CmdR (w : World) (da am al ad : Option Addr) (c : CmdD) : Prop where
  dr : ByteRow w da c.data
  dl : c.data.length ≤ 70368744177664
  db : ∀ b ∈ c.data, b < 256
  v : ViewR w am al ad c.v
theorem CmdR.ext {w w' : World} {da am al ad : Option Addr} {c : CmdD} (h : CmdR w da am al ad c) (hb : Below w.heap.size w w') : CmdR w' da am al ad c :=
  ⟨h.dr.ext hb, h.dl, h.db, h.v.ext hb⟩
structure CmdBox (w : World) (b : Nat) (c : CmdD) (da am al ad : Option Addr) (dc cm cl cd : Nat) : Prop where
  c0 : w.cell? ⟨b, 0, none⟩ = some (.int .i64 c.kind)
  c1 : w.cell? ⟨b, 1, none⟩ = some (.int .u16 c.fr.1)
  c2 : w.cell? ⟨b, 2, none⟩ = some (.int .u32 c.fr.2)
  c3 : w.cell? ⟨b, 3, none⟩ = some (.int .u64 c.num)
  c4 : w.cell? ⟨b, 4, none⟩ = some (.int .u64 c.vw)
  c5 : w.cell? ⟨b, 5, none⟩ = some (.slice da c.data.length dc)
  c6 : w.cell? ⟨b, 6, none⟩ = some (.int .u64 c.v.id)
  c7 : w.cell? ⟨b, 7, none⟩ = some (.slice am c.v.ms.length cm)
  c8 : w.cell? ⟨b, 8, none⟩ = some (.slice al c.v.ls.length cl)
  c9 : w.cell? ⟨b, 9, none⟩ = some (.slice ad c.v.ds.length cd)
section
variable {w w' : World} {b : Nat} {c : CmdD} {da am al ad : Option Addr} {dc cm cl cd : Nat}
theorem CmdBox.lt (h : CmdBox w b c da am al ad dc cm cl cd) : b < w.heap.size := World.block_lt_of_cell? w _ h.c0
theorem CmdBox.ext (h : CmdBox w b c da am al ad dc cm cl cd) {B : Nat} (hb : Below B w w') (hB : b < B) : CmdBox w' b c da am al ad dc cm cl cd := by
  have g : ∀ k, w'.cell? ⟨b, k, none⟩ = w.cell? ⟨b, k, none⟩ := fun k => hb.cell (by exact hB)
  exact ⟨(g 0).trans h.c0, (g 1).trans h.c1, (g 2).trans h.c2, (g 3).trans h.c3, (g 4).trans h.c4, (g 5).trans h.c5, (g 6).trans h.c6, (g 7).trans h.c7, (g 8).trans h.c8, (g 9).trans h.c9⟩
theorem CmdBox.made (w : World) : CmdBox (w.alloc (.cells (cmdL da am al ad dc cm cl cd c) 44)) w.heap.size c da am al ad dc cm cl cd := by
  unfold cmdL
  exact ⟨by simp, by simp, by simp, by simp, by simp, by simp, by simp, by simp, by simp, by simp⟩
end
end Go.Proofs.Ytbpfhclcjedkcaa

namespace Go.Proofs.Ytbpfhclcjedkcaa
open Go.RowKit
/-! view.members, ranks, rising, slices.Grow, Concat, view.Check -/
set_option maxRecDepth 100000 in
set_option maxHeartbeats 400000 in
theorem grow_any (n : Nat) (w : World) (hn : n ≤ 1099511627776) :
   Calls Try.prog 180 #[.slice none 0 0, .int .i64 n] w fun e w' => ∃ v, e = .returned v ∧ OwnP w' w.heap.size v [] ∧ Below w.heap.size w w' := by
  obtain ⟨i0, hi, hz0, hz1, hz2⟩ := info_parts info36
  by_cases h0 : n = 0
  · subst h0
    go_enter Try.func180, Try.ntmps180
    go_wp2
    go_ret
    exact ⟨_, rfl, OwnP.nil _ _, Below.refl _ _⟩
  · have h1 : (0 : Int) < n := by omega
    have hrz : ∀ ty, (Builtin.append_ #[30, 3] ty #[.slice none 0 0, .int .i64 n]).run Try.prog w =
        .ok (.slice (some ⟨w.heap.size, 0, none⟩) n (grownCap w n 0 26)) (w.drew.alloc (.cells ((#[] : Array Value) ++ Builtin.zeroCells #[.int .u16 0, .int .u32 0] n ++ Builtin.zeroCells #[.int .u16 0, .int .u32 0] (grownCap w n 0 26 - n)) 26)) := fun ty => by
      have h := Lib.run_append_grow_zeros w 30 3 ty 26 i0 _ .i64 .i64 Try.underlying30 Try.underlying3 hi hz0 none 0 0 [] (run_firstCells_none w.drew i0.size 0 0 0) n (by omega) (by omega) (by omega) (by omega) (by rw [hz2]; omega) (by rw [hz2]; simp [Builtin.nextslicecap]; split <;> omega)
      simpa [Value.cells] using h
    have hGn : n ≤ grownCap w n 0 26 := grownCap_ge w _ _ _
    have hG63 : grownCap w n 0 26 ≤ maxLen := grownCap_le_maxLen w n 0 26 (by unfold maxLen; omega)
    obtain ⟨G, hG⟩ : ∃ G, G = grownCap w n 0 26 := ⟨_, rfl⟩
    rw [← hG] at hrz hGn hG63
    clear hG h0
    have hown : OwnP (w.drew.alloc (.cells ((#[] : Array Value) ++ Builtin.zeroCells #[.int .u16 0, .int .u32 0] n ++ Builtin.zeroCells #[.int .u16 0, .int .u32 0] (G - n)) 26)) w.heap.size (.slice (some ⟨w.heap.size, 0, none⟩) 0 G) [] :=
      World.ownsRow_made (w := w.drew) _ G (Nat.le_refl _) hG63 (by simp [size_zeroCells]; omega)
    have hB : Below w.heap.size w (w.drew.alloc (.cells ((#[] : Array Value) ++ Builtin.zeroCells #[.int .u16 0, .int .u32 0] n ++ Builtin.zeroCells #[.int .u16 0, .int .u32 0] (G - n)) 26)) := (Below.refl _ _).drew.alloc (Nat.le_refl _) _
    generalize (w.drew.alloc (.cells ((#[] : Array Value) ++ Builtin.zeroCells #[.int .u16 0, .int .u32 0] n ++ Builtin.zeroCells #[.int .u16 0, .int .u32 0] (G - n)) 26)) = w1 at hrz hown hB
    go_enter Try.func180, Try.ntmps180
    go_wp2_with (at_builtin; refine Lib.wpList_append_run _ rfl _ _ _ _ rfl _ _ rfl rfl _ _ (hrz _) ?_)
    all_goals (go_ret; exact ⟨_, rfl, hown, hB⟩)

set_option maxRecDepth 100000 in
set_option maxHeartbeats 800000 in
theorem concat_any (a : Option Addr) (c : Nat) (ls : List (List Pid)) (w : World) (hn : ls.length ≤ 70368744177664) (hl : lens ls ≤ 549755813888) (hrow : LeafRow w a ls) :
   Calls Try.prog 86 #[.slice a ls.length c] w fun e w' => ∃ v, e = .returned v ∧ OwnP w' w.heap.size v ls.flatten ∧ Below w.heap.size w w' := by
  go_enter Try.func86, Try.ntmps86
  go_wp2
  go_loop [3, 11] (fun n i => ∃ (k : Nat), k ≤ ls.length ∧ i = .int .i64 k ∧ n = .int .i64 (lens (ls.take k))) (fun _ i => ls.length - (intOf i).toNat)
  case atStart => exact ⟨0, Nat.zero_le _, rfl, by simp [lens]⟩
  case round =>
    obtain ⟨k, hk, rfl, rfl⟩ := hrel
    have hle := lens_take_le ls k
    by_cases hlt : k < ls.length
    · obtain ⟨b, off, ai, ci, l, rfl, hx, d1, d2⟩ := hrow.at (Below.refl _ _) rfl hlt
      have hs := lens_take_succ hlt
      rw [← hx] at hs
      have hle' := lens_take_le ls (k + 1)
      have HS := hid hs
      have hl2 : lens (ls.take k) + l.length ≤ 549755813888 := by omega
      clear hs hx hle'
      generalize hT : lens (ls.take k) = T at *
      have HT := hid hT
      clear hT
      go_wp2
      go_round
      case rel => exact ⟨k + 1, by omega, by go_num, by rw [HS.out]; go_num⟩
      case measure => simp [intOf]; omega
    · have hall := lens_take_all (ls := ls) (k := k) (by omega)
      rw [hall]
      clear hall hle
      go_wp2_with (go_at_call 180; refine (grow_any _ _ (by omega)).mono ?_; rintro e w1 ⟨v1, rfl, hown1, hb1⟩)
      go_loopw [6, 27] (fun v i wr => ∃ (k : Nat), k ≤ ls.length ∧ i = .int .i64 k ∧ OwnP wr w.heap.size v (ls.take k).flatten ∧ Below w.heap.size w wr) (fun _ i _ => ls.length - (intOf i).toNat)
      case atStart => exact ⟨0, Nat.zero_le _, rfl, by simpa using hown1, hb1⟩
      case round =>
        obtain ⟨j, hj, rfl, hown, hb⟩ := hrel
        by_cases hjt : j < ls.length
        · obtain ⟨b, off, ai, ci, l, rfl, hx, d1, d2⟩ := hrow.at hb rfl hjt
          have hf := flatten_take_succ hjt
          have hs := lens_take_succ hjt
          rw [← hx] at hf hs
          have hle' := lens_take_le ls (j + 1)
          have hlf := lens_flatten (ls.take j)
          have HF := hid hf
          have hl2 : (ls.take j).flatten.length + l.length ≤ 1099511627776 := by omega
          clear hs hx hf hlf hle' hrow
          generalize hT : (ls.take j).flatten = T at *
          have HT := hid hT
          clear hT
          go_wp2_with (at_builtin; refine wpList_appendP hown d2 hl2 hb.size rfl rfl rfl rfl ?_; intro v2 w2 hown2 hg2 hnil2)
          go_roundw
          case rel => exact ⟨j + 1, by omega, by go_num, by rw [HF.out]; exact hown2, hb.grown hg2 hb.size (fun g hg => (World.ownsRow.lt hown g hg).1)⟩
          case measure => simp [intOf]; omega
        · have hall : (ls.take j).flatten = ls.flatten := by rw [List.take_of_length_le (by omega)]
          rw [hall] at hown
          clear hall
          go_wp2
          go_ret
          exact ⟨_, rfl, hown, hb⟩

end Go.Proofs.Ytbpfhclcjedkcaa

namespace Go.Proofs.Ytbpfhclcjedkcaa
open Go.RowKit
theorem ByteRow.nilA {w : World} {bs : List Nat} (h : ByteRow w none bs) : bs = [] := by
  rcases h with h | ⟨b, off, h, _⟩
  · exact h
  · cases h
theorem OwnB.cap {w : World} {base : Nat} {v : Value} {bs : List Nat} (h : OwnB w base v bs) : ∀ a n c, v = .slice a n c → bs.length ≤ c := by
  intro a n c e
  rcases h.2 with ⟨rfl, hn⟩ | ⟨g, cap, cur, rfl, hb, hg, hnc, _⟩
  · cases e; omega
  · cases e; exact hnc
/-- the writer behind a pointer -/
structure WrIs (w : World) (s : Nat) (v : Value) (bs : List Nat) : Prop where
  c : w.cell? ⟨s, 0, none⟩ = some v
  f : w.frozen? ⟨s, 0, none⟩ = false
  own : OwnB w (s + 1) v bs
theorem WrIs.lt {w : World} {s : Nat} {v : Value} {bs : List Nat} (h : WrIs w s v bs) : s < w.heap.size := World.block_lt_of_cell? w _ h.c
theorem WrIs.ext {w w' : World} {s : Nat} {v : Value} {bs : List Nat} (h : WrIs w s v bs) (hb : Below w.heap.size w w') : WrIs w' s v bs :=
  ⟨cell_toB h.c hb, (hb.frozen (by exact h.lt)).trans h.f, h.own.ext hb⟩
theorem WrIs.alloc {w : World} {s : Nat} {v : Value} {bs : List Nat} (h : WrIs w s v bs) (o : Obj) : WrIs (w.alloc o) s v bs := h.ext ((Below.refl _ _).alloc (Nat.le_refl _) _)
theorem WrIs.made (w : World) (t : TypeId) : WrIs (w.alloc (.cells #[.slice none 0 0] t)) w.heap.size (.slice none 0 0) [] := ⟨by simp, by simp, OwnB.nil _ _⟩
/-- what a call of the writer leaves -/
structure Wrote (w w' : World) (s : Nat) (v' : Value) (bs : List Nat) : Prop where
  wr : WrIs w' s v' bs
  own : OwnB w' w.heap.size v' bs
  mt : Mut (fun k => k = s) w w'
theorem ByteRow.mutT {G : Nat → Prop} {w w' : World} {a : Option Addr} {bs : List Nat} (h : ByteRow w a bs) (hm : Mut G w w') (hne : ∀ b off, a = some ⟨b, off, none⟩ → bs ≠ [] → ¬ G b) : ByteRow w' a bs := by
  rcases h with rfl | ⟨b, off, rfl, hlt, hc⟩
  · exact .inl rfl
  · by_cases hl : bs = []
    · exact .inl hl
    · have hb := hm.block b hlt (hne b off rfl hl)
      exact .inr ⟨b, off, rfl, by have := hm.size; omega, fun i hi => (World.cell?_of_block (w := w) hb).trans (hc i hi)⟩
end Go.Proofs.Ytbpfhclcjedkcaa

namespace Go.Proofs.Ytbpfhclcjedkcaa
open Go.RowKit
theorem PidRow.mutT {G : Nat → Prop} {w w' : World} {a : Option Addr} {l : List Pid} (h : PidRow w a l) (hm : Mut G w w') (hne : ∀ b off, a = some ⟨b, off, none⟩ → l ≠ [] → ¬ G b) : PidRow w' a l := by
  rcases h with rfl | ⟨b, off, rfl, hlt, hc⟩
  · exact .inl rfl
  · by_cases hl : l = []
    · exact .inl hl
    · have hb := hm.block b hlt (hne b off rfl hl)
      exact .inr ⟨b, off, rfl, by have := hm.size; omega, fun i hi => ⟨(World.cell?_of_block (w := w) hb).trans (hc i hi).1, (World.cell?_of_block (w := w) hb).trans (hc i hi).2⟩⟩
theorem Wrote.trans {w w1 w1' w2 : World} {s : Nat} {v1 v2 : Value} {b1 b2 : List Nat} (h : Wrote w w1 s v1 b1) (hb : Below w1.heap.size w1 w1') (h2 : Wrote w1' w2 s v2 b2) : Wrote w w2 s v2 b2 :=
  ⟨h2.wr, h2.own.mono (Nat.le_trans h.mt.size hb.size), (h.mt.trans (Mut.of_below hb)).trans h2.mt⟩
/-! ### the reference's forms -/
end Go.Proofs.Ytbpfhclcjedkcaa

namespace Go.Proofs.Ytbpfhclcjedkcaa
open Go.RowKit
/-- the reader behind a pointer -/
structure RdIs (w : World) (s : Nat) (a : Option Addr) (c : Nat) (S : RS) : Prop where
  c0 : w.cell? ⟨s, 0, none⟩ = some (.slice a S.b.length c)
  c1 : w.cell? ⟨s, 1, none⟩ = some (.int .i64 S.e)
  f0 : w.frozen? ⟨s, 0, none⟩ = false
  f1 : w.frozen? ⟨s, 1, none⟩ = false
  row : ByteRow w a S.b
  far : ∀ b off, a = some ⟨b, off, none⟩ → S.b ≠ [] → b < s
  cap : S.b.length ≤ c
  byt : ∀ b ∈ S.b, b < 256
  len : S.b.length ≤ 70368744177664
theorem RdIs.lt {w : World} {s c : Nat} {a : Option Addr} {S : RS} (h : RdIs w s a c S) : s < w.heap.size := World.block_lt_of_cell? w _ h.c0
theorem RdIs.ext {w w' : World} {s c : Nat} {a : Option Addr} {S : RS} (h : RdIs w s a c S) (hb : Below w.heap.size w w') : RdIs w' s a c S :=
  ⟨cell_toB h.c0 hb, cell_toB h.c1 hb, (hb.frozen (by exact h.lt)).trans h.f0, (hb.frozen (by exact h.lt)).trans h.f1, h.row.ext hb, h.far, h.cap, h.byt, h.len⟩
theorem RdIs.alloc {w : World} {s c : Nat} {a : Option Addr} {S : RS} (h : RdIs w s a c S) (o : Obj) : RdIs (w.alloc o) s a c S := h.ext ((Below.refl _ _).alloc (Nat.le_refl _) _)
theorem ByteRow.setFar {w : World} {a : Option Addr} {bs : List Nat} {s i : Nat} {v : Value} (h : ByteRow w a bs) (hf : ∀ b off, a = some ⟨b, off, none⟩ → bs ≠ [] → b < s) : ByteRow (w.setCell ⟨s, i, none⟩ v) a bs := by
  rcases h with rfl | ⟨b, off, rfl, hlt, hc⟩
  · exact .inl rfl
  · by_cases hl : bs = []
    · exact .inl hl
    · have hb : b ≠ s := Nat.ne_of_lt (hf b off rfl hl)
      exact .inr ⟨b, off, rfl, by simpa using hlt, fun j hj => by rw [World.cell?_setCell_far _ _ _ _ (by exact fun e => hb e.symm)]; exact hc j hj⟩
/-- other bytes -/
theorem RdIs.put {w : World} {s c c' : Nat} {a a' : Option Addr} {S : RS} {b' : List Nat} (h : RdIs w s a c S) {n : Nat} (hn : n = b'.length) (hrow : ByteRow w a' b') (hfar : ∀ b off, a' = some ⟨b, off, none⟩ → b' ≠ [] → b < s) (hcap : b'.length ≤ c') (hby : ∀ b ∈ b', b < 256) (hlen : b'.length ≤ 70368744177664) : RdIs (w.setCell ⟨s, 0, none⟩ (.slice a' n c')) s a' c' ⟨b', S.e⟩ := by
  subst hn
  exact ⟨World.cell?_setCell_same _ _ _ h.c0, by rw [World.cell?_setCell_other _ _ _ _ (by simp)]; exact h.c1, by simp [h.f0], by simp [h.f1], hrow.setFar hfar, hfar, hcap, hby, hlen⟩
theorem mut1 {w : World} {s i : Nat} {v : Value} : Mut (fun k => k = s) w (w.setCell ⟨s, i, none⟩ v) :=
  ⟨rfl, rfl, rfl, by simp, fun k _ hf => Below.heap_setCell _ _ _ _ (by exact hf)⟩
end Go.Proofs.Ytbpfhclcjedkcaa

namespace Go.Proofs.Ytbpfhclcjedkcaa
open Go.RowKit
theorem RdIs.mutT {G : Nat → Prop} {w w' : World} {s c : Nat} {a : Option Addr} {S : RS} (h : RdIs w s a c S) (hm : Mut G w w') (hG : ∀ k, G k → s < k) : RdIs w' s a c S := by
  have hb := hm.block s h.lt (fun hs => by have := hG s hs; omega)
  refine ⟨(World.cell?_of_block (w := w) (a := ⟨s, 0, none⟩) hb).trans h.c0, (World.cell?_of_block (w := w) (a := ⟨s, 1, none⟩) hb).trans h.c1, (World.frozen?_of_block (w := w) (a := ⟨s, 0, none⟩) hb).trans h.f0, (World.frozen?_of_block (w := w) (a := ⟨s, 1, none⟩) hb).trans h.f1, ?_, h.far, h.cap, h.byt, h.len⟩
  exact h.row.mutT hm (fun b off e hne hg => by have := h.far b off e hne; have := hG b hg; omega)
theorem cell_mut {G : Nat → Prop} {w w' : World} {p : Addr} {v : Value} (h : w.cell? p = some v) (hm : Mut G w w') (hG : ¬ G p.block) : w'.cell? p = some v :=
  (hm.cell (World.block_lt_of_cell? w _ h) hG).trans h
end Go.Proofs.Ytbpfhclcjedkcaa

namespace Go.Proofs.Ytbpfhclcjedkcaa
open Go.RowKit
/-- the place of a result: one cell -/
structure Cell1 (w : World) (g : Nat) (v : Value) : Prop where
  c : w.cell? ⟨g, 0, none⟩ = some v
  f : w.frozen? ⟨g, 0, none⟩ = false
theorem Cell1.made (w : World) (t : TypeId) (v : Value) : Cell1 (w.alloc (.cells #[v] t)) w.heap.size v := ⟨by simp, by simp⟩
theorem Cell1.lt {w : World} {g : Nat} {v : Value} (h : Cell1 w g v) : g < w.heap.size := World.block_lt_of_cell? w _ h.c
theorem Cell1.ext {w w' : World} {g : Nat} {v : Value} (h : Cell1 w g v) (hb : Below w.heap.size w w') : Cell1 w' g v := ⟨cell_toB h.c hb, (hb.frozen (by exact h.lt)).trans h.f⟩
theorem Cell1.mutT {G : Nat → Prop} {w w' : World} {g : Nat} {v : Value} (h : Cell1 w g v) (hm : Mut G w w') (hG : ¬ G g) : Cell1 w' g v :=
  ⟨cell_mut h.c hm hG, (World.frozen?_of_block (w := w) (a := ⟨g, 0, none⟩) (hm.block g h.lt hG)).trans h.f⟩
end Go.Proofs.Ytbpfhclcjedkcaa

namespace Go.Proofs.Ytbpfhclcjedkcaa
open Go.RowKit
/-- a box of two cells -/
structure BoxP (w : World) (b : Nat) (v0 v1 : Value) : Prop where
  c0 : w.cell? ⟨b, 0, none⟩ = some v0
  c1 : w.cell? ⟨b, 1, none⟩ = some v1
  f0 : w.frozen? ⟨b, 0, none⟩ = false
  f1 : w.frozen? ⟨b, 1, none⟩ = false
theorem BoxP.lt {w : World} {b : Nat} {v0 v1 : Value} (h : BoxP w b v0 v1) : b < w.heap.size := World.block_lt_of_cell? w _ h.c0
theorem BoxP.ext {w w' : World} {b : Nat} {v0 v1 : Value} (h : BoxP w b v0 v1) (hb : Below w.heap.size w w') : BoxP w' b v0 v1 :=
  ⟨cell_toB h.c0 hb, cell_toB h.c1 hb, (hb.frozen (by exact h.lt)).trans h.f0, (hb.frozen (by exact h.lt)).trans h.f1⟩
theorem BoxP.made (w : World) (t : TypeId) (v0 v1 : Value) : BoxP (w.alloc (.cells #[v0, v1] t)) w.heap.size v0 v1 := ⟨by simp, by simp, by simp, by simp⟩
theorem BoxP.mutT {G : Nat → Prop} {w w' : World} {b : Nat} {v0 v1 : Value} (h : BoxP w b v0 v1) (hm : Mut G w w') (hG : ¬ G b) : BoxP w' b v0 v1 :=
  ⟨cell_mut h.c0 hm hG, cell_mut h.c1 hm hG, (World.frozen?_of_block (w := w) (a := ⟨b, 0, none⟩) (hm.block b h.lt hG)).trans h.f0, (World.frozen?_of_block (w := w) (a := ⟨b, 1, none⟩) (hm.block b h.lt hG)).trans h.f1⟩
theorem BoxP.put {w : World} {b : Nat} {v0 v1 : Value} (h : BoxP w b v0 v1) (x y : Value) : BoxP ((w.setCell ⟨b, 0, none⟩ x).setCell ⟨b, 1, none⟩ y) b x y := by
  refine ⟨?_, ?_, by simp [h.f0], by simp [h.f1]⟩
  · rw [World.cell?_setCell_other _ _ _ _ (by simp)]
    exact World.cell?_setCell_same _ _ _ h.c0
  · refine World.cell?_setCell_same _ _ _ (u := v1) ?_
    rw [World.cell?_setCell_other _ _ _ _ (by simp)]
    exact h.c1
end Go.Proofs.Ytbpfhclcjedkcaa

