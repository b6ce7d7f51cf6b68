/- Parts of the proof: K0 K8 KA. -/
import Derived.RangeFuncNested
import Derived.RangeFuncBound
import Derived.RangeFuncCalls
import Derived.RangeFuncLeaves
import Derived.Shelf.Abstract
import Derived.Shelf.RegionOpen
import Derived.OwnWalkIn
import Derived.TacticsInMore
import Derived.LoopNIn
import Derived.LoopIn
import Derived.RegionIn
import Derived.Sort.MapsRangeIn
import Derived.Test.YtidohmpnefcpcaaK7
namespace Go.Proofs.Ytidohmpnefcpcaa
open Go.RowKit
/-! ### delete (as in B3) -/
theorem del_eq {α β : Type} [DecidableEq α] {x : α} : ∀ {L : List (α × β)} {i j : Nat} {v : β}, lookI x L i = some (j, v) → del x L = L.eraseIdx (j - i)
  | [], _, _, _, h => by simp [lookI] at h
  | p :: l, i, j, v, h => by
    simp only [lookI] at h
    split at h
    · next hx =>
      simp only [Option.some.injEq, Prod.mk.injEq] at h
      obtain ⟨rfl, _⟩ := h
      simp [del, hx]
    · next hx =>
      have h1 := lookI_some h
      have e : j - i = (j - (i + 1)) + 1 := by omega
      rw [e]
      simp only [del, if_neg hx, List.eraseIdx_cons_succ, del_eq h]
theorem del_none {α β : Type} [DecidableEq α] {x : α} : ∀ {L : List (α × β)} {i : Nat}, lookI x L i = none → del x L = L
  | [], _, _ => rfl
  | p :: l, i, h => by
    simp only [lookI] at h
    split at h
    · simp at h
    · next hx => simp [del, if_neg hx, del_none h]
theorem map_eraseIdx' {α β : Type} (f : α → β) : ∀ (l : List α) (j : Nat), (l.eraseIdx j).map f = (l.map f).eraseIdx j
  | [], _ => rfl
  | _ :: _, 0 => rfl
  | a :: l, j + 1 => by simp [map_eraseIdx' f l j]
theorem MapIs.delete {α β : Type} [DecidableEq α] {ke : α → Value} {ve : β → Value} {P : Program} {K : TypeId} {w : World} {r : Nat} {L : List (α × β)} (h : MapIs w r ke ve L) (kk : KeyOk P K ke) {t e : TypeId} (ht : P.underlying t = some (.map K e)) (x : α) :
    ∃ w', (∀ ty, (Builtin.delete_ #[t, K] ty #[.map (some r), ke x]).run P w = .ok (.tuple #[]) w') ∧ MapIs w' r ke ve (del x L) ∧ But r w w' := by
  obtain ⟨es, clock, hb, he, hbn⟩ := h
  have hf := find_run (w := w) kk he x
  cases hq : lookI x L 0 with
  | none =>
    rw [hq] at hf
    refine ⟨{ w with heap := w.heap.setIfInBounds r (.map es clock) }, fun ty => by simp [Builtin.delete_, run_underlying ht, MapKept.run_getObj_map hb, kk.check, hf, MapKept.run_setObj_map _ hb, Result.andThen], ⟨_, _, (MapKept.heap_set hb).1, by rw [del_none hq]; exact he, hbn⟩, But.of_set _ _ _⟩
  | some q =>
    obtain ⟨j, u⟩ := q
    rw [hq] at hf
    have hlen : es.toList.length = L.length := by simpa using congrArg List.length he
    have hj : j < es.size := by have := (lookI_some hq).2.1; simp at hlen; omega
    refine ⟨{ w with heap := w.heap.setIfInBounds r (.map (es.eraseIdxIfInBounds j) clock) }, fun ty => by simp [Builtin.delete_, run_underlying ht, MapKept.run_getObj_map hb, kk.check, hf, MapKept.run_setObj_map _ hb, Result.andThen], ⟨_, _, (MapKept.heap_set hb).1, ?_, ?_⟩, But.of_set _ _ _⟩
    · rw [del_eq hq, Nat.sub_zero]
      have : (es.eraseIdxIfInBounds j).toList = es.toList.eraseIdx j := by simp [Array.eraseIdxIfInBounds, hj, Array.toList_eraseIdx]
      rw [this, map_eraseIdx', he, map_eraseIdx']
    · have : (es.eraseIdxIfInBounds j).toList = es.toList.eraseIdx j := by simp [Array.eraseIdxIfInBounds, hj, Array.toList_eraseIdx]
      have hs : (es.toList.eraseIdx j).Sublist es.toList := List.eraseIdx_sublist _ _
      exact ⟨by rw [this]; exact hbn.1.sublist (hs.map _), fun e he' => hbn.2 e (hs.subset (by rw [← this]; exact he'))⟩
end Go.Proofs.Ytidohmpnefcpcaa

namespace Go.Proofs.Ytidohmpnefcpcaa
open Go.RowKit
open Go.Instr Go.MapKept
/-! ### a link in the heap -/
abbrev ke64 : Nat → Value := fun x => .int .u64 (x : Int)
theorem key64 (K : TypeId) (hK : Try.prog.underlying K = some (.int .u64)) : KeyOk Try.prog K ke64 where
  find := by
    intro x L es w h
    simp only [findKey, Sem.run_bind, run_underlying hK, Result.andThen]
    have : ∀ (es : List MapEntry) (L : List (Nat × Value)) (i : Nat), es.map (fun e => (e.key, e.val)) = L.map (fun p => (ke64 p.1, p.2)) → findNow (.int .u64) (ke64 x) es i = some (lookI x L i) := by
      intro es
      induction es with
      | nil => intro L i h; cases L with | nil => rfl | cons _ _ => simp at h
      | cons e es ih =>
        intro L i h
        cases L with
        | nil => simp at h
        | cons p L =>
          simp only [List.map_cons, List.cons.injEq, Prod.mk.injEq] at h
          obtain ⟨⟨h1, h2⟩, h3⟩ := h
          simp only [findNow, h1, sameNow, lookI, if_true]
          by_cases hx : x = p.1
          · simp [hx, h2]
          · have hb : ((x : Int) == (p.1 : Int)) = false := by simp; omega
            simp [hx, hb, ih L (i + 1) h3]
    rw [this es L 0 h]
    simp
  check := by intro b x w; exact run_checkKey (n := 9999) hK (by simp [IsKey]) b
  same := by intro x; simp [sameBits]
theorem key64_t : KeyOk Try.prog 39 ke64 := key64 39 Try.underlying39
/-- four cells that may be written -/
structure Box4 (w : World) (b : Nat) (v0 v1 v2 v3 : Value) : Prop where
  c0 : w.cell? ⟨b, 0, none⟩ = some v0
  c1 : w.cell? ⟨b, 1, none⟩ = some v1
  c2 : w.cell? ⟨b, 2, none⟩ = some v2
  c3 : w.cell? ⟨b, 3, none⟩ = some v3
  f : ∀ j, w.frozen? ⟨b, j, none⟩ = false
section
variable {w w' : World} {b : Nat} {v0 v1 v2 v3 : Value}
theorem Box4.lt (h : Box4 w b v0 v1 v2 v3) : b < w.heap.size := World.block_lt_of_cell? w _ h.c0
theorem Box4.mut {G : Nat → Prop} (h : Box4 w b v0 v1 v2 v3) (hm : Mut G w w') (hG : ¬ G b) : Box4 w' b v0 v1 v2 v3 :=
  ⟨(hm.cell h.lt hG).trans h.c0, (hm.cell h.lt hG).trans h.c1, (hm.cell h.lt hG).trans h.c2, (hm.cell h.lt hG).trans h.c3, fun j => (World.frozen?_of_block (w := w) (a := ⟨b, j, none⟩) (hm.block b h.lt hG)).trans (h.f j)⟩
theorem Box4.made (w : World) (t : TypeId) (v0 v1 v2 v3 : Value) : Box4 (w.alloc (.cells #[v0, v1, v2, v3] t)) w.heap.size v0 v1 v2 v3 := ⟨by simp, by simp, by simp, by simp, fun j => by simp⟩
theorem Box4.set1 (h : Box4 w b v0 v1 v2 v3) (u : Value) : Box4 (w.setCell ⟨b, 1, none⟩ u) b v0 u v2 v3 :=
  ⟨by rw [cellOff (by omega)]; exact h.c0, World.cell?_setCell_same _ _ _ h.c1, by rw [cellOff (by omega)]; exact h.c2, by rw [cellOff (by omega)]; exact h.c3, fun j => by simp [h.f j]⟩
theorem Box4.set3 (h : Box4 w b v0 v1 v2 v3) (u : Value) : Box4 (w.setCell ⟨b, 3, none⟩ u) b v0 v1 v2 u :=
  ⟨by rw [cellOff (by omega)]; exact h.c0, by rw [cellOff (by omega)]; exact h.c1, by rw [cellOff (by omega)]; exact h.c2, World.cell?_setCell_same _ _ _ h.c3, fun j => by simp [h.f j]⟩
end
/-- what a link holds -/
structure LnkD where
  snd : SndD
  upto : Nat
  held : List (Nat × List Nat)
  owes : Bool
/-- where its parts lie -/
structure LnkP where
  lb : Nat
  sb : Nat
  hm : Nat
  wv : Value
def fpL (p : LnkP) (b : Nat) : Prop := b = p.lb ∨ b = p.sb ∨ b = p.hm ∨ p.wv.ownBlock = some b
def HeldL (w : World) (N : Nat → Prop) : List (Nat × Value) → List (Nat × List Nat) → Prop
  | [], [] => True
  | (q, u) :: l, (q', b) :: m => q = q' ∧ ItemAt w N u b ∧ HeldL w N l m
  | _, _ => False
theorem HeldL.mono {w w' : World} {N N' : Nat → Prop} (h : ∀ u b, ItemAt w N u b → ItemAt w' N' u b) : ∀ {l : List (Nat × Value)} {m : List (Nat × List Nat)}, HeldL w N l m → HeldL w' N' l m
  | [], [], _ => trivial
  | (q, u) :: l, (q', b) :: m, hl => ⟨hl.1, h u b hl.2.1, HeldL.mono h hl.2.2⟩
  | [], _ :: _, hl => hl.elim
  | _ :: _, [], hl => hl.elim
theorem HeldL.look {w : World} {N : Nat → Prop} (x : Nat) : ∀ {l : List (Nat × Value)} {m : List (Nat × List Nat)}, HeldL w N l m → (look x l = none ∧ look x m = none) ∨ ∃ u b, look x l = some u ∧ look x m = some b ∧ ItemAt w N u b
  | [], [], _ => .inl ⟨rfl, rfl⟩
  | (q, u) :: l, (q', b) :: m, hl => by
    obtain ⟨e, h1, h2⟩ := hl
    subst e
    simp only [Proofs.Ytidohmpnefcpcaa.look]
    by_cases hx : x = q
    · exact .inr ⟨u, b, by rw [if_pos hx], by rw [if_pos hx], h1⟩
    · rw [if_neg hx, if_neg hx]; exact HeldL.look x h2
  | [], _ :: _, hl => hl.elim
  | _ :: _, [], hl => hl.elim
theorem HeldL.del {w : World} {N : Nat → Prop} (x : Nat) : ∀ {l : List (Nat × Value)} {m : List (Nat × List Nat)}, HeldL w N l m → HeldL w N (del x l) (del x m)
  | [], [], _ => trivial
  | (q, u) :: l, (q', b) :: m, hl => by
    obtain ⟨e, h1, h2⟩ := hl
    subst e
    simp only [Proofs.Ytidohmpnefcpcaa.del]
    by_cases hx : x = q
    · rw [if_pos hx, if_pos hx]; exact h2
    · rw [if_neg hx, if_neg hx]; exact ⟨rfl, h1, HeldL.del x h2⟩
  | [], _ :: _, hl => hl.elim
  | _ :: _, [], hl => hl.elim
theorem HeldL.ins {w : World} {N : Nat → Prop} (x : Nat) {v : Value} {c : List Nat} (hv : ItemAt w N v c) : ∀ {l : List (Nat × Value)} {m : List (Nat × List Nat)}, HeldL w N l m → HeldL w N (ins x v l) (ins x c m)
  | [], [], _ => ⟨rfl, hv, trivial⟩
  | (q, u) :: l, (q', b) :: m, hl => by
    obtain ⟨e, h1, h2⟩ := hl
    subst e
    simp only [Proofs.Ytidohmpnefcpcaa.ins]
    by_cases hx : x = q
    · rw [if_pos hx, if_pos hx]; exact ⟨rfl, hv, h2⟩
    · rw [if_neg hx, if_neg hx]; exact ⟨rfl, h1, HeldL.ins x hv h2⟩
  | [], _ :: _, hl => hl.elim
  | _ :: _, [], hl => hl.elim
/-- what is held: the map's values are texts that stay -/
def HeldIs (w : World) (N : Nat → Prop) (hm : Nat) (held : List (Nat × List Nat)) : Prop :=
  ∃ hvs : List (Nat × Value), MapIs w hm ke64 (fun v => v) hvs ∧ HeldL w N hvs held
theorem HeldIs.mut {w w' : World} {N G : Nat → Prop} {hm : Nat} {held : List (Nat × List Nat)} (h : HeldIs w N hm held) (hmu : Mut G w w') (hG : ∀ b, b < w.heap.size → G b → N b) (hf : ¬ G hm) : HeldIs w' N hm held := by
  obtain ⟨hvs, h1, h2⟩ := h
  exact ⟨hvs, h1.same (hmu.block _ h1.lt hf), h2.mono fun u b e => e.mut hmu hG⟩
theorem HeldIs.grow {w : World} {N N' : Nat → Prop} {hm : Nat} {held : List (Nat × List Nat)} (h : HeldIs w N hm held) (hN : ∀ b, N' b → N b ∨ w.heap.size ≤ b) : HeldIs w N' hm held := by
  obtain ⟨hvs, h1, h2⟩ := h
  exact ⟨hvs, h1, h2.mono fun u b e => e.grow hN⟩
structure LnkIs (w : World) (N : Nat → Prop) (p : LnkP) (d : LnkD) : Prop where
  box : Box4 w p.lb (.pointer (some ⟨p.sb, 0, none⟩)) (.int .u64 d.upto) (.map (some p.hm)) (.bool d.owes)
  snd : ∃ us, SndIs w N p.sb p.wv us d.snd
  held : HeldIs w N p.hm d.held
  hlt : p.hm < w.heap.size
  nl : N p.lb
  nh : N p.hm
  d1 : p.lb ≠ p.sb
  d2 : p.lb ≠ p.hm
  d3 : p.sb ≠ p.hm
  d4 : ∀ g, p.wv.ownBlock = some g → g ≠ p.lb ∧ g ≠ p.hm
  u0 : d.upto < 18446744073709551616
section
variable {w w' : World} {N N' G : Nat → Prop} {p : LnkP} {d : LnkD}
theorem LnkIs.ns (h : LnkIs w N p d) : N p.sb := by obtain ⟨us, hs⟩ := h.snd; exact hs.ns
theorem LnkIs.nw (h : LnkIs w N p d) : ∀ g, p.wv.ownBlock = some g → N g ∧ g ≠ p.sb := by obtain ⟨us, hs⟩ := h.snd; exact hs.nw
theorem LnkIs.fp (h : LnkIs w N p d) : ∀ b, fpL p b → N b := fun b e => by
  rcases e with e | e | e | e
  · rw [e]; exact h.nl
  · rw [e]; exact h.ns
  · rw [e]; exact h.nh
  · exact (h.nw b e).1
theorem LnkIs.fplt (h : LnkIs w N p d) : ∀ b, fpL p b → b < w.heap.size := fun b e => by
  obtain ⟨us, hs⟩ := h.snd
  rcases e with e | e | e | e
  · rw [e]; exact h.box.lt
  · rw [e]; exact hs.box.lt
  · rw [e]; exact h.hlt
  · exact (hs.row.blk e).2
theorem LnkIs.mut (h : LnkIs w N p d) (hm : Mut G w w') (hG : ∀ b, b < w.heap.size → G b → N b) (hf : ∀ b, fpL p b → ¬ G b) : LnkIs w' N p d := by
  obtain ⟨us, hs⟩ := h.snd
  refine ⟨h.box.mut hm (hf _ (.inl rfl)), ⟨us, hs.mut hm hG fun b e => hf b (e.elim (fun e => .inr (.inl e)) fun e => .inr (.inr (.inr e)))⟩, h.held.mut hm hG (hf _ (.inr (.inr (.inl rfl)))), ?_, h.nl, h.nh, h.d1, h.d2, h.d3, h.d4, h.u0⟩
  have := h.hlt; have := hm.size; omega
theorem LnkIs.ext (h : LnkIs w N p d) (hb : Below w.heap.size w w') : LnkIs w' N p d :=
  h.mut (Mut.of_below (F := fun _ => False) hb) (fun _ _ e => e.elim) fun _ _ e => e
theorem LnkIs.less (h : LnkIs w N p d) (hf : ∀ b, fpL p b → N' b) (hN : ∀ b, N' b → N b ∨ w.heap.size ≤ b) : LnkIs w N' p d := by
  obtain ⟨us, hs⟩ := h.snd
  exact ⟨h.box, ⟨us, hs.less (hf _ (.inr (.inl rfl))) (fun g e => hf _ (.inr (.inr (.inr e)))) hN⟩, h.held.grow hN, h.hlt, hf _ (.inl rfl), hf _ (.inr (.inr (.inl rfl))), h.d1, h.d2, h.d3, h.d4, h.u0⟩
/-- a call that wrote nothing but the sender's blocks -/
theorem LnkIs.sent {wv' : Value} {us' : List Value} {sd : SndD} (h : LnkIs w N p d) (hm : Mut (fpS p.sb p.wv) w w') (hNN : ∀ b, N b → N' b) (hN : ∀ b, N' b → N b ∨ w.heap.size ≤ b) (hs : SndIs w' N' p.sb wv' us' sd) (hnew : ∀ g, wv'.ownBlock = some g → p.wv.ownBlock = some g ∨ w.heap.size ≤ g) : LnkIs w' N' { p with wv := wv' } { d with snd := sd } := by
  have n1 : ∀ b, fpS p.sb p.wv b → b ≠ p.lb ∧ b ≠ p.hm := fun b e => by
    rcases e with e | e
    · rw [e]; exact ⟨fun e => h.d1 e.symm, h.d3⟩
    · exact h.d4 b e
  have hG : ∀ b, b < w.heap.size → fpS p.sb p.wv b → N' b := fun b _ e => hNN b (h.fp b (e.elim (fun e => .inr (.inl e)) fun e => .inr (.inr (.inr e))))
  refine ⟨h.box.mut hm fun e => (n1 _ e).1 rfl, ⟨us', hs⟩, (h.held.grow hN).mut hm hG fun e => (n1 _ e).2 rfl, ?_, hNN _ h.nl, hNN _ h.nh, h.d1, h.d2, h.d3, fun g e => ?_, h.u0⟩
  · exact Nat.lt_of_lt_of_le h.hlt hm.size
  · rcases hnew g e with e | e
    · exact h.d4 g e
    · have h1 := h.box.lt
      have h2 := h.hlt
      exact ⟨fun e2 => absurd (show g = p.lb from e2) (by omega), fun e2 => absurd (show g = p.hm from e2) (by omega)⟩
end
def lnkNew : LnkD := ⟨sndNew, 0, [], false⟩
set_option maxRecDepth 100000 in
set_option maxHeartbeats 1600000 in
theorem lnew_any (w : World) (N : Nat → Prop) (hN : ∀ b, N b → b < w.heap.size) : Calls Try.prog 50 #[] w fun e w' => ∃ p : LnkP, e = .returned (.pointer (some ⟨p.lb, 0, none⟩)) ∧ Below w.heap.size w w' ∧ LnkIs w' (fun b => N b ∨ fpL p b) p lnkNew ∧ ∀ b, fpL p b → w.heap.size ≤ b := by
  have hmm := @run_makeMap Try.prog
  have CW := wnew_any w
  have HN := hid hN
  go_enter Try.func50, Try.ntmps50
  go_wp2_with (go_at_call 60; refine CW.mono ?_; rintro e w1 ⟨rfl, hw1⟩; subst hw1)
  go_ret
  have hS := SndIs.made w 100 (fun b => N b ∨ fpL ⟨w.heap.size + 1 + 1, w.heap.size, w.heap.size + 1, .slice none 0 0⟩ b) (.inr (.inr (.inl rfl)))
  refine ⟨⟨w.heap.size + 1 + 1, w.heap.size, w.heap.size + 1, .slice none 0 0⟩, by simp, (((Below.refl _ _).alloc (Nat.le_refl _) _).alloc (by simp) _).alloc (by simp; omega) _, ?_, fun b e => ?_⟩
  · refine ⟨?_, ⟨[], (hS.ext ((Below.refl _ _).alloc (Nat.le_refl _) _)).ext ((Below.refl _ _).alloc (Nat.le_refl _) _)⟩, ⟨[], ?_, trivial⟩, (by show w.heap.size + 1 < _; simp), .inr (.inl rfl), .inr (.inr (.inr (.inl rfl))), (show w.heap.size + 1 + 1 ≠ w.heap.size by omega), (show w.heap.size + 1 + 1 ≠ w.heap.size + 1 by omega), (show w.heap.size ≠ w.heap.size + 1 by omega), fun g e => (by cases e), by decide⟩
    · have := Box4.made ((w.alloc (.cells #[.int .u64 1, .slice none 0 0, .int .u32 0, .int .u32 0, .int .u64 0, .int .u64 0] 100)).alloc (.map #[] 0)) 81 (.pointer (some ⟨w.heap.size, 0, none⟩)) (.int .u64 0) (.map (some (w.heap.size + 1))) (.bool false)
      simp only [World.size_alloc] at this ⊢
      exact this
    · have := MapIs.made (ke := ke64) (ve := fun v : Value => v) (w.alloc (.cells #[.int .u64 1, .slice none 0 0, .int .u32 0, .int .u32 0, .int .u64 0, .int .u64 0] 100))
      simpa using this.alloc _
  · rcases e with e | e | e | e
    · have e : b = w.heap.size + 1 + 1 := e
      omega
    · have e : b = w.heap.size := e
      omega
    · have e : b = w.heap.size + 1 := e
      omega
    · cases e
/-- Owes, Upto -/
theorem lowes_any {w : World} {N : Nat → Prop} {p : LnkP} {d : LnkD} (h : LnkIs w N p d) : Calls Try.prog 33 #[.pointer (some ⟨p.lb, 0, none⟩)] w fun e w' => e = .returned (.bool d.owes) ∧ LnkIs w' N p { d with owes := false } ∧ Mut (fun b => b = p.lb) w w' := by
  have c3 := h.box.c3
  have f3 := h.box.f 3
  have HI := hid h
  clear h
  go_enter Try.func33, Try.ntmps33
  go_wp2_with fail
  go_ret
  have h := HI.out
  have hm : Mut (fun b => b = p.lb) w (w.setCell ⟨p.lb, 3, none⟩ (.bool false)) := mut1
  have hk := h.mut hm (fun b _ e => by rw [show b = p.lb from e]; exact h.nl)
  obtain ⟨us, hs⟩ := h.snd
  refine ⟨rfl, ⟨h.box.set3 _, ⟨us, hs.mut hm (fun b _ e => by rw [show b = p.lb from e]; exact h.nl) fun b e e2 => ?_⟩, h.held.mut hm (fun b _ e => by rw [show b = p.lb from e]; exact h.nl) fun e => h.d2 e.symm, by simp; exact h.hlt, h.nl, h.nh, h.d1, h.d2, h.d3, h.d4, h.u0⟩, hm⟩
  have e2 : b = p.lb := e2
  rcases e with e | e
  · exact h.d1 (e2.symm.trans e)
  · exact (h.d4 b e).1 e2
theorem lupto_any {w : World} {N : Nat → Prop} {p : LnkP} {d : LnkD} (h : LnkIs w N p d) : Calls Try.prog 34 #[.pointer (some ⟨p.lb, 0, none⟩)] w fun e w' => e = .returned (.int .u64 d.upto) ∧ Below w.heap.size w w' := by
  have c1 := h.box.c1
  clear h
  go_enter Try.func34, Try.ntmps34
  go_wp2_with fail
  go_ret
  exact ⟨rfl, Below.refl _ _⟩
end Go.Proofs.Ytidohmpnefcpcaa

namespace Go.Proofs.Ytidohmpnefcpcaa
open Go.RowKit Go.Shelf
attribute [local go_sem] Oper.semAt_some
/-! ### maps.Keys of the links, collected -/
abbrev ptrV : Nat → Value := fun b => .pointer (some ⟨b, 0, none⟩)
theorem grownBy_below {w w' : World} (h : Below w.heap.size w w') : w.grownBy w' none := ⟨h.os, h.tape, h.output, h.size, fun k hk _ => h.block k hk⟩
theorem grownBy_but {w w' : World} {t : Nat} (h : But t w w') : w.grownBy w' (some t) := ⟨h.os, h.tape, h.output, by rw [h.size]; exact Nat.le_refl _, fun k _ hne => h.block k fun e => hne (by rw [e])⟩
theorem RangeIs.walks {α β : Type} {ke : α → Value} {ve : β → Value} {r t : Nat} {L left : List (α × β)} {w w' : World} (h : RangeIs w r t ke ve L left) (hk : KeepsWalks w w') : RangeIs w' r t ke ve L left := by
  obtain ⟨es, clock, since, seen, h1, h2, h3, h4, h5⟩ := h
  exact ⟨es, clock, since, seen, hk.same _ _ h1 rfl, h2, h3, hk.same _ _ h4 rfl, h5⟩
theorem RangeIs.iter {α β : Type} {ke : α → Value} {ve : β → Value} {r t : Nat} {L left : List (α × β)} {w : World} (h : RangeIs w r t ke ve L left) : ∃ o : Obj, w.heap[t]? = some o ∧ o.isWalk = true := by
  obtain ⟨es, clock, since, seen, -, -, -, h4, -⟩ := h
  exact ⟨_, h4, rfl⟩
section
variable {α β : Type} [DecidableEq α] {ke : α → Value} {ve : β → Value} {F : Fence} {n : Nat} {P : Program} {K : TypeId} {w : World} {r t : Nat} {L left : List (α × β)} {ops : Array Oper} {rest : List Oper} {o : Oper} {a : Act} {Q : Exit → Act → World → Prop}
theorem wpListIn_range_is (hM : MapIs w r ke ve L) {ty K e : TypeId} (ht : P.underlying ty = some (.map K e)) {m : Operand} (hg : o.guard = none) (hop : o.op = Op.range ty m) (hm : a.eval m = .map (some r))
    (hK : ∀ w', RangeIs w' r w.heap.size ke ve L L → Below w.heap.size w w' → wpListIn F n P ops Q rest (a.put o.dst (.pointer (some ⟨w.heap.size, 0, none⟩))) w') : wpListIn F n P ops Q (o :: rest) a w := by
  refine wpListIn_plain hg fun K' hK' => ?_
  obtain ⟨w', hrun, r1, r2⟩ := hM.range ht
  unfold Oper.wpIn
  refine ⟨by simp [Oper.about, hop], ?_⟩
  rw [Oper.semAt_plain F _ _ (by rw [hop]; intro c hc'; cases hc')]
  simp [execOp, hop, hm, hrun, Result.andThen]
  exact hK' _ _ (hK w' r1 r2)
theorem wpListIn_next_is (h : RangeIs w r t ke ve L left) {it : Operand} (hg : o.guard = none) (hop : o.op = Op.next it false) (hit : a.eval it = .pointer (some ⟨t, 0, none⟩))
    (hDone : Hid (left = []) → wpListIn F n P ops Q rest (a.put o.dst (.tuple #[.bool false])) w)
    (hMore : ∀ (p : α × β) (s u : List (α × β)) (w' : World), Hid (left = s ++ p :: u) → RangeIs w' r t ke ve L (s ++ u) → But t w w' → (Instr.entry (.pointer (some ⟨t, 0, none⟩))).run P w' = .ok (.tuple #[ke p.1, ve p.2]) w' →
      wpListIn F n P ops Q rest (a.put o.dst (.tuple #[.bool true, ke p.1, ve p.2])) w') : wpListIn F n P ops Q (o :: rest) a w := by
  refine wpListIn_plain hg fun K' hK' => ?_
  unfold Oper.wpIn
  refine ⟨by simp [Oper.about, hop], ?_⟩
  rw [Oper.semAt_plain F _ _ (by rw [hop]; intro c hc'; cases hc')]
  rcases h.next (P := P) o.type with ⟨hl, hrun⟩ | ⟨p, s, u, w', hl, hrun, hR, hB, hE⟩
  · simp [execOp, hop, hit, hrun, Result.andThen]
    exact hK' _ _ (hDone hl)
  · simp [execOp, hop, hit, hrun, Result.andThen]
    exact hK' _ _ (hMore p s u w' hl hR hB hE)
end
set_option maxRecDepth 100000 in
set_option maxHeartbeats 4000000 in
theorem keys1_in (F : Fence) (n : Nat) (hf : F.fn 59) (hro : F.round = none) (hn : 1 ≤ n) (l Bm r : Nat) (L : List (Pid × Nat)) (J Jx : List Pid → World → Prop)
    (hY : ∀ pre x W, J pre W → pre.length < L.length → YieldAt F (n - 1) Try.prog l #[pidV x] W fun e W' => (e = .returned (.bool true) ∧ J (pre ++ [x]) W' ∧ KeepsWalks W W') ∨ (e = .returned (.bool false) ∧ Jx (pre ++ [x]) W'))
    (W : World) (hJ : AbidesFrom W.heap.size J) (hm : W.cell? ⟨Bm, 0, none⟩ = some (.map (some r))) (hM : MapIs W r pidV ptrV L) (h0 : J [] W) :
    CallsIn F n Try.prog 59 #[.func (.yield l) #[] #[], .pointer (some ⟨Bm, 0, none⟩)] W fun e W' => (∃ v, e = .returned v) ∧ ((∃ xs : List Pid, xs.Perm (L.map (·.1)) ∧ J xs W') ∨ (∃ pre, True ∧ Jx pre W')) := by
  refine callsIn_of_wp Try.func59 rfl hf ?_ hro
  simp only [Try.ntmps59, List.size_toArray, List.length_cons, List.length_nil, Nat.reduceAdd, Nat.reduceSub, Array.replicate_succ, Array.replicate_zero, List.push_toArray, List.append_toArray, List.nil_append, List.cons_append]
  gi_wp2_with (first
    | (gi_at_range; refine wpListIn_range_is hM Try.underlying72 rfl rfl rfl ?_; intro w0 hR0 hb0)
    | gi_in)
  go_frame
  gi_loopw [3] (fun _ wr => ∃ (got : List Pid) (left : List (Pid × Nat)), RangeIs wr r W.heap.size pidV ptrV L left ∧ Hid ((got ++ left.map (·.1)).Perm (L.map (·.1))) ∧ got.length + left.length = L.length ∧ J got wr) (fun _ wr => wr.rangeLeft r W.heap.size)
  case atStart =>
    exact ⟨[], L, hR0, hid (List.Perm.refl _), by simp, hJ [] W w0 none h0 (grownBy_below hb0) (fun r e => by cases e)⟩
  case round =>
    obtain ⟨got, left, hR, hP, hlen, hJs⟩ := hrel
    have HLEN := hid hlen
    have HLM := hid hR.left_eq
    clear hlen
    gi_wp2_with (first
      | (gi_at_next; refine wpListIn_next_is hR rfl rfl rfl ?_ ?_)
      | gi_in)
    · intro hl
      gi_wp2
      go_end0
      exact ⟨⟨_, rfl⟩, .inl ⟨got, by have := hP.out; rw [hl.out] at this; simpa using this, hJs⟩⟩
    · intro x y u0 s1 s2 w1 hl hR1 hbut hen
      have hJ2 : J got w1 := hJ got wr w1 (some W.heap.size) hJs (grownBy_but hbut) (fun r e => by cases e; exact ⟨Nat.le_refl _, hR.iter⟩)
      obtain ⟨w2, hw2⟩ : ∃ w2, w1.alloc (.cells #[.int .u16 x, .int .u32 y] 30) = w2 := ⟨_, rfl⟩
      have hJ3 : J got w2 := by rw [← hw2]; exact hJ got w1 _ none hJ2 (World.grownBy_alloc w1 _ none) (fun r e => by cases e)
      have hR2 : RangeIs w2 r W.heap.size pidV ptrV L (s1 ++ s2) := by rw [← hw2]; exact hR1.ext ((Below.refl _ _).alloc (Nat.le_refl _) _)
      have hc0 : w2.cell? ⟨w1.heap.size, 0, none⟩ = some (.int .u16 x) := by rw [← hw2]; simp
      have hc1 : w2.cell? ⟨w1.heap.size, 1, none⟩ = some (.int .u32 y) := by rw [← hw2]; simp
      have HL := hid hl
      have HLT2 : Hid ((got ++ [(x, y)]).length + (s1 ++ s2).length = L.length) := hid (by
        have h1 := HLEN.out
        have e : left.length = s1.length + (s2.length + 1) := by rw [hl.out]; simp
        simp; omega)
      have hlt : got.length < L.length := by
        have h1 := HLEN.out
        have e : left.length = s1.length + (s2.length + 1) := by rw [hl.out]; simp
        omega
      obtain ⟨fn, tmps, assign, body, hy, hRd⟩ := hY got (x, y) w2 hJ3 hlt
      gi_wp2
      refine hRd.mono ?_
      rintro e W3 (⟨rfl, hJ4, hk4⟩ | ⟨rfl, hJx4⟩)
      · gi_wp2
        have hR4 := hR2.walks hk4
        have HL4 := hid hR4.left_eq
        go_roundw
        case rel => exact ⟨got ++ [(x, y)], s1 ++ s2, hR4, hid ((List.Perm.trans (by rw [HL.out, List.append_assoc]; simp only [List.map_append, List.map_cons]; exact List.Perm.append_left _ (by simpa using List.perm_middle.symm)) hP.out)), HLT2.out, hJ4⟩
        case measure => rw [HL4.out, HLM.out, HL.out]; simp
      · gi_wp2
        refine bodyPost_ret (results_none rfl _ _ _) rfl ?_
        exact ⟨⟨_, rfl⟩, .inr ⟨got ++ [(x, y)], trivial, hJx4⟩⟩
theorem keys_stops (F : Fence) (n : Nat) (hf : F.fn 59) (hro : F.round = none) (hn : 1 ≤ n) (Bm r : Nat) (L : List (Pid × Nat)) (w : World) (hB : Bm < w.heap.size) (hm : w.cell? ⟨Bm, 0, none⟩ = some (.map (some r))) (hM : MapIs w r pidV ptrV L) :
    SeqStopsK F n Try.prog 59 #[.pointer (some ⟨Bm, 0, none⟩)] (fun x : Pid => #[pidV x]) KeepsWalks (fun xs => xs.Perm (L.map (·.1))) (fun _ => True) L.length w := fun l J Jx W hW hJ _ hY h0 =>
  keys1_in F n hf hro hn l Bm r L J Jx hY W hJ ((hW.cell (p := ⟨Bm, 0, none⟩) hB).trans hm) (hM.ext hW) h0
theorem keysOf_any (r : Nat) (w : World) : Calls Try.prog 48 #[.map (some r)] w fun e w' => e = .returned (.func (.func 59) #[] #[.pointer (some ⟨w.heap.size, 0, none⟩)]) ∧ w' = w.alloc (.cells #[.map (some r)] 72) := by
  go_enter Try.func48, Try.ntmps48
  go_wp2
  go_ret
  exact ⟨rfl, rfl⟩
/-- a process's box -/
def Boxed2 (W : World) (B : Nat) (x : Pid) : Prop := W.heap[B]? = some (.cells #[.int .u16 x.1, .int .u32 x.2] 30 (0, 0))
theorem Boxed2.cells {W : World} {B : Nat} {x : Pid} (h : Boxed2 W B x) : W.cell? ⟨B, 0, none⟩ = some (.int .u16 x.1) ∧ W.cell? ⟨B, 1, none⟩ = some (.int .u32 x.2) := by
  constructor <;> simp [World.cell?, show W.heap[B]? = _ from h]
theorem boxed2_own (B : Nat) (x : Pid) : Own (fun (_ : Unit) W => Boxed2 W B x) := fun _ W W' row hs hg hr => by
  have e := grownBy_keeps_cells hg hr hs rfl
  exact e.trans hs
theorem cells_two_new (W : World) (x y : Int) : ∀ j u, [Value.int .u16 x, Value.int .u32 y][j]? = some u → (W.alloc (.cells #[.int .u16 x, .int .u32 y] 30)).cell? ((⟨W.heap.size, 0, none⟩ : Addr).add j) = some u := fun j u hj => by
  rw [addr_add, Nat.zero_add]
  match j, hj with
  | 0, hj => simp at hj; subst hj; simp
  | 1, hj => simp at hj; subst hj; simp
  | j + 2, hj => simp at hj
set_option maxRecDepth 100000 in
set_option maxHeartbeats 8000000 in
theorem appendSeq_in (F : Fence) (n : Nat) (h58 : F.fn 58) (hf : F.fn 59) (hro : F.round = none) (hn : 3 ≤ n) (Bm r : Nat) (L : List (Pid × Nat)) (w : World) (hB : Bm < w.heap.size) (hm : w.cell? ⟨Bm, 0, none⟩ = some (.map (some r))) (hM : MapIs w r pidV ptrV L) (hL : L.length ≤ 1000000) :
    CallsIn F n Try.prog 58 #[.slice none 0 0, .func (.func 59) #[] #[.pointer (some ⟨Bm, 0, none⟩)]] w fun e w' => ∃ v xs, e = .returned v ∧ OwnP w' w.heap.size v xs ∧ xs.Perm (L.map (·.1)) ∧ Below w.heap.size w w' := by
  have h1 : 1 ≤ n := by omega
  obtain ⟨i0, hi, hz0, hz1, hz2⟩ := info_parts info36
  refine callsIn_of_wp_marks Try.func58 rfl h58 ?_ hro
  simp only [Try.ntmps58, List.size_toArray, List.length_cons, List.length_nil, Nat.reduceAdd, Nat.reduceSub, Array.replicate_succ, Array.replicate_zero, List.push_toArray, List.append_toArray, List.nil_append, List.cons_append]
  gi_wp2
  have bB := Boxed.new w 60 (.slice none 0 0)
  obtain ⟨W0, hW0⟩ : ∃ W0, w.alloc (.cells #[.slice none 0 0] 60) = W0 := ⟨_, rfl⟩
  have hB0 : Below w.heap.size w W0 := by rw [← hW0]; exact (Below.refl _ w).alloc (Nat.le_refl _) _
  have hsz : W0.heap.size = w.heap.size + 1 := by rw [← hW0]; simp
  rw [hW0] at bB ⊢
  clear hW0
  refine wpIn_rangeFunc_ownH hro h1 (gf := 59) (lb := #[.pointer (some ⟨Bm, 0, none⟩)]) rfl hf (enters_of Try.func59 (by kernel_rfl) rfl)
    (keys_stops F (n - 1) hf hro (by omega) Bm r L W0 (by omega) ((hB0.cell (by exact hB)).trans hm) (hM.ext hB0)) walksK_t walksK_b (Below.refl _ _) (fun _ => rfl)
    (fun pre W => (∃ v, Boxed W w.heap.size 60 v ∧ W.ownsRow w.heap.size 30 2 v pre.length (pidCells pre) ∧ True) ∧ Below w.heap.size w W)
    (fun _ _ _ => False)
    (OwnFrom.and (Own.from (holdsRow_own w.heap.size w.heap.size 60 30 2 (fun pre : List Pid => pre.length) (fun pre => pidCells pre) (fun _ _ => True)) _) (ownFrom_below (Nat.le_refl _) (by omega)))
    (fun _ _ _ _ _ hs _ _ => hs)
    ⟨⟨_, bB, World.ownsRow_nil _ _ _ _, trivial⟩, hB0⟩
    (fun x a' W => ∃ Bx, w.heap.size < Bx ∧ Boxed2 W Bx x ∧ a' = { tmps := #[.slice none 0 0, .func (.func 59) #[] #[.pointer (some ⟨Bm, 0, none⟩)], .pointer (some ⟨w.heap.size, 0, none⟩), undef, .slice none 0 0, .pointer (some ⟨Bx, 0, none⟩), .func (.func 59) #[] #[.pointer (some ⟨Bm, 0, none⟩)], pidV x, undef, undef, undef, undef, undef], defers := [] })
    (fun x a' _ X Y row hs hg hr => by obtain ⟨Bx, h1, h2, h3⟩ := hs; exact ⟨Bx, h1, boxed2_own Bx x () X Y row h2 hg (fun r e => (hr r e).2), h3⟩)
    ?assign ?body ?done ?stop
  case assign =>
    rintro l pre ⟨x, y⟩ W K ⟨⟨v, bv, hr, -⟩, hB1⟩ hK
    gi_wp2
    refine hK _ _ ((KeepsOthers.alloc _ _).from _) (KeepsWalks.alloc _ _) ⟨⟨v, bv.alloc _, hr.alloc _, trivial⟩, hB1.alloc hB1.size _⟩ ⟨W.heap.size, by have := bv.lt; omega, World.alloc_heap_new W _, rfl⟩
  case body =>
    rintro l pre ⟨x, y⟩ a' W hl ⟨rr, hrr⟩ ⟨⟨v, bv, hrow, -⟩, hB1⟩ ⟨Bx, hBx, bX, rfl⟩ hlt
    have cv := bv.cell
    have fv := bv.frozen
    obtain ⟨cx, cy⟩ := bX.cells
    have hbz := hB1.size
    gi_wp2_with (first
      | (gi_at_builtin; refine wpListIn_append_own _ rfl _ _ 60 rfl w.heap.size 30 i0 _ 2 8 Try.underlying60 hi hz0 hz1 hz2 rfl (by decide) _ _ _ rfl (hrow.alloc _) ⟨W.heap.size, 0, none⟩ 1 1 [.int .u16 x, .int .u32 y] rfl rfl (cells_two_new W x y) (fun u hu => by simp at hu; rcases hu with rfl | rfl <;> rfl) (by unfold maxLen; omega) (by omega) (by simp; omega) ?_; intro v' w1 hown' hgrow _; obtain ⟨g', cap', rfl⟩ := ownsRow_succ hown'; obtain ⟨hv1, hv2, hr2, hk2, hb2⟩ := bv.appended (by decide) hrow hbz (Nat.le_refl _) hown' hgrow; have hc1 := hv1.cell; have hf1 := hv1.frozen)
      | gi_in)
    have hr3 : (w1.setCell ⟨w.heap.size, 0, none⟩ (.slice (some ⟨g', 0, none⟩) (pre.length + 1) cap')).ownsRow w.heap.size 30 2 (.slice (some ⟨g', 0, none⟩) (pre.length + 1) cap') (pre ++ [(x, y)]).length (pidCells (pre ++ [(x, y)])) := by
      rw [pidCells_append, List.length_append]; exact hr2
    exact ⟨hk2.from _, hk2.walks, ⟨_, hv2, hr3⟩, hB1.trans hb2⟩
  case done =>
    rintro D xs W hD hP ⟨⟨v, bv, hrow, -⟩, hB1⟩ hK
    have cv := bv.cell
    gi_wp2
    refine ⟨by simp, .inl ⟨_, _, rfl, run_takeDeferred hK, ?_⟩⟩
    exact ⟨_, results_tmp rfl _ _ _, v, xs, rfl, ownsRow_putObj hrow _ hK rfl, hP, hB1.trans (belowK_b (w := w) (Nat.le_refl _) W D _ _ (by omega) hK rfl rfl)⟩
  case stop =>
    rintro D c pre W _ _ h _
    exact h.elim
end Go.Proofs.Ytidohmpnefcpcaa

