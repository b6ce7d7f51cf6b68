/- Parts of the proof: X49. -/
import Derived.Test.YtbpfhclcjedkcaaGMsgEncodes9
namespace Go.Proofs.Ytbpfhclcjedkcaa
open Go.RowKit

/-! ### CmdForms -/
theorem Wrote.of_below {w w' : World} {s : Nat} {v : Value} {bs : List Nat} (hW : WrIs w s v bs) (hown : OwnB w w.heap.size v bs) (hb : Below w.heap.size w w') : Wrote w w' s v bs := ⟨hW.ext hb, hown.ext hb, Mut.of_below hb⟩
theorem RdIs.made (w : World) (t : TypeId) {a : Option Addr} {c n : Nat} {bs : List Nat} (hn : bs.length = n) (hrow : ByteRow w a bs) (hc : bs.length ≤ c) (hby : ∀ b ∈ bs, b < 256) (hlen : bs.length ≤ 70368744177664) : RdIs (w.alloc (.cells #[.slice a n c, .int .i64 0] t)) w.heap.size a c ⟨bs, 0⟩ := by
  subst hn
  refine ⟨by simp, by simp, by simp, by simp, hrow.alloc _, fun b off e hne => ?_, hc, hby, hlen⟩
  rcases hrow with h | ⟨b', o', e', h, _⟩
  · exact absurd h hne
  · rw [e] at e'; cases e'; exact h

theorem RdIs.mutN {G : Nat → Prop} {w w' : World} {s c : Nat} {a : Option Addr} {S : RS} (h : RdIs w s a c S) (hm : Mut G w w') (hs : ¬ G s) (hne : ∀ b off, a = some ⟨b, off, none⟩ → S.b ≠ [] → ¬ G b) : RdIs w' s a c S :=
  ⟨cell_mut h.c0 hm hs, cell_mut h.c1 hm hs, (World.frozen?_of_block (w := w) (a := ⟨s, 0, none⟩) (hm.block s h.lt hs)).trans h.f0, (World.frozen?_of_block (w := w) (a := ⟨s, 1, none⟩) (hm.block s h.lt hs)).trans h.f1, h.row.mutT hm hne, h.far, h.cap, h.byt, h.len⟩
theorem WrIs.mutN {G : Nat → Prop} {w w' : World} {s : Nat} {v : Value} {bs : List Nat} (h : WrIs w s v bs) (hm : Mut G w w') (hG : ¬ G s) (hown : OwnB w' (s + 1) v bs) : WrIs w' s v bs :=
  ⟨cell_mut h.c hm hG, (World.frozen?_of_block (w := w) (a := ⟨s, 0, none⟩) (hm.block s h.lt hG)).trans h.f, hown⟩
theorem OwnB.mutN {G : Nat → Prop} {w w' : World} {base : Nat} {v : Value} {xs : List Nat} (h : OwnB w base v xs) (hm : Mut G w w') (hG : ∀ g, v.ownBlock = some g → ¬ G g) : OwnB w' base v xs := by
  refine ⟨h.1, ?_⟩
  rcases h.2 with hn | ⟨g, cap, cur, rfl, hbb, hgg, rest⟩
  · exact .inl hn
  · exact .inr ⟨g, cap, cur, rfl, hbb, (hm.block g (Array.getElem?_eq_some_iff.1 hgg).1 (hG g rfl)).trans hgg, rest⟩
end Go.Proofs.Ytbpfhclcjedkcaa

