/- Parts of the proof: X49. -/
import Derived.Deep.DeepCutAuto
import Derived.Test.YtbpfhclcjedkcaaSm25
import Derived.Test.YtbpfhclcjedkcaaX46
namespace Go.Proofs.Ytbpfhclcjedkcaa
open Go.RowKit

/-! ### CmdForms -/
theorem rNum_sub {most : Nat} {S : RS} : ∀ b ∈ (rNum most S).2.b, b ∈ S.b := by
  unfold rNum
  split
  · exact fun b h => h
  · split
    · exact fun b h => h
    · split
      · exact fun b h => h
      · exact fun b h => List.mem_of_mem_drop h
theorem rPid_sub {S : RS} : ∀ b ∈ (rPid S).2.b, b ∈ S.b := by
  unfold rPid
  split
  · exact fun b h => h
  · split
    · exact fun b h => h
    · exact fun b h => List.mem_of_mem_drop h
theorem rCmdParts_data {S : RS} : (rCmdParts S).1.data.length ≤ 200 ∧ ∀ b ∈ (rCmdParts S).1.data, b ∈ S.b := by
  unfold rCmdParts
  simp only
  split
  · have h := rBytes_sub (most := 200) (S := (rNum 4611686018427387904 (rNum 4611686018427387904 (rPid (rNum 3 S).2).2).2).2)
    exact ⟨h.1, fun b hb => rNum_sub b (rPid_sub b (rNum_sub b (rNum_sub b (h.2 b hb))))⟩
  · split <;> simp
theorem rCmd_data {S S9 : RS} {A : CmdD} (h : rCmd S = (A, S9)) : A.data.length ≤ 200 ∧ ∀ b ∈ A.data, b ∈ S.b := by
  have e : A = (rCmd S).1 := by rw [h]
  subst e
  unfold rCmd
  split
  · simp [zeroC]
  · split
    · simp [zeroC]
    · exact rCmdParts_data
theorem Wrote.of_below {w w' : World} {s : Nat} {v : Value} {bs : List Nat} (hW : WrIs w s v bs) (hown : OwnB w w.heap.size v bs) (hb : Below w.heap.size w w') : Wrote w w' s v bs := ⟨hW.ext hb, hown.ext hb, Mut.of_below hb⟩
theorem RdIs.made (w : World) (t : TypeId) {a : Option Addr} {c n : Nat} {bs : List Nat} (hn : bs.length = n) (hrow : ByteRow w a bs) (hc : bs.length ≤ c) (hby : ∀ b ∈ bs, b < 256) (hlen : bs.length ≤ 70368744177664) : RdIs (w.alloc (.cells #[.slice a n c, .int .i64 0] t)) w.heap.size a c ⟨bs, 0⟩ := by
  subst hn
  refine ⟨by simp, by simp, by simp, by simp, hrow.alloc _, fun b off e hne => ?_, hc, hby, hlen⟩
  rcases hrow with h | ⟨b', o', e', h, _⟩
  · exact absurd h hne
  · rw [e] at e'; cases e'; exact h

theorem rCmd_v {S : RS} : (rCmd S).1.v = zeroV ∨ (rCmd S).1.v = (rView (rNum 3 S).2).1 := by
  unfold rCmd
  split
  · exact .inl rfl
  · split
    · exact .inl rfl
    · unfold rCmdParts
      simp only
      split
      · exact .inl rfl
      · split
        · exact .inr rfl
        · exact .inl rfl
theorem rCmd_view {S : RS} : (∀ p ∈ (rCmd S).1.v.ms, okP p) ∧ (rCmd S).1.v.ms.length ≤ 24 ∧ (rCmd S).1.v.ls.length ≤ 24 ∧ (∀ l ∈ (rCmd S).1.v.ls, l.length ≤ 24) ∧ (rCmd S).1.v.ds.length ≤ 24 := by
  rcases rCmd_v (S := S) with h | h
  · rw [h]; simp [zeroV]
  · rw [h]; exact rView_bounds
theorem RdIs.mutN {G : Nat → Prop} {w w' : World} {s c : Nat} {a : Option Addr} {S : RS} (h : RdIs w s a c S) (hm : Mut G w w') (hs : ¬ G s) (hne : ∀ b off, a = some ⟨b, off, none⟩ → S.b ≠ [] → ¬ G b) : RdIs w' s a c S :=
  ⟨cell_mut h.c0 hm hs, cell_mut h.c1 hm hs, (World.frozen?_of_block (w := w) (a := ⟨s, 0, none⟩) (hm.block s h.lt hs)).trans h.f0, (World.frozen?_of_block (w := w) (a := ⟨s, 1, none⟩) (hm.block s h.lt hs)).trans h.f1, h.row.mutT hm hne, h.far, h.cap, h.byt, h.len⟩
theorem WrIs.mutN {G : Nat → Prop} {w w' : World} {s : Nat} {v : Value} {bs : List Nat} (h : WrIs w s v bs) (hm : Mut G w w') (hG : ¬ G s) (hown : OwnB w' (s + 1) v bs) : WrIs w' s v bs :=
  ⟨cell_mut h.c hm hG, (World.frozen?_of_block (w := w) (a := ⟨s, 0, none⟩) (hm.block s h.lt hG)).trans h.f, hown⟩
theorem OwnB.mutN {G : Nat → Prop} {w w' : World} {base : Nat} {v : Value} {xs : List Nat} (h : OwnB w base v xs) (hm : Mut G w w') (hG : ∀ g, v.ownBlock = some g → ¬ G g) : OwnB w' base v xs := by
  refine ⟨h.1, ?_⟩
  rcases h.2 with hn | ⟨g, cap, cur, rfl, hbb, hgg, rest⟩
  · exact .inl hn
  · exact .inr ⟨g, cap, cur, rfl, hbb, (hm.block g (Array.getElem?_eq_some_iff.1 hgg).1 (hG g rfl)).trans hgg, rest⟩
end Go.Proofs.Ytbpfhclcjedkcaa

