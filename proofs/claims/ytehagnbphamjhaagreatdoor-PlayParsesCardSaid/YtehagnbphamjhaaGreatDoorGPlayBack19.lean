/- Parts of the proof: KI. -/
import Derived.Test.YtehagnbphamjhaaGreatDoorKH
namespace Go.Proofs.YtehagnbphamjhaaGreatDoor
open Go.RowKit
/-! ### hub: Out -/
def packC (k : PackD) : List Value × List Nat := ([.int .i64 k.kind, .int .u16 k.fr.1, .int .u32 k.fr.2, .int .u16 k.dst.1, .int .u32 k.dst.2, .int .u64 k.seq], k.body)
/-- the same sender, other texts kept away -/
theorem SndIs.join {w w' : World} {N N0 : Nat → Prop} {s : Nat} {wv : Value} {us : List Value} {d d' : SndD} (h0 : SndIs w N0 s wv us d) (h : SndIs w' N s wv us d') (hm : Mut (fun b => b = s) w w') (hw : d'.wait = d.wait) : SndIs w' N0 s wv us d' := by
  refine ⟨h.box, h.row, ?_, h0.ns, h0.nw, h.b0, h.b2, h.b3, h.b4, h.b5, h.bl⟩
  rw [hw]
  exact h0.it.mut hm fun b _ e => by rw [show b = s from e]; exact h0.ns
/-- Out under way: w1 the world where its rows begin, v the row of packets so far -/
structure OutI (w1 wr : World) (N : Nat → Prop) (h r B : Nat) (sf : Pid) (L Lk : List HubX) (v : Value) (xs : List (List Value)) (pk : List PackD) : Prop where
  row : OwnK wr w1.heap.size 332 7 v xs
  els : ElsAt wr (fun b => N b ∨ v.ownBlock = some b) xs (pk.map packC)
  hub : HubIs wr (fun b => N b ∨ w1.heap.size ≤ b) h r sf Lk
  mt : Mut (fpH h r L) w1 wr
  fq : ∀ b, fpH h r Lk b → fpH h r L b
  fit : ∀ x ∈ Lk, LFit B x.d
  ks : Lk.map (·.p) = L.map (·.p)
  nl : ∀ b, fpH h r L b → N b
  lt : ∀ b, N b → b < w1.heap.size
section
variable {w1 wr w2 w4 : World} {N : Nat → Prop} {h r B : Nat} {sf : Pid} {L Lk : List HubX} {v v4 : Value} {xs : List (List Value)} {pk : List PackD}
theorem OutI.ext (I : OutI w1 wr N h r B sf L Lk v xs pk) (hb : Below wr.heap.size wr w2) : OutI w1 w2 N h r B sf L Lk v xs pk :=
  ⟨I.row.ext hb, I.els.mut (Mut.of_below (F := fun _ => False) hb) (fun _ _ e => e.elim), I.hub.ext hb, I.mt.trans (Mut.of_below hb), I.fq, I.fit, I.ks, I.nl, I.lt⟩
/-- a link was turned -/
theorem OutI.turn {A C : List HubX} {z : HubX} {d : LnkD} (I : OutI w1 wr N h r B sf L (A ++ z :: C) v xs pk) (hm : Mut (fpL z.k) wr w2) (hl : LnkIs w2 (fun b => N b ∨ w1.heap.size ≤ b) z.k d) (hf : LFit B d) : OutI w1 w2 N h r B sf L (A ++ ⟨z.p, z.k, d⟩ :: C) v xs pk := by
  have hz : ∀ b, fpL z.k b → fpH h r L b := fun b e => I.fq b (.inr (.inr ⟨z, by simp, e⟩))
  have hfp : ∀ b, fpH h r (A ++ (⟨z.p, z.k, d⟩ : HubX) :: C) b → fpH h r (A ++ z :: C) b := fun b e => by
    rcases e with e | e | ⟨y, hy, e⟩
    · exact .inl e
    · exact .inr (.inl e)
    · simp only [List.mem_append, List.mem_cons] at hy
      rcases hy with hy | rfl | hy
      · exact .inr (.inr ⟨y, by simp [hy], e⟩)
      · exact .inr (.inr ⟨z, by simp, e⟩)
      · exact .inr (.inr ⟨y, by simp [hy], e⟩)
  have hnv : ∀ g, v.ownBlock = some g → ¬ fpL z.k g := fun g e e2 => by
    have h1 := (I.row.blk e).1
    have h2 := I.lt g (I.nl g (hz g e2))
    omega
  refine ⟨I.row.mut hm hnv, I.els.mut hm fun b _ e => .inl (I.nl b (hz b e)), I.hub.turn hm (fun b e => e) (fun b e => .inl e) hl rfl (fun b e => .inl e), I.mt.trans (hm.mono fun b _ e => hz b e), fun b e => I.fq b (hfp b e), fun x hx => ?_, by have := I.ks; simpa using this, I.nl, I.lt⟩
  simp only [List.mem_append, List.mem_cons] at hx
  rcases hx with hx | rfl | hx
  · exact I.fit x (by simp [hx])
  · exact hf
  · exact I.fit x (by simp [hx])
end
end Go.Proofs.YtehagnbphamjhaaGreatDoor

