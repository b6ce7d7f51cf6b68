/- Parts of the proof: KH. -/
import Derived.Test.YtehagnbphamjhaaGreatDoorGPlayBack17
namespace Go.Proofs.YtehagnbphamjhaaGreatDoor
open Go.RowKit
/-! ### hub: Arrive -/
/-- bounds of a link -/
structure LFit (B : Nat) (d : LnkD) : Prop where
  bw : d.snd.base + d.snd.wait.length ≤ B
  uh : d.upto + d.held.length ≤ B
  hh : d.held.length ≤ B
  tl : ∀ b ∈ d.snd.wait, b.length ≤ 4096
structure PackD where
  kind : Int
  fr : Pid
  dst : Pid
  seq : Nat
  body : List Nat
def gotC (p : Pid) (bs : List Nat) : List Value × List Nat := ([.int .u16 p.1, .int .u32 p.2], bs)
/-- what Arrive leaves -/
structure ArrR (w w' : World) (N N' : Nat → Prop) (h r : Nat) (sf : Pid) (L L' : List HubX) (fr : Pid) (ls : List (List Nat)) (v : Value) (xs : List (List Value)) : Prop where
  hub : HubR w w' N N' h r sf L L'
  row : OwnK w' w.heap.size 244 3 v xs
  els : ElsAt w' (fun b => N' b ∨ v.ownBlock = some b) xs (ls.map (gotC fr))
  nv : ∀ g, v.ownBlock = some g → ¬ N' g
theorem ArrR.none {w w' : World} {N N' : Nat → Prop} {h r : Nat} {sf fr : Pid} {L L' : List HubX} (H : HubR w w' N N' h r sf L L') : ArrR w w' N N' h r sf L L' fr [] (.slice none 0 0) [] :=
  ⟨H, OwnK.nil _ _ _ _, ElsAt.nil _ _, fun g e => by cases e⟩
/-- a link was turned, no block is new -/
theorem HubR.turn {w w' : World} {N : Nat → Prop} {h r : Nat} {sf : Pid} {A B : List HubX} {x : HubX} {k : LnkP} {d : LnkD} (H : HubIs w N h r sf (A ++ x :: B)) (hN : ∀ b, N b → b < w.heap.size) (hm : Mut (fpL x.k) w w') (hl : LnkIs w' N k d) (hlb : k.lb = x.k.lb) (hfk : ∀ b, fpL k b → fpL x.k b) : HubR w w' N N h r sf (A ++ x :: B) (A ++ ⟨x.p, k, d⟩ :: B) := by
  refine ⟨H.turn hm (fun _ e => e) (fun _ e => .inl e) hl hlb (fun b e => .inl (hfk b e)), fun _ e => e, fun _ e => .inl e, fun b e => Nat.lt_of_lt_of_le (hN b e) hm.size, hm.mono fun b _ e => .inr (.inr ⟨x, by simp, e⟩), fun b e => ?_⟩
  rcases e with e | e | ⟨y, hy, e⟩
  · exact .inl (.inl e)
  · exact .inl (.inr (.inl e))
  · simp only [List.mem_append, List.mem_cons] at hy
    rcases hy with hy | rfl | hy
    · exact .inl (.inr (.inr ⟨y, by simp [hy], e⟩))
    · exact .inl (.inr (.inr ⟨x, by simp, hfk b e⟩))
    · exact .inl (.inr (.inr ⟨y, by simp [hy], e⟩))
end Go.Proofs.YtehagnbphamjhaaGreatDoor

