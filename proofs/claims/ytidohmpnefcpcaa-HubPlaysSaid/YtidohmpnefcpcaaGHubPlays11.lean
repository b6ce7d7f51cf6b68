/- Parts of the proof: KI X17. -/
import Derived.Test.YtidohmpnefcpcaaKY
namespace Go.Proofs.Ytidohmpnefcpcaa
open Go.RowKit
/-! ### hub: Out -/
def packC (k : PackD) : List Value × List Nat := ([.int .i64 k.kind, .int .u16 k.fr.1, .int .u32 k.fr.2, .int .u16 k.dst.1, .int .u32 k.dst.2, .int .u64 k.seq], k.body)
def ackP (sf p : Pid) (d : LnkD) : List PackD := if d.owes = true then [⟨3, sf, p, d.upto, []⟩] else []
def dueP (sf p : Pid) (t : Nat × List Nat) : PackD := ⟨2, sf, p, t.1, t.2⟩
def packs (sf p : Pid) (d : LnkD) : List PackD := ackP sf p d ++ (dueI d.snd).map (dueP sf p)
def outD (d : LnkD) : LnkD := { d with owes := false, snd := dueD d.snd }
def outGo (sf : Pid) : List Pid → HubD → List PackD × HubD
  | [], H => ([], H)
  | p :: l, H => match look p H with
    | none => outGo sf l H
    | some d => (packs sf p d ++ (outGo sf l (ins p (outD d) H)).1, (outGo sf l (ins p (outD d) H)).2)
def outR (sf : Pid) (H : HubD) : List PackD × HubD := outGo sf (peersR H) H
theorem infoPack : (Try.prog.info? 41).map (fun i => (i.zero, i.size, i.bytes)) = some (some (.agg #[.int .i64 0, .int .u16 0, .int .u32 0, .int .u16 0, .int .u32 0, .int .u64 0, .slice none 0 0]), 7, 56) := by kernel_rfl
theorem dueL_len : ∀ (f i : Nat) (d : SndD), (dueL f i d).length ≤ f
  | 0, _, _ => by simp [dueL]
  | f + 1, i, d => by
    unfold dueL
    split
    · have := dueL_len f (i + 1) d; omega
    · have := dueL_len f (i + 1) (dueStep d i); simp; omega
theorem dueI_len (d : SndD) : (dueI d).length ≤ 16 := by
  unfold dueI
  have := dueL_len (min d.wait.length 16) 0 d
  rw [List.length_map]
  omega
theorem outGo_step {sf p : Pid} {l : List Pid} {A B : List HubX} {z : HubX} {k : LnkP} (hp : z.p = p) (hA : p ∉ A.map (·.p)) : outGo sf (p :: l) (hubD (A ++ z :: B)) = (packs sf p z.d ++ (outGo sf l (hubD (A ++ ⟨z.p, k, outD z.d⟩ :: B))).1, (outGo sf l (hubD (A ++ ⟨z.p, k, outD z.d⟩ :: B))).2) := by
  subst hp
  simp only [outGo]
  rw [look_hubD_at hA]
  simp only
  rw [ins_hubD (k := k) hA]
/-- the same sender, other texts kept away -/
theorem SndIs.join {w w' : World} {N N0 : Nat → Prop} {s : Nat} {wv : Value} {us : List Value} {d d' : SndD} (h0 : SndIs w N0 s wv us d) (h : SndIs w' N s wv us d') (hm : Mut (fun b => b = s) w w') (hw : d'.wait = d.wait) : SndIs w' N0 s wv us d' := by
  refine ⟨h.box, h.row, ?_, h0.ns, h0.nw, h.b0, h.b2, h.b3, h.b4, h.b5, h.bl⟩
  rw [hw]
  exact h0.it.mut hm fun b _ e => by rw [show b = s from e]; exact h0.ns
/-- Out under way: w1 the world where its rows begin, v the row of packets so far -/
structure OutI (w1 wr : World) (N : Nat → Prop) (h r B : Nat) (sf : Pid) (L Lk : List HubX) (v : Value) (xs : List (List Value)) (pk : List PackD) : Prop where
  row : OwnK wr w1.heap.size 41 7 v xs
  els : ElsAt wr (fun b => N b ∨ v.ownBlock = some b) xs (pk.map packC)
  hub : HubIs wr (fun b => N b ∨ w1.heap.size ≤ b) h r sf Lk
  mt : Mut (fpH h r L) w1 wr
  fq : ∀ b, fpH h r Lk b → fpH h r L b
  fit : ∀ x ∈ Lk, LFit B x.d
  ks : Lk.map (·.p) = L.map (·.p)
  nl : ∀ b, fpH h r L b → N b
  lt : ∀ b, N b → b < w1.heap.size
section
variable {w1 wr w2 w4 : World} {N : Nat → Prop} {h r B : Nat} {sf : Pid} {L Lk : List HubX} {v v4 : Value} {xs : List (List Value)} {pk : List PackD}
theorem OutI.ext (I : OutI w1 wr N h r B sf L Lk v xs pk) (hb : Below wr.heap.size wr w2) : OutI w1 w2 N h r B sf L Lk v xs pk :=
  ⟨I.row.ext hb, I.els.mut (Mut.of_below (F := fun _ => False) hb) (fun _ _ e => e.elim), I.hub.ext hb, I.mt.trans (Mut.of_below hb), I.fq, I.fit, I.ks, I.nl, I.lt⟩
/-- a packet more -/
theorem OutI.app {ut : Value} {k : PackD} (I : OutI w1 wr N h r B sf L Lk v xs pk) (hb : Below wr.heap.size wr w2) (hu : ItemAt w2 (fun b => N b ∨ v.ownBlock = some b) ut k.body) (hm : Mut (fun g => v.ownBlock = some g) w2 w4) (hn : ∀ g, v4.ownBlock = some g → v.ownBlock = some g ∨ w2.heap.size ≤ g)
    (hrow : OwnK w4 w1.heap.size 41 7 v4 (xs ++ [(packC k).1 ++ [ut]])) : OutI w1 w4 N h r B sf L Lk v4 (xs ++ [(packC k).1 ++ [ut]]) (pk ++ [k]) := by
  have hz2 := hb.size
  have hmr : Mut (fun g => v.ownBlock = some g) wr w4 := (Mut.of_below hb).trans ⟨hm.os, hm.tape, hm.output, hm.size, hm.block⟩
  have h3 : ElsAt w4 (fun b => N b ∨ v4.ownBlock = some b) xs (pk.map packC) := by
    have g1 : ElsAt wr (fun b => N b ∨ v.ownBlock = some b ∨ v4.ownBlock = some b) xs (pk.map packC) := I.els.grow fun b e => (by
      rcases e with e | e | e
      · exact .inl (.inl e)
      · exact .inl (.inr e)
      · rcases hn b e with e | e
        · exact .inl (.inr e)
        · exact .inr (by omega))
    exact (g1.mut hmr fun b _ e => .inr (.inl e)).grow fun b e => .inl (e.imp id .inr)
  have h4 : ItemAt w4 (fun b => N b ∨ v4.ownBlock = some b) ut k.body := by
    have g1 : ItemAt w2 (fun b => N b ∨ v.ownBlock = some b ∨ v4.ownBlock = some b) ut k.body := hu.grow fun b e => (by
      rcases e with e | e | e
      · exact .inl (.inl e)
      · exact .inl (.inr e)
      · rcases hn b e with e | e
        · exact .inl (.inr e)
        · exact .inr e)
    exact (g1.mut hm fun b _ e => .inr (.inl e)).grow fun b e => .inl (e.imp id .inr)
  refine ⟨hrow, ?_, ?_, ?_, I.fq, I.fit, I.ks, I.nl, I.lt⟩
  · rw [List.map_append]
    exact h3.snoc h4
  · refine I.hub.mut hmr (fun b _ e => .inr (I.row.blk e).1) fun b e e2 => ?_
    have h1 := (I.row.blk e2).1
    have h2 := I.lt b (I.nl b (I.fq b e))
    omega
  · exact I.mt.transG hmr fun b hb e => (by have := (I.row.blk e).1; omega)
/-- a link was turned -/
theorem OutI.turn {A C : List HubX} {z : HubX} {d : LnkD} (I : OutI w1 wr N h r B sf L (A ++ z :: C) v xs pk) (hm : Mut (fpL z.k) wr w2) (hl : LnkIs w2 (fun b => N b ∨ w1.heap.size ≤ b) z.k d) (hf : LFit B d) : OutI w1 w2 N h r B sf L (A ++ ⟨z.p, z.k, d⟩ :: C) v xs pk := by
  have hz : ∀ b, fpL z.k b → fpH h r L b := fun b e => I.fq b (.inr (.inr ⟨z, by simp, e⟩))
  have hfp : ∀ b, fpH h r (A ++ (⟨z.p, z.k, d⟩ : HubX) :: C) b → fpH h r (A ++ z :: C) b := fun b e => by
    rcases e with e | e | ⟨y, hy, e⟩
    · exact .inl e
    · exact .inr (.inl e)
    · simp only [List.mem_append, List.mem_cons] at hy
      rcases hy with hy | rfl | hy
      · exact .inr (.inr ⟨y, by simp [hy], e⟩)
      · exact .inr (.inr ⟨z, by simp, e⟩)
      · exact .inr (.inr ⟨y, by simp [hy], e⟩)
  have hnv : ∀ g, v.ownBlock = some g → ¬ fpL z.k g := fun g e e2 => by
    have h1 := (I.row.blk e).1
    have h2 := I.lt g (I.nl g (hz g e2))
    omega
  refine ⟨I.row.mut hm hnv, I.els.mut hm fun b _ e => .inl (I.nl b (hz b e)), I.hub.turn hm (fun b e => e) (fun b e => .inl e) hl rfl (fun b e => .inl e), I.mt.trans (hm.mono fun b _ e => hz b e), fun b e => I.fq b (hfp b e), fun x hx => ?_, by have := I.ks; simpa using this, I.nl, I.lt⟩
  simp only [List.mem_append, List.mem_cons] at hx
  rcases hx with hx | rfl | hx
  · exact I.fit x (by simp [hx])
  · exact hf
  · exact I.fit x (by simp [hx])
end
end Go.Proofs.Ytidohmpnefcpcaa

namespace Go.Proofs.Ytidohmpnefcpcaa
open Go.RowKit
/-! ### lent bytes -/
/-- what a row in the making holds, as far as k -/
structure Fill (w : World) (g k : Nat) (F : List Nat) : Prop where
  cells : ∀ j (h : j < F.length), j < k → w.cell? ⟨g, j, none⟩ = some (.int .u8 (F[j] : Nat))
  there : ∀ j, j < F.length → (w.cell? ⟨g, j, none⟩).isSome = true
  fro : ∀ j, w.frozen? ⟨g, j, none⟩ = false
theorem Fill.step {w : World} {g k : Nat} {F : List Nat} (h : Fill w g k F) {x : Nat} (hk : k < F.length) (hx : x = F[k]) : Fill (w.setCell ⟨g, k, none⟩ (.int .u8 x)) g (k + 1) F := by
  refine ⟨fun j hj hjk => ?_, fun j hj => ?_, fun j => by simp [h.fro]⟩
  · by_cases e : j = k
    · subst e
      obtain ⟨v, hv⟩ := Option.isSome_iff_exists.1 (h.there j hj)
      rw [World.cell?_setCell_same _ _ _ hv, hx]
    · rw [World.cell?_setCell_other _ _ _ _ (by simp <;> omega)]
      exact h.cells j hj (by omega)
  · by_cases e : j = k
    · subst e
      obtain ⟨v, hv⟩ := Option.isSome_iff_exists.1 (h.there j hj)
      rw [World.cell?_setCell_same _ _ _ hv]; rfl
    · rw [World.cell?_setCell_other _ _ _ _ (by simp <;> omega)]
      exact h.there j hj
theorem Fill.made (w : World) (Z : Array Value) (F : List Nat) (h : F.length ≤ Z.size) : Fill (w.alloc (.cells Z 5)) w.heap.size 0 F := by
  refine ⟨fun j _ h => by omega, fun j hj => ?_, fun j => by simp⟩
  have : (w.alloc (.cells Z 5)).cell? ⟨w.heap.size, j, none⟩ = Z[j]? := by simp
  rw [this]; simp; omega
theorem Fill.row {w : World} {g k : Nat} {F : List Nat} (h : Fill w g k F) (hk : F.length ≤ k) (hg : g < w.heap.size) : ByteRow w (some ⟨g, 0, none⟩) F :=
  .inr ⟨g, 0, rfl, hg, fun i hi => by rw [Nat.zero_add]; exact h.cells i hi (by omega)⟩
end Go.Proofs.Ytidohmpnefcpcaa

