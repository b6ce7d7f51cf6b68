/- Parts of the proof: KB KC KD KE KF KG. -/
import Derived.Test.YtidohmpnefcpcaaK9
namespace Go.Proofs.Ytidohmpnefcpcaa
open Go.RowKit
/-! ### the hub in the heap -/
theorem collect_any (Bm r : Nat) (L : List (Pid × Nat)) (w : World) (hB : Bm < w.heap.size) (hm : w.cell? ⟨Bm, 0, none⟩ = some (.map (some r))) (hM : MapIs w r pidV ptrV L) (hL : L.length ≤ 1000000) :
    Calls Try.prog 47 #[.func (.func 59) #[] #[.pointer (some ⟨Bm, 0, none⟩)]] w fun e w' => ∃ v xs, e = .returned v ∧ OwnP w' w.heap.size v xs ∧ xs.Perm (L.map (·.1)) ∧ Below w.heap.size w w' := by
  have CA : Calls Try.prog 58 #[.slice none 0 0, .func (.func 59) #[] #[.pointer (some ⟨Bm, 0, none⟩)]] w fun e w' => ∃ v xs, e = .returned v ∧ OwnP w' w.heap.size v xs ∧ xs.Perm (L.map (·.1)) ∧ Below w.heap.size w w' :=
    callsIn_wide.1 (appendSeq_in Fence.wide 3 trivial trivial rfl (Nat.le_refl _) Bm r L w hB hm hM hL)
  go_enter Try.func47, Try.ntmps47
  go_wp2_with (go_at_call 58; refine CA.mono ?_; rintro e w1 ⟨v, xs, rfl, h1, h2, h3⟩)
  go_ret
  exact ⟨_, xs, rfl, h1, h2, h3⟩
structure HubX where
  p : Pid
  k : LnkP
  d : LnkD
def fpH (h r : Nat) (L : List HubX) (b : Nat) : Prop := b = h ∨ b = r ∨ ∃ x ∈ L, fpL x.k b
structure HubIs (w : World) (N : Nat → Prop) (h r : Nat) (sf : Pid) (L : List HubX) : Prop where
  c0 : w.cell? ⟨h, 0, none⟩ = some (.int .u16 sf.1)
  c1 : w.cell? ⟨h, 1, none⟩ = some (.int .u32 sf.2)
  c2 : w.cell? ⟨h, 2, none⟩ = some (.map (some r))
  hn : N h
  rn : N r
  hr : h ≠ r
  map : MapIs w r pidV ptrV (L.map fun x => (x.p, x.k.lb))
  lnk : ∀ x ∈ L, LnkIs w N x.k x.d
  out : ∀ x ∈ L, ∀ b, fpL x.k b → b ≠ h ∧ b ≠ r
  dis : L.Pairwise fun x y => ∀ b, fpL x.k b → ¬ fpL y.k b
  nd : (L.map (·.p)).Nodup
  lim : L.length ≤ 48
  oks : ∀ x ∈ L, ok x.p
section
variable {w w' : World} {N N' G : Nat → Prop} {h r : Nat} {sf : Pid} {L : List HubX}
theorem HubIs.lt (H : HubIs w N h r sf L) : h < w.heap.size := World.block_lt_of_cell? w _ H.c0
theorem HubIs.fp (H : HubIs w N h r sf L) : ∀ b, fpH h r L b → N b := fun b e => by
  rcases e with e | e | ⟨x, hx, e⟩
  · rw [e]; exact H.hn
  · rw [e]; exact H.rn
  · exact (H.lnk x hx).fp b e
theorem HubIs.fplt (H : HubIs w N h r sf L) : ∀ b, fpH h r L b → b < w.heap.size := fun b e => by
  rcases e with e | e | ⟨x, hx, e⟩
  · rw [e]; exact H.lt
  · rw [e]; exact H.map.lt
  · exact (H.lnk x hx).fplt b e
theorem HubIs.mut (H : HubIs w N h r sf L) (hm : Mut G w w') (hG : ∀ b, b < w.heap.size → G b → N b) (hf : ∀ b, fpH h r L b → ¬ G b) : HubIs w' N h r sf L :=
  ⟨(hm.cell (by exact H.lt) (hf _ (.inl rfl))).trans H.c0, (hm.cell (by exact H.lt) (hf _ (.inl rfl))).trans H.c1, (hm.cell (by exact H.lt) (hf _ (.inl rfl))).trans H.c2, H.hn, H.rn, H.hr, H.map.same (hm.block _ H.map.lt (hf _ (.inr (.inl rfl)))), fun x hx => (H.lnk x hx).mut hm hG fun b e => hf b (.inr (.inr ⟨x, hx, e⟩)), H.out, H.dis, H.nd, H.lim, H.oks⟩
theorem HubIs.ext (H : HubIs w N h r sf L) (hb : Below w.heap.size w w') : HubIs w' N h r sf L :=
  H.mut (Mut.of_below (F := fun _ => False) hb) (fun _ _ e => e.elim) fun _ _ e => e
theorem HubIs.less (H : HubIs w N h r sf L) (hf : ∀ b, fpH h r L b → N' b) (hN : ∀ b, N' b → N b ∨ w.heap.size ≤ b) : HubIs w N' h r sf L :=
  ⟨H.c0, H.c1, H.c2, hf _ (.inl rfl), hf _ (.inr (.inl rfl)), H.hr, H.map, fun x hx => (H.lnk x hx).less (fun b e => hf b (.inr (.inr ⟨x, hx, e⟩))) hN, H.out, H.dis, H.nd, H.lim, H.oks⟩
/-- a link is there, or it is not -/
theorem lookX (p : Pid) : ∀ L : List HubX, (look p (L.map fun x => (x.p, x.k.lb)) = none ∧ p ∉ L.map (·.p)) ∨ ∃ A x B, L = A ++ x :: B ∧ x.p = p ∧ p ∉ A.map (·.p) ∧ look p (L.map fun x => (x.p, x.k.lb)) = some x.k.lb
  | [] => .inl ⟨rfl, by simp⟩
  | y :: l => by
    by_cases hp : p = y.p
    · exact .inr ⟨[], y, l, rfl, hp.symm, by simp, by simp [look, hp]⟩
    · rcases lookX p l with ⟨e1, e2⟩ | ⟨A, x, B, e1, e2, e3, e4⟩
      · exact .inl ⟨by simp only [List.map_cons, look, if_neg hp]; exact e1, by simp only [List.map_cons, List.mem_cons, not_or]; exact ⟨hp, e2⟩⟩
      · exact .inr ⟨y :: A, x, B, by rw [e1]; rfl, e2, by simp only [List.map_cons, List.mem_cons, not_or]; exact ⟨hp, e3⟩, by simp only [List.map_cons, look, if_neg hp]; exact e4⟩
/-- one link was turned -/
theorem HubIs.turn {A B : List HubX} {x : HubX} {k : LnkP} {d : LnkD} (H : HubIs w N h r sf (A ++ x :: B)) (hm : Mut (fpL x.k) w w') (hNN : ∀ b, N b → N' b) (hN : ∀ b, N' b → N b ∨ w.heap.size ≤ b) (hl : LnkIs w' N' k d) (hlb : k.lb = x.k.lb) (hfk : ∀ b, fpL k b → fpL x.k b ∨ w.heap.size ≤ b) : HubIs w' N' h r sf (A ++ ⟨x.p, k, d⟩ :: B) := by
  have hx : x ∈ A ++ x :: B := by simp
  have hfx := (H.lnk x hx).fp
  have hho := fun b e => H.out x hx b e
  have hd := List.pairwise_append.1 H.dis
  have hd2 := List.pairwise_cons.1 hd.2.1
  have hoth : ∀ y, y ∈ A ∨ y ∈ B → ∀ b, fpL y.k b → ¬ fpL x.k b := fun y hy b e e2 => by
    rcases hy with hy | hy
    · exact hd.2.2 y hy x (by simp) b e e2
    · exact hd2.1 y hy b e2 e
  have hmem : ∀ y, y ∈ A ∨ y ∈ B → y ∈ A ++ x :: B := fun y hy => by
    rcases hy with hy | hy
    · simp [hy]
    · simp [hy]
  have hsplit : ∀ y, y ∈ A ++ (⟨x.p, k, d⟩ : HubX) :: B → y = ⟨x.p, k, d⟩ ∨ (y ∈ A ∨ y ∈ B) := fun y hy => by
    simp only [List.mem_append, List.mem_cons] at hy
    rcases hy with hy | hy | hy
    · exact .inr (.inl hy)
    · exact .inl hy
    · exact .inr (.inr hy)
  have hG : ∀ b, b < w.heap.size → fpL x.k b → N' b := fun b _ e => hNN b (hfx b e)
  have hnew : ∀ y, y ∈ A ∨ y ∈ B → ∀ b, fpL y.k b → ¬ fpL k b := fun y hy b e e2 => by
    rcases hfk b e2 with e3 | e3
    · exact hoth y hy b e e3
    · have := (H.lnk y (hmem y hy)).fplt b e; omega
  have hhr : ∀ b, b = h ∨ b = r → ¬ fpL x.k b := fun b e e2 => by
    rcases e with e | e
    · exact (hho b e2).1 e
    · exact (hho b e2).2 e
  have hlt := H.lt
  have hrt := H.map.lt
  refine ⟨(hm.cell (by exact hlt) (hhr h (.inl rfl))).trans H.c0, (hm.cell (by exact hlt) (hhr h (.inl rfl))).trans H.c1, (hm.cell (by exact hlt) (hhr h (.inl rfl))).trans H.c2, hNN _ H.hn, hNN _ H.rn, H.hr, ?_, fun y hy => ?_, fun y hy b e => ?_, ?_, ?_, by have := H.lim; simpa using this, fun y hy => ?_⟩
  · have := H.map.same (hm.block _ hrt (hhr r (.inr rfl)))
    simpa [hlb] using this
  · rcases hsplit y hy with rfl | hy
    · exact hl
    · have hly := (H.lnk y (hmem y hy)).less (N' := N') (fun b e => hNN b ((H.lnk y (hmem y hy)).fp b e)) hN
      exact hly.mut hm hG (hoth y hy)
  · rcases hsplit y hy with rfl | hy
    · rcases hfk b e with e | e
      · exact hho b e
      · exact ⟨by omega, by omega⟩
    · exact H.out y (hmem y hy) b e
  · refine List.pairwise_append.2 ⟨hd.1, List.pairwise_cons.2 ⟨fun y hy b e e2 => hnew y (.inr hy) b e2 e, hd2.2⟩, fun y hy z hz b e e2 => ?_⟩
    rcases List.mem_cons.1 hz with rfl | hz
    · exact hnew y (.inl hy) b e e2
    · exact hd.2.2 y hy z (by simp [hz]) b e e2
  · have := H.nd; simpa using this
  · rcases hsplit y hy with rfl | hy
    · exact H.oks x hx
    · exact H.oks y (hmem y hy)
/-- a link was added -/
theorem HubIs.add {p : Pid} {k : LnkP} {d : LnkD} (H : HubIs w N h r sf L) (hl : LnkIs w N k d) (hfk : ∀ b, fpL k b → ¬ fpH h r L b) (hp : p ∉ L.map (·.p)) (hok : ok p) (hlen : L.length < 48)
    (hM : MapIs w' r pidV ptrV (L.map (fun x => (x.p, x.k.lb)) ++ [(p, k.lb)])) (hb : But r w w') : HubIs w' N h r sf (L ++ [⟨p, k, d⟩]) := by
  have hm : Mut (fun b => b = r) w w' := Mut.of_but hb rfl
  have hG : ∀ b, b < w.heap.size → b = r → N b := fun b _ e => by rw [e]; exact H.rn
  have hsplit : ∀ y, y ∈ L ++ [(⟨p, k, d⟩ : HubX)] → y ∈ L ∨ y = ⟨p, k, d⟩ := fun y hy => by simpa using hy
  refine ⟨(hb.cell (by exact H.hr)).trans H.c0, (hb.cell (by exact H.hr)).trans H.c1, (hb.cell (by exact H.hr)).trans H.c2, H.hn, H.rn, H.hr, by simpa using hM, fun y hy => ?_, fun y hy b e => ?_, ?_, ?_, by simp; omega, fun y hy => ?_⟩
  · rcases hsplit y hy with hy | rfl
    · exact (H.lnk y hy).mut hm hG fun b e e2 => (H.out y hy b e).2 e2
    · exact hl.mut hm hG fun b e e2 => hfk b e (.inr (.inl e2))
  · rcases hsplit y hy with hy | rfl
    · exact H.out y hy b e
    · exact ⟨fun e2 => hfk b e (.inl e2), fun e2 => hfk b e (.inr (.inl e2))⟩
  · refine List.pairwise_append.2 ⟨H.dis, by simp, fun y hy z hz b e e2 => ?_⟩
    rw [List.mem_singleton.1 hz] at e2
    exact hfk b e2 (.inr (.inr ⟨y, hy, e⟩))
  · rw [List.map_append, List.nodup_append]
    refine ⟨H.nd, by simp, fun a ha b hb e => ?_⟩
    simp at hb
    rw [e, hb] at ha
    exact hp ha
  · rcases hsplit y hy with hy | rfl
    · exact H.oks y hy
    · exact hok
/-- what a call of a hub leaves -/
structure HubR (w w' : World) (N N' : Nat → Prop) (h r : Nat) (sf : Pid) (L L' : List HubX) : Prop where
  is : HubIs w' N' h r sf L'
  up : ∀ b, N b → N' b
  nw : ∀ b, N' b → N b ∨ w.heap.size ≤ b
  lt : ∀ b, N' b → b < w'.heap.size
  mt : Mut (fpH h r L) w w'
  fq : ∀ b, fpH h r L' b → fpH h r L b ∨ w.heap.size ≤ b
theorem HubR.same (H : HubIs w N h r sf L) (hlt : ∀ b, N b → b < w.heap.size) (hb : Below w.heap.size w w') : HubR w w' N N h r sf L L :=
  ⟨H.ext hb, fun _ e => e, fun _ e => .inl e, fun b e => Nat.lt_of_lt_of_le (hlt b e) hb.size, Mut.of_below hb, fun _ e => .inl e⟩
theorem HubR.trans {w3 : World} {N3 : Nat → Prop} {L' L3 : List HubX} (A : HubR w w' N N' h r sf L L') (B : HubR w' w3 N' N3 h r sf L' L3) : HubR w w3 N N3 h r sf L L3 :=
  have hz := A.mt.size
  ⟨B.is, fun b e => B.up b (A.up b e), fun b e => (B.nw b e).elim (fun e => A.nw b e) fun e => .inr (by omega), B.lt,
   A.mt.transG B.mt fun b hb e => (A.fq b e).elim id fun e => (by omega),
   fun b e => (B.fq b e).elim (fun e => A.fq b e) fun e => .inr (by omega)⟩
end
end Go.Proofs.Ytidohmpnefcpcaa

namespace Go.Proofs.Ytidohmpnefcpcaa
open Go.RowKit
/-! ### the hub's functions -/
theorem det_ext {P : Program} {f : FuncId} {args : Array Value} {w0 : World} {v : Value} (h : Hid (∀ W, Below w0.heap.size w0 W → Calls P f args W fun e w' => e = .returned v ∧ Below W.heap.size W w')) (U : ExtW w0) :
    Calls P f args U.W fun e w' => e = .returned v ∧ ∃ U' : ExtW w0, w' = U'.W := by
  refine (h.out U.W U.h).mono ?_
  rintro e w' ⟨rfl, hb⟩
  exact ⟨rfl, ⟨_, U.h.trans (hb.mono U.h.size)⟩, rfl⟩
theorem cell_extK {w : World} {a : Addr} {v : Value} (h : w.cell? a = some v) : ∀ U : ExtW w, U.W.cell? a = some v := fun U => (U.h.cell (World.block_lt_of_cell? w _ h)).trans h
theorem HubIs.made (w : World) (p : Pid) (N : Nat → Prop) (t : TypeId) : HubIs ((w.alloc (.map #[] 0)).alloc (.cells #[.int .u16 p.1, .int .u32 p.2, .map (some w.heap.size)] t)) (fun b => N b ∨ fpH (w.heap.size + 1) w.heap.size [] b) (w.heap.size + 1) w.heap.size p [] :=
  ⟨by simp, by simp, by simp, .inr (.inl rfl), .inr (.inr (.inl rfl)), by omega, (MapIs.made w).alloc _, fun x h => (by cases h), fun x h => (by cases h), List.Pairwise.nil, List.nodup_nil, by simp, fun x h => (by cases h)⟩
theorem hnew_any (p : Pid) (w : World) (N : Nat → Prop) : Calls Try.prog 7 #[.agg #[.int .u16 p.1, .int .u32 p.2]] w fun e w' => ∃ h r, e = .returned (.pointer (some ⟨h, 0, none⟩)) ∧ Below w.heap.size w w' ∧ HubIs w' (fun b => N b ∨ fpH h r [] b) h r p [] ∧ w.heap.size ≤ h ∧ w.heap.size ≤ r := by
  have hmm := @run_makeMap Try.prog
  obtain ⟨x, y⟩ := p
  go_enter Try.func7, Try.ntmps7
  go_wp2_with fail
  go_ret
  have hm := HubIs.made (w.alloc (.cells #[.int .u16 x, .int .u32 y] 30)) (x, y) N 74
  simp only [World.size_alloc] at hm ⊢
  exact ⟨_, _, rfl, (((Below.refl _ _).alloc (Nat.le_refl _) _).alloc (by simp) _).alloc (by simp; omega) _, hm, by omega, by omega⟩
set_option maxRecDepth 100000 in
set_option maxHeartbeats 1600000 in
theorem other_any {w : World} {N : Nat → Prop} {h r : Nat} {sf : Pid} {L : List HubX} (H : HubIs w N h r sf L) (x y : Int) : Calls Try.prog 29 #[.pointer (some ⟨h, 0, none⟩), .agg #[.int .u16 x, .int .u32 y]] w fun e w' => e = .returned (.bool (mayB (x, y) && !decide ((x, y) = sf))) ∧ Below w.heap.size w w' := by
  have hb1 : Below w.heap.size w (w.alloc (.cells #[.int .u16 x, .int .u32 y] 30)) := (Below.refl _ _).alloc (Nat.le_refl _) _
  obtain ⟨W1, hW1⟩ : ∃ W1, w.alloc (.cells #[.int .u16 x, .int .u32 y] 30) = W1 := ⟨_, rfl⟩
  have d0 : W1.cell? ⟨w.heap.size, 0, none⟩ = some (.int .u16 x) := by rw [← hW1]; simp
  have d1 : W1.cell? ⟨w.heap.size, 1, none⟩ = some (.int .u32 y) := by rw [← hW1]; simp
  rw [hW1] at hb1
  have c0 := (H.ext hb1).c0
  have c1 := (H.ext hb1).c1
  obtain ⟨a, b⟩ := sf
  have g0 := cell_extK c0
  have g1 := cell_extK c1
  have g2 := cell_extK d0
  have g3 := cell_extK d1
  have hne : ∀ w, (binOp .neq 30 (.agg #[.int .u16 x, .int .u32 y]) (.agg #[.int .u16 a, .int .u32 b])).run Try.prog w = .ok (.bool (!decide ((x, y) = (a, b)))) w := fun w => neq_pid x y a b w
  obtain ⟨q, hq⟩ : ∃ q, (!decide ((x, y) = (a, b))) = q := ⟨_, rfl⟩
  have HQ : Hid ((!decide ((x, y) = (a, b))) = q) := hid hq
  simp only [hq] at hne
  cases hm : mayB (x, y)
  · have C1 : Hid (∀ W, Below W1.heap.size W1 W → Calls Try.prog 49 #[.agg #[.int .u16 x, .int .u32 y]] W fun e w' => e = .returned (.bool false) ∧ Below W.heap.size W w') := hid fun W _ => may_is (hid hm)
    have HB1 := hid hb1
    clear hm H c0 c1 d0 d1 hb1 hq
    go_enter Try.func29, Try.ntmps29
    go_wp2_with fail
    refine wp_region_ext (w := W1) (Below.refl _ _) (by kernel_rfl) (by kernel_rfl) ?_
    repeat (go_big_quiet_step (exact det_ext C1 _))
    refine wpQuiet_nil ?_
    rintro _ ⟨⟨w9, hb9⟩, rfl⟩
    go_wp2_with fail
    go_ret
    exact ⟨rfl, HB1.out.trans (hb9.mono HB1.out.size)⟩
  · have C1 : Hid (∀ W, Below W1.heap.size W1 W → Calls Try.prog 49 #[.agg #[.int .u16 x, .int .u32 y]] W fun e w' => e = .returned (.bool true) ∧ Below W.heap.size W w') := hid fun W _ => may_is (hid hm)
    have HB1 := hid hb1
    clear hm H c0 c1 d0 d1 hb1 hq
    go_enter Try.func29, Try.ntmps29
    go_wp2_with fail
    refine wp_region_ext (w := W1) (Below.refl _ _) (by kernel_rfl) (by kernel_rfl) ?_
    repeat (go_big_quiet_step (exact det_ext C1 _))
    refine wpQuiet_nil ?_
    rintro _ ⟨⟨w9, hb9⟩, rfl⟩
    go_wp2_with fail
    go_ret
    exact ⟨by rw [HQ.out]; rfl, HB1.out.trans (hb9.mono HB1.out.size)⟩
end Go.Proofs.Ytidohmpnefcpcaa

namespace Go.Proofs.Ytidohmpnefcpcaa
open Go.RowKit
/-! ### hub: link -/
abbrev HubD := List (Pid × LnkD)
def hubD (L : List HubX) : HubD := L.map fun x => (x.p, x.d)
def linkD (H : HubD) (p : Pid) : Option HubD := match look p H with
  | some _ => some H
  | none => if H.length < 48 then some (H ++ [(p, lnkNew)]) else none
theorem look_hubD {p : Pid} : ∀ {L : List HubX}, p ∉ L.map (·.p) → look p (hubD L) = none
  | [], _ => rfl
  | x :: l, h => by
    simp only [List.map_cons, List.mem_cons, not_or] at h
    simp only [hubD, List.map_cons, look, if_neg h.1]
    exact look_hubD h.2
theorem look_hubD_at {A B : List HubX} {x : HubX} (h : x.p ∉ A.map (·.p)) : look x.p (hubD (A ++ x :: B)) = some x.d := by
  induction A with
  | nil => simp [hubD, look]
  | cons y l ih =>
    simp only [List.map_cons, List.mem_cons, not_or] at h
    simp only [hubD, List.cons_append, List.map_cons, look, if_neg h.1]
    exact ih h.2
theorem zeroLk (w : World) : (zeroValue 75).run Try.prog w = .ok (.pointer none) w := by kernel_rfl
/-- what link leaves: no room; or the link, which stands in the hub -/
def LinkR (w w' : World) (N : Nat → Prop) (h r : Nat) (sf : Pid) (L : List HubX) (p : Pid) (e : Ending) : Prop :=
  (e = .returned (.pointer none) ∧ linkD (hubD L) p = none ∧ Below w.heap.size w w') ∨
  ∃ N' A x B, e = .returned (.pointer (some ⟨x.k.lb, 0, none⟩)) ∧ HubR w w' N N' h r sf L (A ++ x :: B) ∧ x.p = p ∧ p ∉ A.map (·.p) ∧ linkD (hubD L) p = some (hubD (A ++ x :: B))
set_option maxRecDepth 100000 in
set_option maxHeartbeats 3200000 in
theorem hlink_any {w : World} {N : Nat → Prop} {h r : Nat} {sf : Pid} {L : List HubX} (H : HubIs w N h r sf L) (hN : ∀ b, N b → b < w.heap.size) (x y : Int) (hok : ok (x, y)) :
    Calls Try.prog 30 #[.pointer (some ⟨h, 0, none⟩), .agg #[.int .u16 x, .int .u32 y]] w fun e w' => LinkR w w' N h r sf L (x, y) e := by
  have hb1 : Below w.heap.size w (w.alloc (.cells #[.int .u16 x, .int .u32 y] 30)) := (Below.refl _ _).alloc (Nat.le_refl _) _
  obtain ⟨W1, hW1⟩ : ∃ W1, w.alloc (.cells #[.int .u16 x, .int .u32 y] 30) = W1 := ⟨_, rfl⟩
  have d0 : W1.drew.cell? ⟨w.heap.size, 0, none⟩ = some (.int .u16 x) := by rw [← hW1]; simp
  have d1 : W1.drew.cell? ⟨w.heap.size, 1, none⟩ = some (.int .u32 y) := by rw [← hW1]; simp
  rw [hW1] at hb1
  have H1 := (H.ext hb1).ext (Below.refl _ _).drew
  have hb1' := hb1.drew
  have c2 := H1.c2
  have hmp := H1.map
  have HH := hid H
  have HH1 := hid H1
  have HB1 := hid hb1'
  rcases lookX (x, y) L with ⟨e1, e2⟩ | ⟨A, z, B, e1, e2, e3, e4⟩
  · have hlk : ∀ W, MapIs W r pidV ptrV (L.map fun x => (x.p, x.k.lb)) → (Instr.lookup 72 (.map (some r)) (.agg #[.int .u16 x, .int .u32 y]) true).run Try.prog W = .ok (.tuple #[.pointer none, .bool false]) W := fun W hM => by
      have := hM.lookup_ok keyPid Try.underlying72 (zeroLk W) (x, y)
      rw [e1] at this
      exact this
    obtain ⟨n, hn⟩ : ∃ n, L.length = n := ⟨_, rfl⟩
    have hlen : ∀ ty, (Builtin.len_ #[72] ty #[.map (some r)]).run Try.prog W1.drew = .ok (.int .i64 n) W1.drew := fun ty => by
      have := hmp.len Try.underlying72 ty
      rw [List.length_map, hn] at this
      exact this
    by_cases h48 : n < 48
    · have t1 : decide ((n : Int) < 48) = true := decide_eq_true (by omega)
      have t2 : decide (n < 48) = true := decide_eq_true h48
      have HE : Hid (linkD (hubD L) (x, y) = some (hubD L ++ [((x, y), lnkNew)])) := hid (by unfold linkD; rw [look_hubD e2]; show (if (hubD L).length < 48 then _ else _) = _; rw [if_pos (by simp [hubD]; omega)])
      have CN : Hid (Calls Try.prog 50 #[] W1.drew fun e w' => ∃ p : LnkP, e = .returned (.pointer (some ⟨p.lb, 0, none⟩)) ∧ Below W1.drew.heap.size W1.drew w' ∧ LnkIs w' (fun b => N b ∨ fpL p b) p lnkNew ∧ ∀ b, fpL p b → W1.drew.heap.size ≤ b) := hid (lnew_any W1.drew N fun b e => Nat.lt_of_lt_of_le (hN b e) hb1'.size)
      have HNN := hid hN
      have HP := hid e2
      have HOK := hid hok
      have HLN : Hid (L.length < 48) := hid (by omega)
      have HEL := hid e1
      clear H H1 hb1 hb1' e1 e2 hN hok hn h48
      go_enter Try.func30, Try.ntmps30
      go_wp2_with fail
      go_region_held3 (fun W => MapIs W r pidV ptrV (L.map fun x => (x.p, x.k.lb)) ∧ W.cell? ⟨h, 2, none⟩ = some (.map (some r)) ∧ W.cell? ⟨w.heap.size, 0, none⟩ = some (.int .u16 x) ∧ W.cell? ⟨w.heap.size, 1, none⟩ = some (.int .u32 y)) (first | exact ⟨hmp, c2, d0, d1⟩) (fail)
      go_wp2_with fail
      refine CN.out.mono ?_
      rintro e w2 ⟨k, rfl, hb2, hl2, hfr⟩
      have hbw := HB1.out
      have hz1 := hbw.size
      have hz2 := hb2.size
      have H2 := ((HH1.out.less (N' := fun b => N b ∨ fpL k b) (fun b e => .inl (HH1.out.fp b e)) (fun b e => e.elim .inl fun e => .inr (hfr b e))).ext hb2).ext (Below.refl _ _).drew
      have hl3 := hl2.ext (Below.refl _ _).drew
      obtain ⟨w3, hrun, hM3, hbut⟩ := H2.map.update keyPid Try.underlying72 (x, y) k.lb
      rw [ins_none HEL.out] at hM3
      have H3 := H2.add hl3 (fun b e e2 => by have h1 := hfr b e; have h2 := HH1.out.fplt b e2; omega) HP.out HOK.out HLN.out hM3 hbut
      have k2 := H2.c2
      have k3 := H3.c2
      have hhr : h ≠ r := H2.hr
      have hwr : w.heap.size ≠ r := fun e => by have := HH.out.map.lt; omega
      have p0 : w2.drew.cell? ⟨w.heap.size, 0, none⟩ = some (.int .u16 x) := cell_toB d0 hb2.drew
      have p1 : w2.drew.cell? ⟨w.heap.size, 1, none⟩ = some (.int .u32 y) := cell_toB d1 hb2.drew
      have s0 := (hbut.cell (p := ⟨w.heap.size, 0, none⟩) (by exact hwr)).trans p0
      have s1 := (hbut.cell (p := ⟨w.heap.size, 1, none⟩) (by exact hwr)).trans p1
      have HR : Hid (HubR w w3 N (fun b => N b ∨ fpL k b) h r sf L (L ++ [⟨(x, y), k, lnkNew⟩])) := hid ⟨H3, fun b e => .inl e, fun b e => e.elim .inl fun e => .inr (by have := hfr b e; omega), fun b e => by
        have hsz : w3.heap.size = w2.heap.size := hbut.size
        rw [hsz]
        rcases e with e | e
        · have := HNN.out b e; omega
        · exact hl2.fplt b e, (Mut.of_below (hbw.trans (hb2.drew.mono hz1))).trans (Mut.of_but hbut (.inr (.inl rfl))), fun b e => by
        rcases e with e | e | ⟨z, hz, e⟩
        · exact .inl (.inl e)
        · exact .inl (.inr (.inl e))
        · rcases List.mem_append.1 hz with hz | hz
          · exact .inl (.inr (.inr ⟨z, hz, e⟩))
          · rw [List.mem_singleton.1 hz] at e
            exact .inr (by have := hfr b e; omega)⟩
      have hrun2 : (Instr.mapUpdate 72 (.map (some r)) (.agg #[.int .u16 x, .int .u32 y]) (.pointer (some ⟨k.lb, 0, none⟩))).run Try.prog w2.drew = .ok () w3 := hrun
      clear H2 H3 hl3 hM3 hbut hl2 hfr hb2 hbw hlk hmp hrun
      go_upto_region 6 with fail
      go_region_held3 (fun W => W.cell? ⟨h, 2, none⟩ = some (.map (some r)) ∧ W.cell? ⟨w.heap.size, 0, none⟩ = some (.int .u16 x) ∧ W.cell? ⟨w.heap.size, 1, none⟩ = some (.int .u32 y)) (first | exact ⟨k2, p0, p1⟩ | exact ⟨k3, s0, s1⟩) (fail)
      go_wp2_with fail
      go_ret
      exact .inr ⟨_, L, ⟨(x, y), k, lnkNew⟩, [], rfl, HR.out, rfl, HP.out, by rw [HE.out]; simp [hubD]⟩
    · have t1 : decide ((n : Int) < 48) = false := decide_eq_false (by omega)
      have t2 : decide (n < 48) = false := decide_eq_false h48
      have HE : Hid (linkD (hubD L) (x, y) = none) := hid (by unfold linkD; rw [look_hubD e2]; show (if (hubD L).length < 48 then _ else _) = _; rw [if_neg (by simp [hubD]; omega)])
      clear H H1 hb1 hb1' e1 e2 hN hok hn h48
      go_enter Try.func30, Try.ntmps30
      go_wp2_with fail
      go_region_held3 (fun W => MapIs W r pidV ptrV (L.map fun x => (x.p, x.k.lb)) ∧ W.cell? ⟨h, 2, none⟩ = some (.map (some r)) ∧ W.cell? ⟨w.heap.size, 0, none⟩ = some (.int .u16 x) ∧ W.cell? ⟨w.heap.size, 1, none⟩ = some (.int .u32 y)) (first | exact ⟨hmp, c2, d0, d1⟩) (fail)
      go_wp2_with fail
      go_ret
      exact .inl ⟨rfl, HE.out, HB1.out⟩
  · have hlk : ∀ W, MapIs W r pidV ptrV (L.map fun x => (x.p, x.k.lb)) → (Instr.lookup 72 (.map (some r)) (.agg #[.int .u16 x, .int .u32 y]) true).run Try.prog W = .ok (.tuple #[.pointer (some ⟨z.k.lb, 0, none⟩), .bool true]) W := fun W hM => by
      have := hM.lookup_ok keyPid Try.underlying72 (zeroLk W) (x, y)
      rw [e4] at this
      exact this
    have HE : Hid (L = A ++ z :: B ∧ z.p = (x, y) ∧ (x, y) ∉ A.map (·.p)) := hid ⟨e1, e2, e3⟩
    have HNN := hid hN
    clear H H1 hb1 hb1' e1 e2 e3 e4 hN hok
    go_enter Try.func30, Try.ntmps30
    go_wp2_with fail
    go_region_held3 (fun W => MapIs W r pidV ptrV (L.map fun x => (x.p, x.k.lb)) ∧ W.cell? ⟨h, 2, none⟩ = some (.map (some r)) ∧ W.cell? ⟨w.heap.size, 0, none⟩ = some (.int .u16 x) ∧ W.cell? ⟨w.heap.size, 1, none⟩ = some (.int .u32 y)) (first | exact ⟨hmp, c2, d0, d1⟩) (fail)
    go_wp2_with fail
    go_ret
    obtain ⟨e1, e2, e3⟩ := HE.out
    subst e1
    refine .inr ⟨N, A, z, B, rfl, HubR.same HH.out HNN.out HB1.out, e2, e3, ?_⟩
    unfold linkD
    rw [← e2, look_hubD_at (by rw [e2]; exact e3)]
end Go.Proofs.Ytidohmpnefcpcaa

namespace Go.Proofs.Ytidohmpnefcpcaa
open Go.RowKit
/-! ### hub: Send, Waits -/
def otherB (sf p : Pid) : Bool := mayB p && !decide (p = sf)
def sendR (sf : Pid) (H : HubD) (p : Pid) (bs : List Nat) : Int × HubD :=
  if otherB sf p = true then
    match linkD H p with
    | none => (7, H)
    | some H' => match look p H' with
      | none => (7, H')
      | some d => (putC d.snd bs, ins p { d with snd := putD d.snd bs } H')
  else (1, H)
theorem ins_hubD {A B : List HubX} {x : HubX} {k : LnkP} {d : LnkD} (h : x.p ∉ A.map (·.p)) : ins x.p d (hubD (A ++ x :: B)) = hubD (A ++ ⟨x.p, k, d⟩ :: B) := by
  induction A with
  | nil => simp [hubD, ins]
  | cons y l ih =>
    simp only [List.map_cons, List.mem_cons, not_or] at h
    simp only [hubD, List.cons_append, List.map_cons, ins, if_neg h.1]
    rw [show ins x.p d (List.map (fun x => (x.p, x.d)) (l ++ x :: B)) = _ from ih h.2]
    rfl
/-- a sender was put to use -/
theorem HubR.sent {w w' : World} {N : Nat → Prop} {h r : Nat} {sf : Pid} {A B : List HubX} {x : HubX} {sd : SndD} {wv' : Value} (H : HubIs w N h r sf (A ++ x :: B)) (hN : ∀ b, N b → b < w.heap.size) (hP : PutR w w' N x.k.sb x.k.wv sd wv') :
    HubR w w' N (fun b => N b ∨ wv'.ownBlock = some b) h r sf (A ++ x :: B) (A ++ ⟨x.p, { x.k with wv := wv' }, { x.d with snd := sd }⟩ :: B) := by
  obtain ⟨us', hs⟩ := hP.is
  have hx := H.lnk x (by simp)
  have hz := hP.mt.size
  have hN2 : ∀ b, (N b ∨ wv'.ownBlock = some b) → N b ∨ w.heap.size ≤ b := fun b e => by
    rcases e with e | e
    · exact .inl e
    · rcases hP.new b e with e | e
      · exact .inl (hx.nw b e).1
      · exact .inr e
  have hl := hx.sent hP.mt (fun b e => .inl e) hN2 hs hP.new
  have hmt : Mut (fpL x.k) w w' := hP.mt.mono fun b _ e => e.elim (fun e => .inr (.inl e)) fun e => .inr (.inr (.inr e))
  have hfk : ∀ b, fpL { x.k with wv := wv' } b → fpL x.k b ∨ w.heap.size ≤ b := fun b e => by
    rcases e with e | e | e | e
    · exact .inl (.inl e)
    · exact .inl (.inr (.inl e))
    · exact .inl (.inr (.inr (.inl e)))
    · exact (hP.new b e).imp (fun e => .inr (.inr (.inr e))) id
  refine ⟨H.turn hmt (fun b e => .inl e) hN2 hl rfl hfk, fun b e => .inl e, hN2, fun b e => ?_, hmt.mono fun b _ e => .inr (.inr ⟨x, by simp, e⟩), fun b e => ?_⟩
  · rcases e with e | e
    · have := hN b e; omega
    · exact (hs.row.blk e).2
  · rcases e with e | e | ⟨y, hy, e⟩
    · exact .inl (.inl e)
    · exact .inl (.inr (.inl e))
    · simp only [List.mem_append, List.mem_cons] at hy
      rcases hy with hy | rfl | hy
      · exact .inl (.inr (.inr ⟨y, by simp [hy], e⟩))
      · exact (hfk b e).imp (fun e => .inr (.inr ⟨x, by simp, e⟩)) id
      · exact .inl (.inr (.inr ⟨y, by simp [hy], e⟩))
set_option maxRecDepth 100000 in
set_option maxHeartbeats 3200000 in
theorem hsend_any {w : World} {N : Nat → Prop} {h r : Nat} {sf : Pid} {L : List HubX} {ba : Option Addr} {bc n : Nat} {bs : List Nat} (H : HubIs w N h r sf L) (hN : ∀ b, N b → b < w.heap.size) (x y : Int) (hok : ok (x, y)) (hn : Hid (bs.length = n)) (hnl : n ≤ 549755813888) (hr : ByteRow w ba bs) (hx : ∀ x ∈ bs, x < 256) (hbl : ∀ b off, ba = some ⟨b, off, none⟩ → bs ≠ [] → ¬ fpH h r L b) :
    Calls Try.prog 10 #[.pointer (some ⟨h, 0, none⟩), .agg #[.int .u16 x, .int .u32 y], .slice ba n bc] w fun e w' => e = .returned (.int .i64 (sendR sf (hubD L) (x, y) bs).1) ∧ ∃ N' L', HubR w w' N N' h r sf L L' ∧ hubD L' = (sendR sf (hubD L) (x, y) bs).2 := by
  have hb1 : Below w.heap.size w (w.alloc (.cells #[.int .u16 x, .int .u32 y] 30)) := (Below.refl _ _).alloc (Nat.le_refl _) _
  obtain ⟨W1, hW1⟩ : ∃ W1, w.alloc (.cells #[.int .u16 x, .int .u32 y] 30) = W1 := ⟨_, rfl⟩
  have d0 : W1.cell? ⟨w.heap.size, 0, none⟩ = some (.int .u16 x) := by rw [← hW1]; simp
  have d1 : W1.cell? ⟨w.heap.size, 1, none⟩ = some (.int .u32 y) := by rw [← hW1]; simp
  rw [hW1] at hb1
  have H1 := H.ext hb1
  have HH := hid H
  have HH1 := hid H1
  have HB1 := hid hb1
  have HN1 : Hid (∀ b, N b → b < W1.heap.size) := hid fun b e => Nat.lt_of_lt_of_le (hN b e) hb1.size
  have HN0 := hid hN
  have CO := other_any H1 x y
  cases hq : otherB sf (x, y)
  · have HQ : Hid (sendR sf (hubD L) (x, y) bs = (1, hubD L)) := hid (by unfold sendR; rw [hq]; rfl)
    rw [show (mayB (x, y) && !decide ((x, y) = sf)) = false from hq] at CO
    have CO := hid CO
    clear H H1 hb1 hq hN hr hbl hx
    go_enter Try.func10, Try.ntmps10
    go_wp2_with fail
    refine CO.out.mono ?_
    rintro e w2 ⟨rfl, hb2⟩
    go_wp2_with fail
    go_ret
    exact ⟨by rw [HQ.out]; rfl, N, L, HubR.same HH.out HN0.out (HB1.out.trans (hb2.mono HB1.out.size)), by rw [HQ.out]⟩
  · rw [show (mayB (x, y) && !decide ((x, y) = sf)) = true from hq] at CO
    have CO := hid CO
    have HQ := hid hq
    have HR := hid hr
    have HX := hid hx
    have HBL := hid hbl
    clear H H1 hb1 hq hN hr hbl hx
    go_enter Try.func10, Try.ntmps10
    go_wp2_with fail
    refine CO.out.mono ?_
    rintro e w2 ⟨rfl, hb2⟩
    have HB2 := hid hb2
    have q0 := cell_toB d0 hb2
    have q1 := cell_toB d1 hb2
    have CL := hid (hlink_any (HH1.out.ext hb2) (fun b e => Nat.lt_of_lt_of_le (HN1.out b e) hb2.size) x y hok)
    clear d0 d1 hb2 CO
    go_wp2_with fail
    refine CL.out.mono ?_
    rintro e w3 (⟨rfl, hd, hb3⟩ | ⟨N', A, z, B, rfl, HR3, hp, hA, hd⟩)
    · have HD := hid hd
      clear hd CL
      have HB3 := hid hb3
      go_wp2_with fail
      go_ret
      have hbw := HB1.out.trans (HB2.out.mono HB1.out.size)
      have e1 : sendR sf (hubD L) (x, y) bs = (7, hubD L) := by unfold sendR; rw [HQ.out, HD.out]; rfl
      exact ⟨by rw [e1]; rfl, N, L, HubR.same HH.out HN0.out (hbw.trans (HB3.out.mono hbw.size)), by rw [e1]⟩
    · have hbw := HB1.out.trans (HB2.out.mono HB1.out.size)
      have hR0 := HubR.same HH.out HN0.out hbw
      have hRR := hR0.trans HR3
      have hzl := HR3.is.lnk z (by simp)
      have z0 := hzl.box.c0
      obtain ⟨us, hs⟩ := hzl.snd
      have hr3 : ByteRow w3 ba bs := HR.out.mutT hRR.mt HBL.out
      have CP := hid (wput_any (bc := bc) hs HR3.lt hn hnl hr3 HX.out)
      have HRR := hid hRR
      have HR3' := hid HR3
      have HD := hid (show linkD (hubD L) (x, y) = some (hubD (A ++ z :: B)) ∧ z.p = (x, y) ∧ (x, y) ∉ A.map (·.p) from ⟨hd, hp, hA⟩)
      clear hbw hR0 hRR hzl hs hr3 HR3 hd hp hA q0 q1 CL
      go_wp2_with fail
      refine CP.out.mono ?_
      rintro e w4 ⟨wv', rfl, hP⟩
      have HP := hid hP
      clear hP CP z0
      go_wp2_with fail
      go_ret
      obtain ⟨f1, f2, f3⟩ := HD.out
      have hS := HubR.sent HR3'.out.is HR3'.out.lt HP.out
      have e1 : sendR sf (hubD L) (x, y) bs = (putC z.d.snd bs, hubD (A ++ ⟨z.p, { z.k with wv := wv' }, { z.d with snd := putD z.d.snd bs }⟩ :: B)) := by
        unfold sendR
        rw [HQ.out, f1]
        simp only [if_true]
        rw [← f2, look_hubD_at (by rw [f2]; exact f3)]
        simp only
        rw [ins_hubD (k := { z.k with wv := wv' }) (by rw [f2]; exact f3)]
      exact ⟨by rw [e1]; rfl, _, _, HRR.out.trans hS, by rw [e1]⟩
end Go.Proofs.Ytidohmpnefcpcaa

namespace Go.Proofs.Ytidohmpnefcpcaa
open Go.RowKit
/-! ### hub: Peers, Waits, Drop, Tick -/
def peersR (H : HubD) : List Pid := sortL (H.map (·.1))
set_option maxRecDepth 100000 in
set_option maxHeartbeats 1600000 in
theorem hpeers_any {w : World} {N : Nat → Prop} {h r : Nat} {sf : Pid} {L : List HubX} (H : HubIs w N h r sf L) :
    Calls Try.prog 27 #[.pointer (some ⟨h, 0, none⟩)] w fun e w' => ∃ v, e = .returned v ∧ OwnP w' w.heap.size v (peersR (hubD L)) ∧ Below w.heap.size w w' := by
  have c2 := H.c2
  have HH := hid H
  have HM : Hid (∀ w2, Below w.heap.size w w2 → ∀ Bm, w2.cell? ⟨Bm, 0, none⟩ = some (.map (some r)) → Bm < w2.heap.size → Calls Try.prog 47 #[.func (.func 59) #[] #[.pointer (some ⟨Bm, 0, none⟩)]] w2 fun e w' => ∃ v xs, e = .returned v ∧ OwnP w' w2.heap.size v xs ∧ xs.Perm (L.map (·.p)) ∧ Below w2.heap.size w2 w') := hid fun w2 hb Bm hm hlt => by
    have := collect_any Bm r _ w2 hlt hm (H.ext hb).map (by have := H.lim; simp; omega)
    have e : ((L.map fun x => (x.p, x.k.lb)).map (·.1)) = L.map (·.p) := by rw [List.map_map]; rfl
    rw [e] at this
    exact this
  have hl := H.lim
  have hnd := H.nd
  have hoks := H.oks
  have hS : Hid (∀ xs : List Pid, xs.Perm (L.map (·.p)) → sortP xs = peersR (hubD L) ∧ xs.length ≤ 48 ∧ ∀ p ∈ xs, ok p) := hid fun xs hp => by
    have hn : xs.Nodup := hp.symm.nodup hnd
    have ho : ∀ p ∈ xs, ok p := fun p hpx => by
      obtain ⟨z, hz, rfl⟩ := List.mem_map.1 (hp.mem_iff.1 hpx)
      exact hoks z hz
    refine ⟨?_, by have := hp.length_eq; simp at this; omega, ho⟩
    rw [sortP_nodup hn]
    have e : (hubD L).map (·.1) = L.map (·.p) := by simp [hubD]
    unfold peersR
    rw [e]
    exact sortL_perm hp ho
  clear H hl hnd hoks
  go_enter Try.func27, Try.ntmps27
  go_wp2_with fail
  refine (keysOf_any r w).mono ?_
  rintro e w1 ⟨rfl, hw1⟩
  have hb1 : Below w.heap.size w w1 := by rw [hw1]; exact (Below.refl _ _).alloc (Nat.le_refl _) _
  have hc1 : w1.cell? ⟨w.heap.size, 0, none⟩ = some (.map (some r)) := by rw [hw1]; simp
  have hz1 : w.heap.size < w1.heap.size := by rw [hw1]; simp
  clear hw1
  have HB1 := hid hb1
  have CC := hid (HM.out w1 hb1 _ hc1 hz1)
  clear hc1 hb1 HM
  go_wp2_with fail
  refine CC.out.mono ?_
  rintro e w2 ⟨v, xs, rfl, hown, hp, hb2⟩
  obtain ⟨a, c, rfl, hrow, -⟩ := hown.row
  obtain ⟨hs1, hs2, hs3⟩ := hS.out xs hp
  have CS := hid (sort_any a c xs w2 (by omega) hrow hs3)
  rw [hs1] at CS
  have HB2 := hid hb2
  clear hrow hown hp hs1 hs2 hs3 hb2 CC
  go_wp2_with fail
  refine CS.out.mono ?_
  rintro e w3 ⟨v3, rfl, hown3, hb3⟩
  go_wp2_with fail
  go_ret
  have hbw := HB1.out.trans (HB2.out.mono HB1.out.size)
  exact ⟨_, rfl, hown3.mono hbw.size, hbw.trans (hb3.mono hbw.size)⟩
def waitsR (H : HubD) (p : Pid) : Nat := match look p H with | none => 0 | some d => d.snd.wait.length
set_option maxRecDepth 100000 in
set_option maxHeartbeats 1600000 in
theorem hwaits_any {w : World} {N : Nat → Prop} {h r : Nat} {sf : Pid} {L : List HubX} (H : HubIs w N h r sf L) (x y : Int) :
    Calls Try.prog 15 #[.pointer (some ⟨h, 0, none⟩), .agg #[.int .u16 x, .int .u32 y]] w fun e w' => e = .returned (.int .i64 (waitsR (hubD L) (x, y))) ∧ Below w.heap.size w w' := by
  have hb1 : Below w.heap.size w (w.alloc (.cells #[.int .u16 x, .int .u32 y] 30)) := (Below.refl _ _).alloc (Nat.le_refl _) _
  obtain ⟨W1, hW1⟩ : ∃ W1, w.alloc (.cells #[.int .u16 x, .int .u32 y] 30) = W1 := ⟨_, rfl⟩
  have d0 : W1.drew.cell? ⟨w.heap.size, 0, none⟩ = some (.int .u16 x) := by rw [← hW1]; simp
  have d1 : W1.drew.cell? ⟨w.heap.size, 1, none⟩ = some (.int .u32 y) := by rw [← hW1]; simp
  rw [hW1] at hb1
  have H1 := (H.ext hb1).ext (Below.refl _ _).drew
  have HB1 := hid hb1.drew
  have c2 := H1.c2
  have hmp := H1.map
  rcases lookX (x, y) L with ⟨e1, e2⟩ | ⟨A, z, B, e1, e2, e3, e4⟩
  · have hlk : ∀ W, MapIs W r pidV ptrV (L.map fun x => (x.p, x.k.lb)) → (Instr.lookup 72 (.map (some r)) (.agg #[.int .u16 x, .int .u32 y]) true).run Try.prog W = .ok (.tuple #[.pointer none, .bool false]) W := fun W hM => by
      have := hM.lookup_ok keyPid Try.underlying72 (zeroLk W) (x, y)
      rw [e1] at this
      exact this
    have HE : Hid (waitsR (hubD L) (x, y) = 0) := hid (by unfold waitsR; rw [look_hubD e2])
    clear H H1 hb1 e1 e2
    go_enter Try.func15, Try.ntmps15
    go_wp2_with fail
    go_region_held3 (fun W => MapIs W r pidV ptrV (L.map fun x => (x.p, x.k.lb)) ∧ W.cell? ⟨h, 2, none⟩ = some (.map (some r)) ∧ W.cell? ⟨w.heap.size, 0, none⟩ = some (.int .u16 x) ∧ W.cell? ⟨w.heap.size, 1, none⟩ = some (.int .u32 y)) (first | exact ⟨hmp, c2, d0, d1⟩) (fail)
    go_wp2_with fail
    go_ret
    exact ⟨by rw [HE.out]; rfl, HB1.out⟩
  · have hlk : ∀ W, MapIs W r pidV ptrV (L.map fun x => (x.p, x.k.lb)) → (Instr.lookup 72 (.map (some r)) (.agg #[.int .u16 x, .int .u32 y]) true).run Try.prog W = .ok (.tuple #[.pointer (some ⟨z.k.lb, 0, none⟩), .bool true]) W := fun W hM => by
      have := hM.lookup_ok keyPid Try.underlying72 (zeroLk W) (x, y)
      rw [e4] at this
      exact this
    have HE : Hid (waitsR (hubD L) (x, y) = z.d.snd.wait.length) := hid (by unfold waitsR; rw [e1, ← e2, look_hubD_at (by rw [e2]; exact e3)])
    have hz := H1.lnk z (by rw [e1]; simp)
    have z0 := hz.box.c0
    obtain ⟨us, hs⟩ := hz.snd
    have CW := hid (wlen_any hs)
    clear H H1 hb1 e1 e2 e3 e4 hz hs
    go_enter Try.func15, Try.ntmps15
    go_wp2_with fail
    go_region_held3 (fun W => MapIs W r pidV ptrV (L.map fun x => (x.p, x.k.lb)) ∧ W.cell? ⟨h, 2, none⟩ = some (.map (some r)) ∧ W.cell? ⟨w.heap.size, 0, none⟩ = some (.int .u16 x) ∧ W.cell? ⟨w.heap.size, 1, none⟩ = some (.int .u32 y)) (first | exact ⟨hmp, c2, d0, d1⟩) (fail)
    go_wp2_with fail
    refine CW.out.mono ?_
    rintro e w3 ⟨rfl, rfl⟩
    go_wp2_with fail
    go_ret
    exact ⟨by rw [HE.out]; rfl, HB1.out⟩
/-- a link was let go -/
theorem HubIs.drop {w w' : World} {N : Nat → Prop} {h r : Nat} {sf : Pid} {A B : List HubX} {z : HubX} (H : HubIs w N h r sf (A ++ z :: B)) (hb : But r w w') (hM : MapIs w' r pidV ptrV ((A ++ B).map fun x => (x.p, x.k.lb))) : HubIs w' N h r sf (A ++ B) := by
  have hm : Mut (fun b => b = r) w w' := Mut.of_but hb rfl
  have hG : ∀ b, b < w.heap.size → b = r → N b := fun b _ e => by rw [e]; exact H.rn
  have hmem : ∀ y, y ∈ A ++ B → y ∈ A ++ z :: B := fun y hy => by
    rcases List.mem_append.1 hy with hy | hy
    · simp [hy]
    · simp [hy]
  have hsub : (A ++ B).Sublist (A ++ z :: B) := List.Sublist.append (List.Sublist.refl _) (List.sublist_cons_self _ _)
  exact ⟨(hb.cell (by exact H.hr)).trans H.c0, (hb.cell (by exact H.hr)).trans H.c1, (hb.cell (by exact H.hr)).trans H.c2, H.hn, H.rn, H.hr, hM, fun y hy => (H.lnk y (hmem y hy)).mut hm hG fun b e e2 => (H.out y (hmem y hy) b e).2 e2, fun y hy => H.out y (hmem y hy), H.dis.sublist hsub, H.nd.sublist (hsub.map _), Nat.le_trans hsub.length_le H.lim, fun y hy => H.oks y (hmem y hy)⟩
end Go.Proofs.Ytidohmpnefcpcaa

namespace Go.Proofs.Ytidohmpnefcpcaa
open Go.RowKit
/-! ### hub: Tick -/
def tickX (x : HubX) : HubX := ⟨x.p, x.k, { x.d with snd := { x.d.snd with told := 0 } }⟩
def tickT (todo : List Pid) (L : List HubX) : List HubX := L.map fun x => if x.p ∈ todo then x else tickX x
def tickH (H : HubD) : HubD := H.map fun x => (x.1, { x.2 with snd := { x.2.snd with told := 0 } })
theorem tickT_all {L : List HubX} {todo : List Pid} (h : ∀ x ∈ L, x.p ∈ todo) : tickT todo L = L := by
  unfold tickT
  conv => rhs; rw [← List.map_id L]
  exact List.map_congr_left fun x hx => by simp [h x hx]
theorem tickT_nil (L : List HubX) : hubD (tickT [] L) = tickH (hubD L) := by
  unfold tickT hubD tickH
  rw [List.map_map, List.map_map]
  exact List.map_congr_left fun x _ => rfl
theorem tickT_fp {todo : List Pid} {L : List HubX} {h r b : Nat} : fpH h r (tickT todo L) b ↔ fpH h r L b := by
  unfold fpH tickT
  constructor
  · rintro (e | e | ⟨x, hx, e⟩)
    · exact .inl e
    · exact .inr (.inl e)
    · obtain ⟨y, hy, rfl⟩ := List.mem_map.1 hx
      refine .inr (.inr ⟨y, hy, ?_⟩)
      split at e <;> exact e
  · rintro (e | e | ⟨x, hx, e⟩)
    · exact .inl e
    · exact .inr (.inl e)
    · exact .inr (.inr ⟨_, List.mem_map_of_mem hx, by split <;> exact e⟩)
theorem tickT_split {todo : List Pid} {A B : List HubX} {z : HubX} : tickT todo (A ++ z :: B) = tickT todo A ++ (if z.p ∈ todo then z else tickX z) :: tickT todo B := by simp [tickT]
theorem tickT_same {t1 t2 : List Pid} {A : List HubX} (h : ∀ x ∈ A, (x.p ∈ t1 ↔ x.p ∈ t2)) : tickT t1 A = tickT t2 A := by
  unfold tickT
  refine List.map_congr_left fun x hx => ?_
  by_cases h1 : x.p ∈ t1
  · rw [if_pos h1, if_pos ((h x hx).1 h1)]
  · rw [if_neg h1, if_neg fun e => h1 ((h x hx).2 e)]
theorem Mut.thenBut' {F : Nat → Prop} {a b c : World} {t : Nat} (h : Mut F a b) (k : But t b c) (ht : a.heap.size ≤ t) : Mut F a c :=
  h.transG (Mut.of_but k (F := fun b => b = t) rfl) fun i hi e => by have e : i = t := e; omega
set_option maxRecDepth 100000 in
set_option maxHeartbeats 3200000 in
theorem htick_any {w : World} {N : Nat → Prop} {h r : Nat} {sf : Pid} {L : List HubX} (H : HubIs w N h r sf L) (hN : ∀ b, N b → b < w.heap.size) :
    Calls Try.prog 11 #[.pointer (some ⟨h, 0, none⟩)] w fun e w' => e = .returned (.tuple #[]) ∧ ∃ L', HubR w w' N N h r sf L L' ∧ hubD L' = tickH (hubD L) := by
  have c2 := H.c2
  have hM := H.map
  have HH := hid H
  have HNN := hid hN
  have HND : Hid ((L.map (·.p)).Nodup) := hid H.nd
  clear H hN
  go_enter Try.func11, Try.ntmps11
  go_wp2_with (at_range; refine wpList_range_is hM Try.underlying72 rfl rfl rfl ?_; intro w0 hR0 hb0)
  go_frame
  go_loopw [3] (fun _ wr => ∃ (left : List (Pid × Nat)), RangeIs wr r w.heap.size pidV ptrV (L.map fun x => (x.p, x.k.lb)) left ∧ Hid (left.Sublist (L.map fun x => (x.p, x.k.lb))) ∧ Hid (HubIs wr (fun b => N b ∨ w.heap.size ≤ b) h r sf (tickT (left.map (·.1)) L)) ∧ Hid (Mut (fpH h r L) w wr)) (fun _ wr => wr.rangeLeft r w.heap.size)
  case atStart =>
    exact ⟨_, hR0, hid (List.Sublist.refl _), hid (by rw [tickT_all (fun x hx => by rw [List.map_map]; exact List.mem_map_of_mem (f := fun x : HubX => x.p) hx)]; exact (HH.out.less (fun b e => .inl (HH.out.fp b e)) fun b e => e).ext hb0), hid (Mut.of_below hb0)⟩
  case round =>
    obtain ⟨left, hR, hSub, HI, HM⟩ := hrel
    have HLM := hid hR.left_eq
    go_wp2_with (at_next; refine wpList_next_is hR rfl rfl rfl ?_ ?_)
    · intro hl
      have HL := hid hl.out
      clear hl
      go_wp2_with fail
      refine bodyPost_end (results_none rfl _ _ _) rfl ⟨rfl, tickT [] L, ⟨?_, fun _ e => e, fun _ e => .inl e, fun b e => Nat.lt_of_lt_of_le (HNN.out b e) HM.out.size, HM.out, fun b e => .inl (tickT_fp.1 e)⟩, tickT_nil L⟩
      have := HI.out
      rw [HL.out] at this
      exact this.less (fun b e => HH.out.fp b (tickT_fp.1 e)) fun b e => .inl (.inl e)
    · intro x y u0 s1 s2 w1 hl hR1 hbut hen
      have hmem : ((x, y), u0) ∈ left := by rw [hl.out]; simp
      obtain ⟨z, hz, hze⟩ := List.mem_map.1 (hSub.out.subset hmem)
      injection hze with hz1 hz2
      obtain ⟨A, B, hL⟩ := List.append_of_mem hz
      have hkl : (left.map (·.1)).Nodup := by
        have h1 := hSub.out.map (fun x : Pid × Nat => x.1)
        rw [List.map_map] at h1
        exact HND.out.sublist h1
      have hkeys : left.map (·.1) = s1.map (·.1) ++ z.p :: s2.map (·.1) := by rw [hl.out, hz1]; simp
      have hin : z.p ∈ left.map (·.1) := by rw [hkeys]; simp
      have hnot : z.p ∉ (s1 ++ s2).map (·.1) := by
        rw [hkeys] at hkl
        rw [List.map_append]
        intro h
        have := List.nodup_append.1 hkl
        rcases List.mem_append.1 h with h | h
        · exact this.2.2 _ h _ (List.mem_cons_self ..) rfl
        · exact (List.nodup_cons.1 this.2.1).1 h
      have hndL := HND.out
      rw [hL, List.map_append, List.map_cons] at hndL
      have hndL2 := List.nodup_append.1 hndL
      have hAz : ∀ q ∈ A, q.p ≠ z.p := fun q hq e => hndL2.2.2 _ (List.mem_map_of_mem (f := fun x : HubX => x.p) hq) _ (List.mem_cons_self ..) e
      have hBz : ∀ q ∈ B, q.p ≠ z.p := fun q hq e => (List.nodup_cons.1 hndL2.2.1).1 (by rw [← e]; exact List.mem_map_of_mem (f := fun x : HubX => x.p) hq)
      have hsame : ∀ q : HubX, q.p ≠ z.p → (q.p ∈ left.map (·.1) ↔ q.p ∈ (s1 ++ s2).map (·.1)) := fun q hq => by
        rw [hkeys, List.map_append]
        simp only [List.mem_append, List.mem_cons]
        constructor
        · rintro (e | e | e)
          · exact .inl e
          · exact absurd e hq
          · exact .inr e
        · rintro (e | e)
          · exact .inl e
          · exact .inr (.inr e)
      have hH0 := HI.out
      rw [hL, tickT_split, if_pos hin] at hH0
      have hH1 : HubIs w1 (fun b => N b ∨ w.heap.size ≤ b) h r sf (tickT (left.map (·.1)) A ++ z :: tickT (left.map (·.1)) B) := hH0.mut (Mut.of_but hbut (F := fun b => b = w.heap.size) rfl) (fun b _ e => .inr (by rw [show b = w.heap.size from e]; exact Nat.le_refl _)) (fun b e e2 => by
        have h1 : fpH h r (tickT (left.map (·.1)) L) b := by rw [hL, tickT_split, if_pos hin]; exact e
        have := HH.out.fplt b (tickT_fp.1 h1)
        have e2 : b = w.heap.size := e2
        omega)
      have hzl := hH1.lnk z (by simp)
      have z0 := hzl.box.c0
      rw [hz2] at z0
      obtain ⟨us, hs⟩ := hzl.snd
      have CT := hid (wtick_any hs)
      have HFZ : Hid (∀ b, fpL z.k b → fpH h r L b) := hid fun b e => .inr (.inr ⟨z, hz, e⟩)
      have HW1 : Hid (Mut (fpH h r L) w w1) := hid (HM.out.thenBut' hbut (Nat.le_refl _))
      have HE : Hid (tickT (left.map (·.1)) A = tickT ((s1 ++ s2).map (·.1)) A ∧ tickT (left.map (·.1)) B = tickT ((s1 ++ s2).map (·.1)) B ∧ L = A ++ z :: B ∧ z.p ∉ (s1 ++ s2).map (·.1)) := hid ⟨tickT_same fun q hq => hsame q (hAz q hq), tickT_same fun q hq => hsame q (hBz q hq), hL, hnot⟩
      have HH1 := hid hH1
      have HZL := hid hzl
      have HLN : Hid (left.length = s1.length + 1 + s2.length) := hid (by rw [hl.out]; simp; omega)
      have HS2 : Hid ((s1 ++ s2).Sublist (L.map fun x => (x.p, x.k.lb))) := hid (List.Sublist.trans (by rw [hl.out]; simp) hSub.out)
      clear hmem hz hz1 hz2 hL hkl hkeys hin hnot hndL hndL2 hAz hBz hsame hH0 hH1 hzl hs
      go_wp2_with fail
      refine CT.out.mono ?_
      rintro e w3 ⟨rfl, hS3, hm3⟩
      have hfs : ∀ b, b = z.k.sb → fpL z.k b := fun b e => .inr (.inl e)
      have hl3 := HZL.out.sent (hm3.mono fun b _ e => (show fpS z.k.sb z.k.wv b from .inl e)) (fun b e => e) (fun b e => .inl e) hS3 (fun g e => .inl e)
      have hT := HH1.out.turn (hm3.mono fun b _ e => hfs b e) (fun b e => e) (fun b e => .inl e) hl3 rfl (fun b e => .inl e)
      have hsbl := HZL.out.fplt z.k.sb (hfs _ rfl)
      have hsbw : z.k.sb < w.heap.size := HH.out.fplt _ (HFZ.out _ (hfs _ rfl))
      have hsbr : z.k.sb ≠ r := (HH1.out.out z (by simp) _ (hfs _ rfl)).2
      have hR3 : RangeIs w3 r w.heap.size pidV ptrV (L.map fun x => (x.p, x.k.lb)) (s1 ++ s2) := hR1.mut hm3 (fun e => hsbr (show r = z.k.sb from e).symm) (fun e => by have e : w.heap.size = z.k.sb := e; omega)
      obtain ⟨f1, f2, f3, f4⟩ := HE.out
      have HT : Hid (HubIs w3 (fun b => N b ∨ w.heap.size ≤ b) h r sf (tickT ((s1 ++ s2).map (·.1)) L)) := hid (by
        rw [f3, tickT_split, if_neg f4, ← f1, ← f2]
        exact hT)
      have HM3 : Hid (Mut (fpH h r L) w w3) := hid (HW1.out.trans (hm3.mono fun b _ e => HFZ.out b (hfs b e)))
      have HL3 := hid hR3.left_eq
      clear hT hl3 hS3 hm3 f1 f2 f3 f4 CT z0 hfs hsbl hsbw hsbr
      go_wp2_with fail
      go_roundw
      case rel => exact ⟨s1 ++ s2, hR3, HS2, HT, HM3⟩
      case measure => rw [HL3.out, HLM.out, HLN.out]; simp <;> omega
end Go.Proofs.Ytidohmpnefcpcaa

