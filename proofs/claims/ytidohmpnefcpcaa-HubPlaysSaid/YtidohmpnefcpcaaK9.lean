/- Parts of the proof: K9. -/
import Derived.Test.YtidohmpnefcpcaaGHubPlays3
namespace Go.Proofs.Ytidohmpnefcpcaa
open Go.RowKit
/-! ### link: Take -/
def takeGo : Nat → Nat → List (Nat × List Nat) → List (List Nat) × Nat × List (Nat × List Nat)
  | 0, u, H => ([], u, H)
  | f + 1, u, H => match look (u + 1) H with
    | none => ([], u, H)
    | some b => (b :: (takeGo f (u + 1) (del (u + 1) H)).1, (takeGo f (u + 1) (del (u + 1) H)).2)
def takeNo (d : LnkD) (q : Nat) : Prop := (look q d.held).isSome = true ∨ q ≤ d.upto ∨ 16 < q - d.upto
instance (d : LnkD) (q : Nat) : Decidable (takeNo d q) := by unfold takeNo; infer_instance
def takeT (d : LnkD) (q : Nat) (bs : List Nat) : List (List Nat) × Nat × List (Nat × List Nat) := takeGo (d.held.length + 1 + 1) d.upto (ins q bs d.held)
def takeL (d : LnkD) (q : Nat) (bs : List Nat) : List (List Nat) := if takeNo d q then [] else (takeT d q bs).1
def takeD (d : LnkD) (q : Nat) (bs : List Nat) : LnkD := if takeNo d q then { d with owes := true } else { d with owes := true, upto := (takeT d q bs).2.1, held := (takeT d q bs).2.2 }
theorem zeroBs (w : World) : (zeroValue 32).run Try.prog w = .ok (.slice none 0 0) w := by kernel_rfl
/-- what Take leaves: its texts in an own row v, whose block is none of N -/
structure TakeR (w w' : World) (N : Nat → Prop) (p : LnkP) (ls : List (List Nat)) (D : LnkD) (v : Value) (us : List Value) : Prop where
  row : RowO w' w.heap.size v us
  it : ItemsAt w' (fun b => N b ∨ v.ownBlock = some b) us ls
  is : LnkIs w' N p D
  mt : Mut (fpL p) w w'
theorem LnkIs.owe {w : World} {N : Nat → Prop} {p : LnkP} {d : LnkD} (h : LnkIs w N p d) (o : Bool) : LnkIs (w.setCell ⟨p.lb, 3, none⟩ (.bool o)) N p { d with owes := o } ∧ Mut (fun b => b = p.lb) w (w.setCell ⟨p.lb, 3, none⟩ (.bool o)) := by
  have hm : Mut (fun b => b = p.lb) w (w.setCell ⟨p.lb, 3, none⟩ (.bool o)) := mut1
  obtain ⟨us, hs⟩ := h.snd
  refine ⟨⟨h.box.set3 _, ⟨us, hs.mut hm (fun b _ e => by rw [show b = p.lb from e]; exact h.nl) fun b e e2 => ?_⟩, h.held.mut hm (fun b _ e => by rw [show b = p.lb from e]; exact h.nl) fun e => h.d2 e.symm, by simp; exact h.hlt, h.nl, h.nh, h.d1, h.d2, h.d3, h.d4, h.u0⟩, hm⟩
  have e2 : b = p.lb := e2
  rcases e with e | e
  · exact h.d1 (e2.symm.trans e)
  · exact (h.d4 b e).1 e2
theorem LnkIs.upto {w : World} {N : Nat → Prop} {p : LnkP} {d : LnkD} (h : LnkIs w N p d) (u : Nat) (hu : u < 18446744073709551616) : LnkIs (w.setCell ⟨p.lb, 1, none⟩ (.int .u64 u)) N p { d with upto := u } ∧ Mut (fun b => b = p.lb) w (w.setCell ⟨p.lb, 1, none⟩ (.int .u64 u)) := by
  have hm : Mut (fun b => b = p.lb) w (w.setCell ⟨p.lb, 1, none⟩ (.int .u64 u)) := mut1
  obtain ⟨us, hs⟩ := h.snd
  refine ⟨⟨h.box.set1 _, ⟨us, hs.mut hm (fun b _ e => by rw [show b = p.lb from e]; exact h.nl) fun b e e2 => ?_⟩, h.held.mut hm (fun b _ e => by rw [show b = p.lb from e]; exact h.nl) fun e => h.d2 e.symm, by simp; exact h.hlt, h.nl, h.nh, h.d1, h.d2, h.d3, h.d4, hu⟩, hm⟩
  have e2 : b = p.lb := e2
  rcases e with e | e
  · exact h.d1 (e2.symm.trans e)
  · exact (h.d4 b e).1 e2
/-- the map of what is held was changed -/
theorem LnkIs.hold {w w' : World} {N : Nat → Prop} {p : LnkP} {d : LnkD} {held : List (Nat × List Nat)} (h : LnkIs w N p d) (hb : But p.hm w w') (hh : HeldIs w' N p.hm held) : LnkIs w' N p { d with held := held } := by
  have hm : Mut (fun b => b = p.hm) w w' := Mut.of_but hb rfl
  obtain ⟨us, hs⟩ := h.snd
  refine ⟨h.box.mut hm h.d2, ⟨us, hs.mut hm (fun b _ e => by rw [show b = p.hm from e]; exact h.nh) fun b e e2 => ?_⟩, hh, by rw [hb.size]; exact h.hlt, h.nl, h.nh, h.d1, h.d2, h.d3, h.d4, h.u0⟩
  have e2 : b = p.hm := e2
  rcases e with e | e
  · exact h.d3 (e.symm.trans e2)
  · exact (h.d4 b e).2 e2
theorem ItemAt.ext1 {w w' : World} {N : Nat → Prop} {u : Value} {bs : List Nat} (h : ItemAt w N u bs) (hb : Below w.heap.size w w') : ItemAt w' N u bs := h.mut (Mut.of_below (F := fun _ => False) hb) fun _ _ e => e.elim
theorem take_no {w W1 : World} {N : Nat → Prop} {p : LnkP} {d : LnkD} {q : Nat} {bs : List Nat} (HI : Hid (LnkIs w N p d)) (HT : Hid (takeL d q bs = [])) (HD : Hid (takeD d q bs = { d with owes := true })) (HL1 : Hid (LnkIs W1 N p { d with owes := true })) (HM1 : Hid (Mut (fun b => b = p.lb) w W1)) :
    TakeR w W1 N p (takeL d q bs) (takeD d q bs) (.slice none 0 0) [] :=
  ⟨RowO.nil _ _, by rw [HT.out]; exact ItemsAt.nil _ _, by rw [HD.out]; exact HL1.out, HM1.out.mono fun b _ e => .inl e⟩
theorem ins_none {α β : Type} [DecidableEq α] {x : α} {u : β} : ∀ {L : List (α × β)}, look x L = none → ins x u L = L ++ [(x, u)]
  | [], _ => rfl
  | p :: l, h => by
    simp only [look] at h
    split at h
    · cases h
    · next hx => simp [ins, if_neg hx, ins_none h]
def slLen : Value → Nat
  | .slice _ n _ => n
  | _ => 0
/-- append of a text -/
theorem wpList_appendO {w : World} {ops : Array Oper} {rest : List Oper} {o : Oper} {a : Go.Act} {Q : Exit → Go.Act → World → Prop} {s x : Operand} {base : Nat} {v u : Value} {xs : List Value} {b ob c : Nat} (hown : RowO w base v xs) (hu : w.cell? ⟨b, ob, none⟩ = some u) (h1 : u.oneCell' = true)
    (hl : xs.length + 1 ≤ 1000000) (hbase : base ≤ w.heap.size) (hg : o.guard = none)
    (ho : o.op = .call { callee := .builtin .append, args := #[s, x], argTypes := #[22, 22] }) (hs : a.eval s = v) (hx : a.eval x = .slice (some ⟨b, ob, none⟩) 1 c)
    (h : ∀ v' w', RowO w' base v' (xs ++ [u]) → Mut (fun g => v.ownBlock = some g) w w' → (∀ g, v'.ownBlock = some g → v.ownBlock = some g ∨ w.heap.size ≤ g) → wpList Try.prog ops Q rest (a.put o.dst v') w') : wpList Try.prog ops Q (o :: rest) a w := by
  obtain ⟨i0, hi, hz0, hz1, hz2⟩ := info_parts infoBs
  obtain ⟨v', w', hr, h2, h3, h4⟩ := hown.append (c := c) 22 o.type 32 i0 _ 24 Try.underlying22 hi hz0 hz1 hz2 rfl hu h1 hl (by decide) hbase
  exact Lib.wpList_append_run w hg s x 22 22 ho _ _ hs hx v' w' hr (h v' w' h2 h3 h4)
theorem takeGo_some {f u : Nat} {H : List (Nat × List Nat)} {b : List Nat} (h : look (u + 1) H = some b) : takeGo (f + 1) u H = (b :: (takeGo f (u + 1) (del (u + 1) H)).1, (takeGo f (u + 1) (del (u + 1) H)).2) := by
  simp only [takeGo, h]
theorem takeGo_none {f u : Nat} {H : List (Nat × List Nat)} (h : look (u + 1) H = none) : takeGo (f + 1) u H = ([], u, H) := by
  simp only [takeGo, h]
theorem del_len {α β : Type} [DecidableEq α] {x : α} {b : β} : ∀ {L : List (α × β)}, look x L = some b → (del x L).length + 1 = L.length
  | [], h => by cases h
  | p :: l, h => by
    simp only [look] at h
    simp only [del]
    split at h
    · next hx => rw [if_pos hx]; rfl
    · next hx => rw [if_neg hx]; simp [del_len h]
/-- the loop of Take under way -/
structure TakeI (w wx wr : World) (N : Nat → Prop) (p : LnkP) (d : LnkD) (F : Nat) (T : List (List Nat) × Nat × List (Nat × List Nat)) (v : Value) (us : List Value) (ls : List (List Nat)) (u : Nat) (H : List (Nat × List Nat)) (f : Nat) : Prop where
  row : RowO wr wx.heap.size v us
  it : ItemsAt wr (fun b => N b ∨ wx.heap.size ≤ b) us ls
  is : LnkIs wr (fun b => N b ∨ wx.heap.size ≤ b) p { d with owes := true, upto := u, held := H }
  mt : Mut (fpL p) wx wr
  eq : T = (ls ++ (takeGo f u H).1, (takeGo f u H).2)
  fl : f + us.length = F
  hf : H.length < f
  ub : u + H.length ≤ 4611686018427387905
  fb : F ≤ 1000000
theorem TakeI.ext {w wx wr wr' : World} {N : Nat → Prop} {p : LnkP} {d : LnkD} {F : Nat} {T : List (List Nat) × Nat × List (Nat × List Nat)} {v : Value} {us : List Value} {ls : List (List Nat)} {u : Nat} {H : List (Nat × List Nat)} {f : Nat} (h : TakeI w wx wr N p d F T v us ls u H f) (hb : Below wr.heap.size wr wr') : TakeI w wx wr' N p d F T v us ls u H f :=
  ⟨h.row.ext hb, h.it.mut (Mut.of_below (F := fun _ => False) hb) (fun _ _ e => e.elim), h.is.ext hb, h.mt.trans (Mut.of_below hb), h.eq, h.fl, h.hf, h.ub, h.fb⟩
theorem take_step {w wx wr W2 w3 w4 : World} {N : Nat → Prop} {p : LnkP} {d : LnkD} {F : Nat} {T : List (List Nat) × Nat × List (Nat × List Nat)} {v v4 x : Value} {us : List Value} {ls : List (List Nat)} {u : Nat} {H : List (Nat × List Nat)} {f : Nat} {b : List Nat} {t : TypeId}
    (h : TakeI w wx wr N p d F T v us ls u H f) (he : look (u + 1) H = some b) (hx : ItemAt wr (fun b => N b ∨ wx.heap.size ≤ b) x b) (hNs : ∀ b, N b → b < wx.heap.size) (hfp : ∀ b, fpL p b → N b)
    (hm2 : Mut (fun b => b = p.lb) wr.drew W2) (hb3 : But p.hm W2.drew w3) (hL4 : LnkIs w3 (fun b => N b ∨ wx.heap.size ≤ b) p { d with owes := true, upto := u + 1, held := del (u + 1) H })
    (hrow : RowO w4 wx.heap.size v4 (us ++ [x])) (hm4 : Mut (fun g => v.ownBlock = some g) (w3.alloc (.cells #[x] t)) w4) :
    ∃ f', TakeI w wx w4 N p d F T v4 (us ++ [x]) (ls ++ [b]) (u + 1) (del (u + 1) H) f' := by
  obtain ⟨g, rfl⟩ : ∃ g, f = g + 1 := ⟨f - 1, by have := h.hf; omega⟩
  have hl := del_len he
  have hm0 : Mut (fpL p) wr wr.drew := Mut.of_below (Below.refl _ _).drew
  have hm3 : Mut (fpL p) wr w3 := ((hm0.trans (hm2.mono fun b _ e => .inl e)).trans (Mut.of_below (Below.refl _ _).drew)).trans (Mut.of_but hb3 (.inr (.inr (.inl rfl))))
  have hmv : Mut (fun g => v.ownBlock = some g) w3 w4 := (Mut.of_below ((Below.refl _ _).alloc (Nat.le_refl _) _)).trans hm4
  have hG1 : ∀ b, fpL p b → N b ∨ wx.heap.size ≤ b := fun b e => .inl (hfp b e)
  have hG2 : ∀ b, v.ownBlock = some b → N b ∨ wx.heap.size ≤ b := fun b e => .inr (h.row.blk e).1
  refine ⟨g, hrow, ?_, ?_, ?_, ?_, ?_, ?_, ?_, h.fb⟩
  · exact ((h.it.mut hm3 fun b _ e => hG1 b e).mut hmv fun b _ e => hG2 b e).snoc ((hx.mut hm3 fun b _ e => hG1 b e).mut hmv fun b _ e => hG2 b e)
  · refine hL4.mut hmv (fun b _ e => hG2 b e) fun b e e2 => ?_
    have h1 := (h.row.blk e2).1
    have h2 := hNs b (hfp b e)
    omega
  · refine (h.mt.trans hm3).transG hmv fun b hb e => ?_
    have h1 := (h.row.blk e).1
    omega
  · rw [h.eq, takeGo_some he]; simp
  · have := h.fl; simp; omega
  · have := h.hf; omega
  · have := h.ub; omega
theorem take_end {w wx wr : World} {N : Nat → Prop} {p : LnkP} {d : LnkD} {q : Nat} {bs : List Nat} {v : Value} {us : List Value} {ls : List (List Nat)} {u f : Nat} {H : List (Nat × List Nat)} (HI : Hid (LnkIs w N p d)) (HT : Hid (takeL d q bs = (takeT d q bs).1)) (HD : Hid (takeD d q bs = { d with owes := true, upto := (takeT d q bs).2.1, held := (takeT d q bs).2.2 })) (HM : Hid (Mut (fpL p) w wx))
    (h : Hid (TakeI w wx wr N p d (d.held.length + 1 + 1) (takeT d q bs) v us ls u H f)) (HE : Hid (look (u + 1) H = none)) (HNN : Hid (∀ b, N b → b < w.heap.size)) : TakeR w wr N p (takeL d q bs) (takeD d q bs) v us := by
  obtain ⟨h1, h2, h3, h4, h5, h6, h7, -, -⟩ := h.out
  obtain ⟨g, rfl⟩ : ∃ g, f = g + 1 := ⟨f - 1, by omega⟩
  have he := takeGo_none (f := g) HE.out
  rw [he] at h5
  have hz := HM.out.size
  have h1' : RowO wr w.heap.size v us := by
    rcases h1 with h1 | ⟨g, o, c, e, h, r⟩
    · exact .inl h1
    · exact .inr ⟨g, o, c, e, by omega, r⟩
  refine ⟨h1', ?_, ?_, HM.out.trans h4⟩
  · rw [HT.out, h5, List.append_nil]
    exact h2.grow fun b e => .inl (e.imp id fun e => (h1.blk e).1)
  · rw [HD.out, h5]
    exact h3.less (fun b e => HI.out.fp b e) fun b e => .inl (.inl e)
set_option maxRecDepth 100000 in
set_option maxHeartbeats 6400000 in
theorem ltake_any {w : World} {N : Nat → Prop} {p : LnkP} {d : LnkD} {q n : Nat} {ba : Option Addr} {bc : Nat} {bs : List Nat} (h : LnkIs w N p d) (hN : ∀ b, N b → b < w.heap.size) (hq : q < 18446744073709551616) (hu : d.upto + d.held.length ≤ 4611686018427387904) (hhl : d.held.length < 999999) (hn : Hid (bs.length = n)) (hnl : n ≤ 549755813888) (hr : ByteRow w ba bs) (hx : ∀ x ∈ bs, x < 256) (hbl : ∀ b off, ba = some ⟨b, off, none⟩ → bs ≠ [] → ¬ fpL p b) :
    Calls Try.prog 36 #[.pointer (some ⟨p.lb, 0, none⟩), .int .u64 q, .slice ba n bc] w fun e w' => ∃ v, e = .returned v ∧ ∃ us, TakeR w w' N p (takeL d q bs) (takeD d q bs) v us := by
  obtain ⟨hL1, hM1⟩ := h.owe true
  obtain ⟨W1, hW1⟩ : ∃ W1, w.setCell ⟨p.lb, 3, none⟩ (.bool true) = W1 := ⟨_, rfl⟩
  rw [hW1] at hL1 hM1
  have c3 := h.box.c3
  have f3 := h.box.f 3
  have c2 := hL1.box.c2
  have c1 := hL1.box.c1
  obtain ⟨hvs, hmap, hhl2⟩ := id hL1.held
  have hlook := hhl2.look q
  have hlk := hmap.lookup_ok key64_t Try.underlying79 (zeroBs _) q
  have HI := hid h
  by_cases h1 : (look q d.held).isSome = true
  · have HT : Hid (takeL d q bs = []) := hid (by unfold takeL; rw [if_pos (.inl h1)])
    have HD : Hid (takeD d q bs = { d with owes := true }) := hid (by unfold takeD; rw [if_pos (.inl h1)])
    obtain ⟨u, b, e1, e2, -⟩ : ∃ u b, look q hvs = some u ∧ look q d.held = some b ∧ ItemAt W1 N u b := by
      rcases hlook with ⟨e1, e2⟩ | e
      · rw [e2] at h1; cases h1
      · exact e
    rw [e1] at hlk
    have HL1 := hid hL1
    have HM1 := hid hM1
    clear hL1 hM1 hmap hhl2 hlook h1 e1 e2 h
    go_enter Try.func36, Try.ntmps36
    go_wp2_with fail
    go_ret
    exact ⟨_, rfl, [], take_no HI HT HD HL1 HM1⟩
  have h1' : (look q d.held).isSome = false := by simpa using h1
  obtain ⟨e1, e2⟩ : look q hvs = none ∧ look q d.held = none := by
    rcases hlook with e | ⟨u, b, -, e, -⟩
    · exact e
    · rw [e] at h1'; cases h1'
  rw [e1] at hlk
  by_cases h2 : q ≤ d.upto
  · have t1 : decide ((q : Int) ≤ (d.upto : Int)) = true := decide_eq_true (by omega)
    have t2 : decide (q ≤ d.upto) = true := decide_eq_true h2
    have HT : Hid (takeL d q bs = []) := hid (by unfold takeL; rw [if_pos (.inr (.inl h2))])
    have HD : Hid (takeD d q bs = { d with owes := true }) := hid (by unfold takeD; rw [if_pos (.inr (.inl h2))])
    have HL1 := hid hL1
    have HM1 := hid hM1
    clear hL1 hM1 hmap hhl2 hlook h1 h1' h2 e1 e2 h
    go_enter Try.func36, Try.ntmps36
    go_wp2_with fail
    go_ret
    exact ⟨_, rfl, [], take_no HI HT HD HL1 HM1⟩
  have t1 : decide ((q : Int) ≤ (d.upto : Int)) = false := decide_eq_false (by omega)
  have t2 : decide (q ≤ d.upto) = false := decide_eq_false h2
  have i1 : IntKind.u64.wrap ((q : Int) - (d.upto : Int)) = (q : Int) - (d.upto : Int) := by rw [IntKind.wrap_u64]; omega
  by_cases h3 : 16 < q - d.upto
  · have t3 : decide ((q : Int) - (d.upto : Int) > 16) = true := decide_eq_true (by omega)
    have t4 : decide (16 < (q : Int) - (d.upto : Int)) = true := decide_eq_true (by omega)
    have HT : Hid (takeL d q bs = []) := hid (by unfold takeL; rw [if_pos (.inr (.inr h3))])
    have HD : Hid (takeD d q bs = { d with owes := true }) := hid (by unfold takeD; rw [if_pos (.inr (.inr h3))])
    have HL1 := hid hL1
    have HM1 := hid hM1
    clear hL1 hM1 hmap hhl2 hlook h1 h1' h2 h3 e1 e2 h
    go_enter Try.func36, Try.ntmps36
    go_wp2_with fail
    go_ret
    exact ⟨_, rfl, [], take_no HI HT HD HL1 HM1⟩
  have t3 : decide ((q : Int) - (d.upto : Int) > 16) = false := decide_eq_false (by omega)
  have t4 : decide (16 < (q : Int) - (d.upto : Int)) = false := decide_eq_false (by omega)
  have hno : ¬ takeNo d q := fun e => by
    rcases e with e | e | e
    · exact h1 e
    · exact h2 e
    · exact h3 e
  have HT : Hid (takeL d q bs = (takeT d q bs).1) := hid (by unfold takeL; rw [if_neg hno])
  have HD : Hid (takeD d q bs = { d with owes := true, upto := (takeT d q bs).2.1, held := (takeT d q bs).2.2 }) := hid (by unfold takeD; rw [if_neg hno])
  have hr1 : ByteRow W1.drew ba bs := (hr.mutT hM1 fun b off e1 e2 e3 => hbl b off e1 e2 (.inl e3)).ext (Below.refl _ _).drew
  have CL := hid (cloneB_any (c := bc) hn hnl hr1)
  have hmd : MapIs W1.drew p.hm ke64 (fun v : Value => v) hvs := hmap.ext (Below.refl _ _).drew
  have HUP : Hid (∀ w2 u, Below W1.drew.heap.size W1.drew w2 → OwnB w2 W1.drew.heap.size u bs → ∃ w3, (Instr.mapUpdate 79 (.map (some p.hm)) (.int .u64 q) u).run Try.prog w2 = .ok () w3 ∧ LnkIs w3 N p { d with owes := true, held := ins q bs d.held } ∧ Mut (fpL p) w w3 ∧ w2.cell? ⟨p.lb, 2, none⟩ = some (.map (some p.hm)) ∧ w3.cell? ⟨p.lb, 2, none⟩ = some (.map (some p.hm))) := hid fun w2 u hb2 hu => by
    have hbb : Below W1.heap.size W1 w2 := (Below.refl _ _).drew.trans hb2
    obtain ⟨w3, hrun, hM3, hbut⟩ := (hmap.ext hbb).update key64_t Try.underlying79 q u
    have hL2 := hL1.ext hbb
    have hz := hM1.size
    have hi : ItemAt w2 N u bs := ItemAt.own hu hx fun b h1 _ e => by
      have := hN b e
      have h1 : W1.heap.size ≤ b := h1
      omega
    have hmb : Mut (fun b => b = p.hm) w2 w3 := Mut.of_but hbut rfl
    have hGh : ∀ b, b < w2.heap.size → b = p.hm → N b := fun b _ e => by rw [e]; exact hL1.nh
    have hLx := hL2.hold hbut ⟨_, hM3, ((hhl2.mono fun u b e => e.ext1 hbb).ins q hi).mono fun u b e => e.mut hmb hGh⟩
    refine ⟨w3, hrun, hLx, ((hM1.mono fun b _ e => .inl e).trans (Mut.of_below hbb)).trans (hmb.mono fun b _ e => .inr (.inr (.inl e))), hL2.box.c2, hLx.box.c2⟩
  have HCD : Hid (W1.drew.cell? ⟨p.lb, 2, none⟩ = some (.map (some p.hm))) := hid c2
  have HLN : Hid ((ins q bs d.held).length = d.held.length + 1) := hid (by rw [ins_none e2]; simp)
  have HBU := hid hu
  have HHL := hid hhl
  have HNN := hid hN
  clear hL1 hM1 hmap hmd hhl2 hlook h1 h1' h2 h3 e1 e2 h hno hr1 hr hbl hx hu hhl hN
  go_enter Try.func36, Try.ntmps36
  go_upto_region 7 with fail
  clear t1 t2 t3 t4 hlk c1 c2 c3 f3 i1 hW1
  go_cut [50] (fun _ wx => Hid (LnkIs wx N p { d with owes := true, held := ins q bs d.held }) ∧ Hid (Mut (fpL p) w wx))
  case first =>
    go_region_held3 (fun W => W.cell? ⟨p.lb, 2, none⟩ = some (.map (some p.hm))) (first | exact HCD.out | assumption) (first | (go_at_call 51; refine (CL.out).mono ?_; rintro e w2 ⟨u, rfl, hown, hb2⟩; obtain ⟨ua, uc, ue, -, -⟩ := id hown.row; rw [hn.out] at ue; subst ue; obtain ⟨w3, hrun, hL3, hM3, hc2, hc3⟩ := HUP.out w2 _ hb2 hown))
    go_wp2_with fail
    go_meet
    exact ⟨hid hL3, hid hM3⟩
  case rest =>
    obtain ⟨HL, HM⟩ := hcut
    rename World => wx
    have HLT : Hid (∀ b, fpL p b → b < wx.heap.size) := hid HL.out.fplt
    clear HUP HCD CL hn hnl
    have HI0 : Hid (TakeI w wx wx N p d (d.held.length + 1 + 1) (takeT d q bs) (.slice none 0 0) [] [] d.upto (ins q bs d.held) (d.held.length + 1 + 1)) := hid ⟨RowO.nil _ _, ItemsAt.nil _ _, HL.out.less (fun b e => .inl (HL.out.fp b e)) (fun b e => e), Mut.refl _ _, rfl, rfl, by rw [HLN.out]; omega, by have := HLN.out; have := HBU.out; omega, by have := HHL.out; omega⟩
    go_wp2_with fail
    go_loopw [9] (fun v wr => ∃ (us : List Value) (ls : List (List Nat)) (u : Nat) (H : List (Nat × List Nat)) (f : Nat), Hid (TakeI w wx wr N p d (d.held.length + 1 + 1) (takeT d q bs) v us ls u H f) ∧ slLen v = us.length) (fun v _ => d.held.length + 2 - slLen v)
    case atStart => exact ⟨[], [], d.upto, _, _, HI0, rfl⟩
    case round =>
      obtain ⟨us, ls, u, H, f, HT1, hsl⟩ := hrel
      obtain ⟨a, c, e, -⟩ := HT1.out.row.sli
      obtain ⟨m, hm⟩ : ∃ m, us.length = m := ⟨_, rfl⟩
      rw [hm] at e hsl
      subst e
      have c1 := HT1.out.is.box.c1
      have c2 := HT1.out.is.box.c2
      have f1 := HT1.out.is.box.f 1
      obtain ⟨hvs, hmap, hhl2⟩ := id HT1.out.is.held
      have hlook := hhl2.look (u + 1)
      have iw : IntKind.u64.wrap ((u : Int) + 1) = (u : Int) + 1 := by have := HT1.out.ub; rw [IntKind.wrap_u64]; omega
      have c1' : wr.cell? ⟨p.lb, 1, none⟩ = some (.int .u64 (u : Int)) := c1
      have c2' : wr.cell? ⟨p.lb, 2, none⟩ = some (.map (some p.hm)) := c2
      rcases hlook with ⟨e1, e2⟩ | ⟨x, b, e1, e2, hxb⟩
      · have hlk : ∀ W, MapIs W p.hm ke64 (fun v : Value => v) hvs → (Instr.lookup 79 (.map (some p.hm)) (.int .u64 (IntKind.u64.wrap ((u : Int) + 1))) true).run Try.prog W = .ok (.tuple #[.slice none 0 0, .bool false]) W := fun W hM => by
          have := hM.lookup_ok key64_t Try.underlying79 (zeroBs W) (u + 1)
          rw [e1] at this
          rw [iw]
          exact this
        have hmd : MapIs wr.drew p.hm ke64 (fun v : Value => v) hvs := hmap.ext (Below.refl _ _).drew
        have HE2 := hid e2
        clear hmap hhl2 e1 e2 c1 c2 iw
        go_wp2_with fail
        go_region_held3 (fun W => MapIs W p.hm ke64 (fun v : Value => v) hvs ∧ W.cell? ⟨p.lb, 1, none⟩ = some (.int .u64 (u : Int)) ∧ W.cell? ⟨p.lb, 2, none⟩ = some (.map (some p.hm))) (first | exact ⟨hmd, c1', c2'⟩) (fail)
        go_wp2_with fail
        go_ret
        exact ⟨.slice a m c, rfl, us, take_end HI HT HD HM (hid (HT1.out.ext (Below.refl _ _).drew)) HE2 HNN⟩
      · obtain ⟨xa, xc, hxe, -⟩ := id hxb
        obtain ⟨xn, hxn⟩ : ∃ xn, b.length = xn := ⟨_, rfl⟩
        rw [hxn] at hxe
        subst hxe
        have hlk : ∀ W, MapIs W p.hm ke64 (fun v : Value => v) hvs → (Instr.lookup 79 (.map (some p.hm)) (.int .u64 (IntKind.u64.wrap ((u : Int) + 1))) true).run Try.prog W = .ok (.tuple #[.slice xa xn xc, .bool true]) W := fun W hM => by
          have := hM.lookup_ok key64_t Try.underlying79 (zeroBs W) (u + 1)
          rw [e1] at this
          rw [iw]
          exact this
        have hmd : MapIs wr.drew p.hm ke64 (fun v : Value => v) hvs := hmap.ext (Below.refl _ _).drew
        have HE2 := hid e2
        have HIW := hid iw
        clear hmap hhl2 e1 e2 c1 c2 iw
        go_wp2_with fail
        go_region_held3 (fun W => MapIs W p.hm ke64 (fun v : Value => v) hvs ∧ W.cell? ⟨p.lb, 1, none⟩ = some (.int .u64 (u : Int)) ∧ W.cell? ⟨p.lb, 2, none⟩ = some (.map (some p.hm))) (first | exact ⟨hmd, c1', c2'⟩) (fail)
        have iw := HIW.out
        obtain ⟨hL2, hM2⟩ := (HT1.out.is.ext (Below.refl _ _).drew).upto (u + 1) (by have := HT1.out.ub; omega)
        obtain ⟨W2, hW2⟩ : ∃ W2, wr.drew.setCell ⟨p.lb, 1, none⟩ (.int .u64 ((u : Int) + 1)) = W2 := ⟨_, rfl⟩
        have hW2' : wr.drew.setCell ⟨p.lb, 1, none⟩ (.int .u64 ((u + 1 : Nat) : Int)) = W2 := hW2
        rw [hW2'] at hL2 hM2
        have hL3 := hL2.ext (Below.refl _ _).drew
        obtain ⟨hvs2, hmap2, hhl3⟩ := id hL3.held
        obtain ⟨w3, hrun, hM3, hbut⟩ := hmap2.delete key64_t Try.underlying79 (u + 1)
        have hrun2 : ∀ ty, (Builtin.delete_ #[79, 39] ty #[.map (some p.hm), .int .u64 ((u : Int) + 1)]).run Try.prog W2.drew = .ok (.tuple #[]) w3 := hrun
        have hmb : Mut (fun b => b = p.hm) W2.drew w3 := Mut.of_but hbut rfl
        have hL4 := hL3.hold hbut ⟨_, hM3, (hhl3.mono fun u b e => e.mut hmb fun b _ e => by rw [show b = p.hm from e]; exact hL3.nh).del (u + 1)⟩
        have k1 : W2.drew.cell? ⟨p.lb, 1, none⟩ = some (.int .u64 ((u : Int) + 1)) := hL3.box.c1
        have k2 := hL3.box.c2
        have k3 : w3.cell? ⟨p.lb, 1, none⟩ = some (.int .u64 ((u : Int) + 1)) := hL4.box.c1
        have k4 := hL4.box.c2
        have hr3 : RowO w3 wx.heap.size (.slice a m c) us := by
          refine ((HT1.out.row.ext (Below.refl _ _).drew).mutN hM2 fun g e e2 => ?_).ext (Below.refl _ _).drew |>.mutN hmb fun g e e2 => ?_
          · have h1 := (HT1.out.row.blk e).1
            have h2 := HLT.out p.lb (.inl rfl)
            have e2 : g = p.lb := e2
            omega
          · have h1 := (HT1.out.row.blk e).1
            have h2 := HLT.out p.hm (.inr (.inr (.inl rfl)))
            have e2 : g = p.hm := e2
            omega
        have hz3 : wx.heap.size ≤ w3.heap.size := by
          have h1 := HT1.out.mt.size
          have h2 := hM2.size
          have h3 := hmb.size
          simp at h2 h3
          omega
        have HR3 := hid hr3
        have HZ3 := hid hz3
        have HM2 := hid hM2
        have HBUT := hid hbut
        have HL4 := hid hL4
        have HXB := hid hxb
        have hx1 : (Value.slice xa xn xc).oneCell' = true := rfl
        have HX1 := hid hx1
        have HUL : Hid (us.length + 1 ≤ 1000000) := hid (by have h1 := HT1.out.fl; have h2 := HT1.out.hf; have h3 := HT1.out.fb; omega)
        clear hmap2 hhl3 hr3 hz3 hM2 hbut hmb hL4 hL3 hL2 hxb hx1 hM3 hrun
        go_upto_region 13 with fail
        clear hW2 hW2'
        go_region_held3 (fun W => W.cell? ⟨p.lb, 1, none⟩ = some (.int .u64 ((u : Int) + 1)) ∧ W.cell? ⟨p.lb, 2, none⟩ = some (.map (some p.hm))) (first | exact ⟨k1, k2⟩ | exact ⟨k3, k4⟩) (fail)
        go_wp2_with (at_builtin; refine wpList_appendO (base := wx.heap.size) (b := w3.heap.size) (ob := 0) (u := .slice xa xn xc) (xs := us) (HR3.out.ext ((Below.refl _ _).alloc (Nat.le_refl _) _)) (by simp) HX1.out HUL.out (by have := HZ3.out; simp; omega) rfl rfl rfl rfl ?_; intro v4 w4 hrow4 hm4 hn4)
        obtain ⟨f', HF⟩ := take_step HT1.out HE2.out HXB.out (fun b e => Nat.lt_of_lt_of_le (HNN.out b e) HM.out.size) HI.out.fp HM2.out HBUT.out HL4.out hrow4 hm4
        obtain ⟨a4, c4, e4, -⟩ := hrow4.sli
        have hsl4 : slLen v4 = m + 1 := by rw [e4]; simp [slLen, hm]
        have hmF : m + 1 ≤ d.held.length + 1 + 1 := by have := HF.fl; simp [hm] at this; omega
        refine ⟨⟨us ++ [.slice xa xn xc], ls ++ [b], u + 1, del (u + 1) H, f', hid HF, by rw [hsl4]; simp [hm]⟩, ?_⟩
        rw [hsl4, hsl]
        omega
end Go.Proofs.Ytidohmpnefcpcaa

