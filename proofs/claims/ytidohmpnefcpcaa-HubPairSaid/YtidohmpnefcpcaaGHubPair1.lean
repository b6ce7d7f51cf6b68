/- Parts of the proof: K4 K5 K6. -/
import Derived.Test.YtidohmpnefcpcaaGHubPair0
namespace Go.Proofs.Ytidohmpnefcpcaa
open Go.RowKit
/-! ### window: Put -/
def putC (d : SndD) (bs : List Nat) : Int := if 4096 < bs.length then 3 else if 128 ≤ d.wait.length then 13 else 0
def putD (d : SndD) (bs : List Nat) : SndD := if 4096 < bs.length then d else if 128 ≤ d.wait.length then d else { d with wait := d.wait ++ [bs] }
theorem infoBs : (Try.prog.info? 32).map (fun i => (i.zero, i.size, i.bytes)) = some (some (.slice none 0 0), 1, 24) := by kernel_rfl
/-- append of a text at an operation of a region that draws -/
theorem step_appendO {w : World} {o : Oper} {a : Go.Act} {K : Go.Act → World → Prop} {Q : Exit → Go.Act → World → Prop} {y : Nat → Option Bool} {s x : Operand} {base : Nat} {v u : Value} {xs : List Value} {b ob c : Nat} (hw : Region.wanted o y = true) (hown : RowO w base v xs) (hu : w.cell? ⟨b, ob, none⟩ = some u) (h1 : u.oneCell' = true)
    (hl : xs.length + 1 ≤ 1000000) (hbase : base ≤ w.heap.size)
    (ho : o.op = .call { callee := .builtin .append, args := #[s, x], argTypes := #[22, 22] }) (hs : a.eval s = v) (hx : a.eval x = .slice (some ⟨b, ob, none⟩) 1 c)
    (h : ∀ v' w', RowO w' base v' (xs ++ [u]) → Mut (fun g => v.ownBlock = some g) w w' → (∀ g, v'.ownBlock = some g → v.ownBlock = some g ∨ w.heap.size ≤ g) → K (a.put o.dst v') w') : if Region.wanted o y = true then Oper.wp Try.prog o a w K Q else K (a.put o.dst undef) w := by
  rw [if_pos hw]
  obtain ⟨i0, hi, hz0, hz1, hz2⟩ := info_parts infoBs
  obtain ⟨v', w', hr, h2, h3, h4⟩ := hown.append (c := c) 22 o.type 32 i0 _ 24 Try.underlying22 hi hz0 hz1 hz2 rfl hu h1 hl (by decide) hbase
  exact Lib.wp_append_run w s x 22 22 ho _ _ hs hx v' w' hr (h v' w' h2 h3 h4)
/-- what Put leaves -/
structure PutR (w w' : World) (N : Nat → Prop) (s : Nat) (wv : Value) (d : SndD) (wv' : Value) : Prop where
  is : ∃ us', SndIs w' (fun b => N b ∨ wv'.ownBlock = some b) s wv' us' d
  new : ∀ g, wv'.ownBlock = some g → wv.ownBlock = some g ∨ w.heap.size ≤ g
  mt : Mut (fpS s wv) w w'
theorem PutR.same {w w' : World} {N : Nat → Prop} {s : Nat} {wv : Value} {us : List Value} {d : SndD} (h : SndIs w N s wv us d) (hb : Below w.heap.size w w') : PutR w w' N s wv d wv :=
  ⟨⟨us, (h.ext hb).grow (fun b e => .inl e) fun b e => .inl (e.elim id fun e => (h.nw b e).1)⟩, fun g e => .inl e, Mut.of_below hb⟩
theorem PutR.put {w w2 w3 w4 : World} {N : Nat → Prop} {s : Nat} {wv wv' u : Value} {us : List Value} {d : SndD} {bs : List Nat} (h : SndIs w N s wv us d) (hN : ∀ b, N b → b < w.heap.size) (hb2 : Below w.heap.size w w2) (hu : OwnB w2 w.heap.size u bs) (hx : ∀ x ∈ bs, x < 256) (hb3 : Below w2.heap.size w2 w3) (hrow : RowO w4 0 wv' (us ++ [u])) (hm : Mut (fun g => wv.ownBlock = some g) w3 w4) (hnew : ∀ g, wv'.ownBlock = some g → wv.ownBlock = some g ∨ w3.heap.size ≤ g) (hl : d.wait.length < 128) :
    PutR w (w4.setCell ⟨s, 1, none⟩ wv') N s wv { d with wait := d.wait ++ [bs] } wv' ∧ w4.cell? ⟨s, 1, none⟩ = some wv ∧ w4.frozen? ⟨s, 1, none⟩ = false := by
  have hs23 := hb3.size
  have hs12 := hb2.size
  have hbb : Below w.heap.size w w3 := hb2.trans (hb3.mono hs12)
  have hm4 : Mut (fun g => wv.ownBlock = some g) w w4 := (Mut.of_below hbb).trans ⟨hm.os, hm.tape, hm.output, hm.size, hm.block⟩
  have hsl := h.box.lt
  have hsn : ¬ (wv.ownBlock = some s) := fun e => (h.nw s e).2 rfl
  have hbox := h.box.mut hm4 hsn
  have hms : Mut (fun k => k = s) w4 (w4.setCell ⟨s, 1, none⟩ wv') := mut1
  have hmN : Mut (fpS s wv) w (w4.setCell ⟨s, 1, none⟩ wv') := (hm4.mono fun k _ e => .inr e).trans (hms.mono fun k _ e => .inl e)
  have hNb : ∀ b, fpS s wv b → N b := fun b e => by
    rcases e with e | e
    · rw [e]; exact h.ns
    · exact (h.nw b e).1
  have hnw : ∀ g, wv'.ownBlock = some g → wv.ownBlock = some g ∨ w.heap.size ≤ g := fun g e => (hnew g e).imp id (fun h => by omega)
  have hit : ItemsAt (w4.setCell ⟨s, 1, none⟩ wv') (fun b => N b ∨ wv'.ownBlock = some b) us d.wait := by
    refine ItemsAt.mut (w := w) (G := fpS s wv) (h.it.grow fun b e => ?_) hmN fun b _ e => .inl (hNb b e)
    rcases e with e | e
    · exact .inl e
    · rcases hnw b e with e | e
      · exact .inl (h.nw b e).1
      · exact .inr e
  have hi2 : ItemAt w2 (fun b => N b ∨ wv'.ownBlock = some b) u bs := ItemAt.own hu hx fun b h1 h2 e => by
    rcases e with e | e
    · have := hN b e; omega
    · rcases hnew b e with e | e
      · have := hN b (h.nw b e).1; omega
      · omega
  have hi4 : ItemAt (w4.setCell ⟨s, 1, none⟩ wv') (fun b => N b ∨ wv'.ownBlock = some b) u bs := by
    have h3 := hi2.mut (Mut.of_below (F := fun _ => False) hb3) fun b _ e => e.elim
    have hm34 : Mut (fpS s wv) w3 (w4.setCell ⟨s, 1, none⟩ wv') := (hm.mono fun k _ e => .inr e).trans (hms.mono fun k _ e => .inl e)
    exact h3.mut hm34 fun b _ e => .inl (hNb b e)
  refine ⟨⟨⟨us ++ [u], hbox.set1 _, hrow.mutN hms fun g e => fun e2 => ?_, hit.snoc hi4, .inl h.ns, fun g e => ⟨.inr e, ?_⟩, h.b0, h.b2, h.b3, h.b4, h.b5, by show (d.wait ++ [bs]).length ≤ 128; simp; omega⟩, hnw, hmN⟩, hbox.c1, hbox.f 1⟩
  · have e2 : g = s := e2
    rcases hnw g e with e | e
    · exact (h.nw g e).2 e2
    · omega
  · rcases hnw g e with e | e
    · exact (h.nw g e).2
    · omega
set_option maxRecDepth 100000 in
set_option maxHeartbeats 6400000 in
theorem wput_any {w : World} {N : Nat → Prop} {s : Nat} {wv : Value} {us : List Value} {d : SndD} {ba : Option Addr} {bc n : Nat} {bs : List Nat} (h : SndIs w N s wv us d) (hN : ∀ b, N b → b < w.heap.size) (hn : Hid (bs.length = n)) (hnl : n ≤ 549755813888) (hr : ByteRow w ba bs) (hx : ∀ x ∈ bs, x < 256) :
    Calls Try.prog 31 #[.pointer (some ⟨s, 0, none⟩), .slice ba n bc] w fun e w' => ∃ wv', e = .returned (.int .i64 (putC d bs)) ∧ PutR w w' N s wv (putD d bs) wv' := by
  obtain ⟨a, c, hlit, -⟩ := h.lit
  subst hlit
  have c1 := h.box.c1
  obtain ⟨m, hm⟩ : ∃ m, d.wait.length = m := ⟨_, rfl⟩
  rw [hm] at c1
  by_cases h1 : 4096 < n
  · have t1 : decide ((n : Int) > 4096) = true := decide_eq_true (by omega)
    have t2 : decide (4096 < (n : Int)) = true := decide_eq_true (by omega)
    have t3 : decide (4096 < n) = true := decide_eq_true h1
    have HC : Hid (putC d bs = 3) := hid (by unfold putC; rw [hn.out, if_pos h1])
    have HD : Hid (putD d bs = d) := hid (by unfold putD; rw [hn.out, if_pos h1])
    have HR := hid (PutR.same h (Below.refl _ _))
    clear h hr
    go_enter Try.func31, Try.ntmps31
    go_wp2_with fail
    go_ret
    exact ⟨_, by rw [HC.out]; rfl, by rw [HD.out]; exact HR.out⟩
  have t1 : decide ((n : Int) > 4096) = false := decide_eq_false (by omega)
  have t2 : decide (4096 < (n : Int)) = false := decide_eq_false (by omega)
  have t3 : decide (4096 < n) = false := decide_eq_false h1
  by_cases h2 : 128 ≤ m
  · have s1 : decide ((m : Int) ≥ 128) = true := decide_eq_true (by omega)
    have s2 : decide (128 ≤ (m : Int)) = true := decide_eq_true (by omega)
    have s3 : decide (128 ≤ m) = true := decide_eq_true h2
    have HC : Hid (putC d bs = 13) := hid (by unfold putC; rw [hn.out, if_neg h1, hm, if_pos h2])
    have HD : Hid (putD d bs = d) := hid (by unfold putD; rw [hn.out, if_neg h1, hm, if_pos h2])
    have HR := hid (PutR.same h (Below.refl _ _))
    clear h hr
    go_enter Try.func31, Try.ntmps31
    go_wp2_with fail
    go_ret
    exact ⟨_, by rw [HC.out]; rfl, by rw [HD.out]; exact HR.out⟩
  have s1 : decide ((m : Int) ≥ 128) = false := decide_eq_false (by omega)
  have s2 : decide (128 ≤ (m : Int)) = false := decide_eq_false (by omega)
  have s3 : decide (128 ≤ m) = false := decide_eq_false h2
  have HC : Hid (putC d bs = 0) := hid (by unfold putC; rw [hn.out, if_neg h1, hm, if_neg h2])
  have HD : Hid (putD d bs = { d with wait := d.wait ++ [bs] }) := hid (by unfold putD; rw [hn.out, if_neg h1, hm, if_neg h2])
  have CL := hid (cloneB_any (c := bc) hn hnl (show ByteRow w.drew ba bs from hr.ext (Below.refl _ _).drew))
  have HI := hid h
  have HNN := hid hN
  have HXX := hid hx
  have HM : Hid (d.wait.length < 128) := hid (by omega)
  have HUL : Hid (us.length + 1 ≤ 1000000) := hid (by rw [h.it.1]; omega)
  have HCD : Hid (w.drew.cell? ⟨s, 1, none⟩ = some (.slice a m c)) := hid c1
  rw [hm] at HI
  have HMM := hid hm
  clear h hr hm h1 h2 hN hx
  go_enter Try.func31, Try.ntmps31
  go_upto_region 7 with fail
  clear t1 t2 t3 s1 s2 s3
  go_cut [19] (fun t wx => ∃ wv', PutR w wx N s (.slice a m c) (putD d bs) wv')
  case first =>
    refine wp_region_held_drew (S := fun _ => True) (by kernel_rfl) (trivial) (fun hHeld => ?_)
    refine wpAnyH_take (i := 0) (oi := _) (v := .pointer (some ⟨s, 0, none⟩)) rfl (by kernel_rfl) (by kernel_rfl) (by kernel_rfl) (fun _ _ _ h => h) (Or.inl ⟨by rfl, ?_⟩) (by assumption) ?_
    · intro W hSw
      try dsimp only at hSw
      go_simp
    try simp only [Act.put, List.getElem_toArray, List.getElem_cons_succ, List.getElem_cons_zero, List.setIfInBounds_toArray, List.set_cons_zero, List.set_cons_succ]
    refine wpAnyH_take (i := 1) (oi := _) (v := .pointer (some ⟨s, 0, none⟩)) rfl (by kernel_rfl) (by kernel_rfl) (by kernel_rfl) (fun _ _ _ h => h) (Or.inl ⟨by rfl, ?_⟩) (by assumption) ?_
    · intro W hSw
      try dsimp only at hSw
      go_simp
    try simp only [Act.put, List.getElem_toArray, List.getElem_cons_succ, List.getElem_cons_zero, List.setIfInBounds_toArray, List.set_cons_zero, List.set_cons_succ]
    refine wpAnyH_take (i := 2) (oi := _) (v := .pointer (some ⟨s, 0, none⟩)) rfl (by kernel_rfl) (by kernel_rfl) (by kernel_rfl) (fun _ _ _ h => h) (Or.inl ⟨by rfl, ?_⟩) (by assumption) ?_
    · intro W hSw
      try dsimp only at hSw
      go_simp
    try simp only [Act.put, List.getElem_toArray, List.getElem_cons_succ, List.getElem_cons_zero, List.setIfInBounds_toArray, List.set_cons_zero, List.set_cons_succ]
    refine wpAnyH_take (i := 3) (oi := _) (v := .pointer (some ⟨s, 1, none⟩)) rfl (by kernel_rfl) (by kernel_rfl) (by kernel_rfl) (fun _ _ _ h => h) (Or.inl ⟨by rfl, ?_⟩) (by assumption) ?_
    · intro W hSw
      try dsimp only at hSw
      go_simp
    try simp only [Act.put, List.getElem_toArray, List.getElem_cons_succ, List.getElem_cons_zero, List.setIfInBounds_toArray, List.set_cons_zero, List.set_cons_succ]
    refine wpAnyH_take (i := 5) (oi := _) (v := .slice ba n bc) rfl (by kernel_rfl) (by kernel_rfl) (by kernel_rfl) (fun _ _ _ h => h) (Or.inl ⟨by rfl, ?_⟩) (by assumption) ?_
    · intro W hSw
      try dsimp only at hSw
      go_simp
    try simp only [Act.put, List.getElem_toArray, List.getElem_cons_succ, List.getElem_cons_zero, List.setIfInBounds_toArray, List.set_cons_zero, List.set_cons_succ]
    refine wpAnyH_ready (rs := [4, 6]) (by kernel_rfl) (by simp) ?_
    refine AllReadyH.cons (o := _) rfl (fun K hK => ?_) (AllReadyH.cons (o := _) rfl (fun K hK => ?_) AllReadyH.nil)
    · have hcd := HCD.out
      go_simp
      refine hK.out _ _ (trivial) (fun hHeld => ?_)
      clear hK K
      try simp only [Act.put, List.getElem_toArray, List.getElem_cons_succ, List.getElem_cons_zero, List.setIfInBounds_toArray, List.set_cons_zero, List.set_cons_succ]
      refine wpAnyH_ready (rs := [6]) (by kernel_rfl) (by simp) ?_
      refine AllReadyH.cons (o := _) rfl (fun K hK => ?_) AllReadyH.nil
      go_simp
      (refine CL.out.mono ?_)
      rintro e w2 ⟨u, rfl, hown, hb2⟩
      have hb2' : Below w.heap.size w w2 := (Below.refl _ _).drew.trans hb2
      obtain ⟨ua, uc, ue, -, -⟩ := id hown.row
      rw [hn.out] at ue
      subst ue
      have HU : Hid (OwnB w2 w.heap.size (.slice ua n uc) bs) := hid hown
      have HB2 := hid hb2'
      have HCE : Hid (w2.cell? ⟨s, 1, none⟩ = some (.slice a m c)) := hid ((hb2'.cell (by exact HI.out.box.lt)).trans HCD.out)
      have HUO : Hid ((Value.slice ua n uc).oneCell' = true) := hid rfl
      clear hown hb2 hb2'
      refine hK.out _ _ (trivial) (fun hHeld => ?_)
      clear hK K
      try simp only [Act.put, List.getElem_toArray, List.getElem_cons_succ, List.getElem_cons_zero, List.setIfInBounds_toArray, List.set_cons_zero, List.set_cons_succ]
      refine wpAnyH_ready (rs := [7]) (by kernel_rfl) (by simp) ?_
      refine AllReadyH.cons (o := _) rfl (fun K hK => ?_) AllReadyH.nil
      go_simp
      obtain ⟨w3, hw3⟩ : ∃ w3, w2.alloc (.cells #[.slice ua n uc] 32) = w3 := ⟨_, rfl⟩
      rw [hw3]
      have hb3 : Below w2.heap.size w2 w3 := by rw [← hw3]; exact (Below.refl _ _).alloc (Nat.le_refl _) _
      have HB3 := hid hb3
      have HCU : Hid (w3.cell? ⟨w2.heap.size, 0, none⟩ = some (.slice ua n uc)) := hid (by rw [← hw3]; simp)
      have HRO : Hid (RowO w3 0 (.slice a m c) us) := hid (HI.out.row.ext (HB2.out.trans (hb3.mono HB2.out.size)))
      have HCF : Hid (w3.cell? ⟨s, 1, none⟩ = some (.slice a m c)) := hid ((hb3.cell (by exact World.block_lt_of_cell? w2 _ HCE.out)).trans HCE.out)
      clear hb3 hw3
      refine hK.out _ _ (trivial) (fun hHeld => ?_)
      clear hK K
      try simp only [Act.put, List.getElem_toArray, List.getElem_cons_succ, List.getElem_cons_zero, List.setIfInBounds_toArray, List.set_cons_zero, List.set_cons_succ]
      refine wpAnyH_ready (rs := [8]) (by kernel_rfl) (by simp) ?_
      refine AllReadyH.cons (o := _) rfl (fun K hK => ?_) AllReadyH.nil
      refine step_appendO (by rfl) HRO.out HCU.out HUO.out HUL.out (Nat.zero_le _) rfl rfl rfl ?_
      intro v8 w8 hrow8 hm8 hn8
      obtain ⟨a8, c8, e8, -⟩ := hrow8.sli
      obtain ⟨n8, hn8'⟩ : ∃ n8, (us ++ [Value.slice ua n uc]).length = n8 := ⟨_, rfl⟩
      rw [hn8'] at e8
      subst e8
      have hpp := PutR.put HI.out HNN.out HB2.out HU.out HXX.out HB3.out hrow8 hm8 hn8 HM.out
      have k8 := hpp.2.1
      have f8 := hpp.2.2
      have HPP := hid hpp.1
      clear hrow8 hm8 hn8 hn8' hpp
      refine hK.out _ _ (trivial) (fun hHeld => ?_)
      clear hK K
      try simp only [Act.put, List.getElem_toArray, List.getElem_cons_succ, List.getElem_cons_zero, List.setIfInBounds_toArray, List.set_cons_zero, List.set_cons_succ]
      refine wpAnyH_ready (rs := [9]) (by kernel_rfl) (by simp) ?_
      refine AllReadyH.cons (o := _) rfl (fun K hK => ?_) AllReadyH.nil
      go_simp
      refine hK.out _ _ (trivial) (fun hHeld => ?_)
      clear hK K
      try simp only [Act.put, List.getElem_toArray, List.getElem_cons_succ, List.getElem_cons_zero, List.setIfInBounds_toArray, List.set_cons_zero, List.set_cons_succ]
      refine wpAnyH_ready (rs := [10]) (by kernel_rfl) (by simp) ?_
      refine AllReadyH.cons (o := _) rfl (fun K hK => ?_) AllReadyH.nil
      go_simp
      refine hK.out _ _ (trivial) (fun hHeld => ?_)
      clear hK K
      try simp only [Act.put, List.getElem_toArray, List.getElem_cons_succ, List.getElem_cons_zero, List.setIfInBounds_toArray, List.set_cons_zero, List.set_cons_succ]
      refine wpAnyH_ready (rs := [11]) (by kernel_rfl) (by simp) ?_
      refine AllReadyH.cons (o := _) rfl (fun K hK => ?_) AllReadyH.nil
      go_simp
      refine hK.out _ _ (trivial) (fun hHeld => ?_)
      clear hK K
      try simp only [Act.put, List.getElem_toArray, List.getElem_cons_succ, List.getElem_cons_zero, List.setIfInBounds_toArray, List.set_cons_zero, List.set_cons_succ]
      refine wpAnyH_done (by kernel_rfl) ?_ _
      go_wp2_with fail
      go_meet
      exact ⟨_, by rw [HD.out]; exact HPP.out⟩
    · go_simp
      (refine CL.out.mono ?_)
      rintro e w2 ⟨u, rfl, hown, hb2⟩
      have hb2' : Below w.heap.size w w2 := (Below.refl _ _).drew.trans hb2
      obtain ⟨ua, uc, ue, -, -⟩ := id hown.row
      rw [hn.out] at ue
      subst ue
      have HU : Hid (OwnB w2 w.heap.size (.slice ua n uc) bs) := hid hown
      have HB2 := hid hb2'
      have HCE : Hid (w2.cell? ⟨s, 1, none⟩ = some (.slice a m c)) := hid ((hb2'.cell (by exact HI.out.box.lt)).trans HCD.out)
      have HUO : Hid ((Value.slice ua n uc).oneCell' = true) := hid rfl
      clear hown hb2 hb2'
      refine hK.out _ _ (trivial) (fun hHeld => ?_)
      clear hK K
      try simp only [Act.put, List.getElem_toArray, List.getElem_cons_succ, List.getElem_cons_zero, List.setIfInBounds_toArray, List.set_cons_zero, List.set_cons_succ]
      refine wpAnyH_ready (rs := [4, 7]) (by kernel_rfl) (by simp) ?_
      refine AllReadyH.cons (o := _) rfl (fun K hK => ?_) (AllReadyH.cons (o := _) rfl (fun K hK => ?_) AllReadyH.nil)
      · have hce := HCE.out
        go_simp
        clear hce
        refine hK.out _ _ (trivial) (fun hHeld => ?_)
        clear hK K
        try simp only [Act.put, List.getElem_toArray, List.getElem_cons_succ, List.getElem_cons_zero, List.setIfInBounds_toArray, List.set_cons_zero, List.set_cons_succ]
        refine wpAnyH_ready (rs := [7]) (by kernel_rfl) (by simp) ?_
        refine AllReadyH.cons (o := _) rfl (fun K hK => ?_) AllReadyH.nil
        go_simp
        obtain ⟨w3, hw3⟩ : ∃ w3, w2.alloc (.cells #[.slice ua n uc] 32) = w3 := ⟨_, rfl⟩
        rw [hw3]
        have hb3 : Below w2.heap.size w2 w3 := by rw [← hw3]; exact (Below.refl _ _).alloc (Nat.le_refl _) _
        have HB3 := hid hb3
        have HCU : Hid (w3.cell? ⟨w2.heap.size, 0, none⟩ = some (.slice ua n uc)) := hid (by rw [← hw3]; simp)
        have HRO : Hid (RowO w3 0 (.slice a m c) us) := hid (HI.out.row.ext (HB2.out.trans (hb3.mono HB2.out.size)))
        have HCF : Hid (w3.cell? ⟨s, 1, none⟩ = some (.slice a m c)) := hid ((hb3.cell (by exact World.block_lt_of_cell? w2 _ HCE.out)).trans HCE.out)
        clear hb3 hw3
        refine hK.out _ _ (trivial) (fun hHeld => ?_)
        clear hK K
        try simp only [Act.put, List.getElem_toArray, List.getElem_cons_succ, List.getElem_cons_zero, List.setIfInBounds_toArray, List.set_cons_zero, List.set_cons_succ]
        refine wpAnyH_ready (rs := [8]) (by kernel_rfl) (by simp) ?_
        refine AllReadyH.cons (o := _) rfl (fun K hK => ?_) AllReadyH.nil
        refine step_appendO (by rfl) HRO.out HCU.out HUO.out HUL.out (Nat.zero_le _) rfl rfl rfl ?_
        intro v8 w8 hrow8 hm8 hn8
        obtain ⟨a8, c8, e8, -⟩ := hrow8.sli
        obtain ⟨n8, hn8'⟩ : ∃ n8, (us ++ [Value.slice ua n uc]).length = n8 := ⟨_, rfl⟩
        rw [hn8'] at e8
        subst e8
        have hpp := PutR.put HI.out HNN.out HB2.out HU.out HXX.out HB3.out hrow8 hm8 hn8 HM.out
        have k8 := hpp.2.1
        have f8 := hpp.2.2
        have HPP := hid hpp.1
        clear hrow8 hm8 hn8 hn8' hpp
        refine hK.out _ _ (trivial) (fun hHeld => ?_)
        clear hK K
        try simp only [Act.put, List.getElem_toArray, List.getElem_cons_succ, List.getElem_cons_zero, List.setIfInBounds_toArray, List.set_cons_zero, List.set_cons_succ]
        refine wpAnyH_ready (rs := [9]) (by kernel_rfl) (by simp) ?_
        refine AllReadyH.cons (o := _) rfl (fun K hK => ?_) AllReadyH.nil
        go_simp
        refine hK.out _ _ (trivial) (fun hHeld => ?_)
        clear hK K
        try simp only [Act.put, List.getElem_toArray, List.getElem_cons_succ, List.getElem_cons_zero, List.setIfInBounds_toArray, List.set_cons_zero, List.set_cons_succ]
        refine wpAnyH_ready (rs := [10]) (by kernel_rfl) (by simp) ?_
        refine AllReadyH.cons (o := _) rfl (fun K hK => ?_) AllReadyH.nil
        go_simp
        refine hK.out _ _ (trivial) (fun hHeld => ?_)
        clear hK K
        try simp only [Act.put, List.getElem_toArray, List.getElem_cons_succ, List.getElem_cons_zero, List.setIfInBounds_toArray, List.set_cons_zero, List.set_cons_succ]
        refine wpAnyH_ready (rs := [11]) (by kernel_rfl) (by simp) ?_
        refine AllReadyH.cons (o := _) rfl (fun K hK => ?_) AllReadyH.nil
        go_simp
        refine hK.out _ _ (trivial) (fun hHeld => ?_)
        clear hK K
        try simp only [Act.put, List.getElem_toArray, List.getElem_cons_succ, List.getElem_cons_zero, List.setIfInBounds_toArray, List.set_cons_zero, List.set_cons_succ]
        refine wpAnyH_done (by kernel_rfl) ?_ _
        go_wp2_with fail
        go_meet
        exact ⟨_, by rw [HD.out]; exact HPP.out⟩
      · go_simp
        obtain ⟨w3, hw3⟩ : ∃ w3, w2.alloc (.cells #[.slice ua n uc] 32) = w3 := ⟨_, rfl⟩
        rw [hw3]
        have hb3 : Below w2.heap.size w2 w3 := by rw [← hw3]; exact (Below.refl _ _).alloc (Nat.le_refl _) _
        have HB3 := hid hb3
        have HCU : Hid (w3.cell? ⟨w2.heap.size, 0, none⟩ = some (.slice ua n uc)) := hid (by rw [← hw3]; simp)
        have HRO : Hid (RowO w3 0 (.slice a m c) us) := hid (HI.out.row.ext (HB2.out.trans (hb3.mono HB2.out.size)))
        have HCF : Hid (w3.cell? ⟨s, 1, none⟩ = some (.slice a m c)) := hid ((hb3.cell (by exact World.block_lt_of_cell? w2 _ HCE.out)).trans HCE.out)
        clear hb3 hw3
        refine hK.out _ _ (trivial) (fun hHeld => ?_)
        clear hK K
        try simp only [Act.put, List.getElem_toArray, List.getElem_cons_succ, List.getElem_cons_zero, List.setIfInBounds_toArray, List.set_cons_zero, List.set_cons_succ]
        refine wpAnyH_ready (rs := [4]) (by kernel_rfl) (by simp) ?_
        refine AllReadyH.cons (o := _) rfl (fun K hK => ?_) AllReadyH.nil
        have hcf := HCF.out
        go_simp
        clear hcf
        refine hK.out _ _ (trivial) (fun hHeld => ?_)
        clear hK K
        try simp only [Act.put, List.getElem_toArray, List.getElem_cons_succ, List.getElem_cons_zero, List.setIfInBounds_toArray, List.set_cons_zero, List.set_cons_succ]
        refine wpAnyH_ready (rs := [8]) (by kernel_rfl) (by simp) ?_
        refine AllReadyH.cons (o := _) rfl (fun K hK => ?_) AllReadyH.nil
        refine step_appendO (by rfl) HRO.out HCU.out HUO.out HUL.out (Nat.zero_le _) rfl rfl rfl ?_
        intro v8 w8 hrow8 hm8 hn8
        obtain ⟨a8, c8, e8, -⟩ := hrow8.sli
        obtain ⟨n8, hn8'⟩ : ∃ n8, (us ++ [Value.slice ua n uc]).length = n8 := ⟨_, rfl⟩
        rw [hn8'] at e8
        subst e8
        have hpp := PutR.put HI.out HNN.out HB2.out HU.out HXX.out HB3.out hrow8 hm8 hn8 HM.out
        have k8 := hpp.2.1
        have f8 := hpp.2.2
        have HPP := hid hpp.1
        clear hrow8 hm8 hn8 hn8' hpp
        refine hK.out _ _ (trivial) (fun hHeld => ?_)
        clear hK K
        try simp only [Act.put, List.getElem_toArray, List.getElem_cons_succ, List.getElem_cons_zero, List.setIfInBounds_toArray, List.set_cons_zero, List.set_cons_succ]
        refine wpAnyH_ready (rs := [9]) (by kernel_rfl) (by simp) ?_
        refine AllReadyH.cons (o := _) rfl (fun K hK => ?_) AllReadyH.nil
        go_simp
        refine hK.out _ _ (trivial) (fun hHeld => ?_)
        clear hK K
        try simp only [Act.put, List.getElem_toArray, List.getElem_cons_succ, List.getElem_cons_zero, List.setIfInBounds_toArray, List.set_cons_zero, List.set_cons_succ]
        refine wpAnyH_ready (rs := [10]) (by kernel_rfl) (by simp) ?_
        refine AllReadyH.cons (o := _) rfl (fun K hK => ?_) AllReadyH.nil
        go_simp
        refine hK.out _ _ (trivial) (fun hHeld => ?_)
        clear hK K
        try simp only [Act.put, List.getElem_toArray, List.getElem_cons_succ, List.getElem_cons_zero, List.setIfInBounds_toArray, List.set_cons_zero, List.set_cons_succ]
        refine wpAnyH_ready (rs := [11]) (by kernel_rfl) (by simp) ?_
        refine AllReadyH.cons (o := _) rfl (fun K hK => ?_) AllReadyH.nil
        go_simp
        refine hK.out _ _ (trivial) (fun hHeld => ?_)
        clear hK K
        try simp only [Act.put, List.getElem_toArray, List.getElem_cons_succ, List.getElem_cons_zero, List.setIfInBounds_toArray, List.set_cons_zero, List.set_cons_succ]
        refine wpAnyH_done (by kernel_rfl) ?_ _
        go_wp2_with fail
        go_meet
        exact ⟨_, by rw [HD.out]; exact HPP.out⟩
  case rest =>
  obtain ⟨wv', hput⟩ := hcut
  have HP := hid hput
  clear hput
  go_wp2_with fail
  go_ret
  exact ⟨wv', by rw [HC.out]; rfl, by rw [HMM.out]; exact HP.out⟩
end Go.Proofs.Ytidohmpnefcpcaa

namespace Go.Proofs.Ytidohmpnefcpcaa
open Go.RowKit
/-! ### window: Ack -/
def ackN (d : SndD) (upto : Nat) : Nat := if upto < d.base ∨ d.base + d.wait.length ≤ upto then 0 else upto - d.base + 1
def ackD (d : SndD) (upto : Nat) : SndD :=
  if upto < d.base ∨ d.base + d.wait.length ≤ upto then d
  else { d with base := upto + 1, wait := d.wait.drop (upto - d.base + 1), told := d.told / 2 ^ min (upto - d.base + 1) 32, ever := d.ever / 2 ^ min (upto - d.base + 1) 32 }
theorem run_fromO {a : Option Addr} {n c k : Nat} (h : k ≤ n) (W : World) : (Instr.slice 22 (.slice a n c) (some (.int .i64 k)) none none).run Try.prog W = .ok (.slice (if c = k then a else a.map (·.add (k * 1))) (n - k) (c - k)) W := by
  have hs : ∀ W, (sizeOf 32).run Try.prog W = .ok 1 W := fun W => Try.sizeOf32 W
  simp [Instr.slice, run_underlying Try.underlying22, Instr.sliceBounds, run_sliceBound, hs, Result.andThen, h]
set_option maxRecDepth 100000 in
set_option maxHeartbeats 6400000 in
theorem wack_any {w : World} {N : Nat → Prop} {s upto : Nat} {wv : Value} {us : List Value} {d : SndD} (h : SndIs w N s wv us d) (hup : upto < 18446744073709551616) (hb : d.base ≤ 4611686018427387904) :
    Calls Try.prog 37 #[.pointer (some ⟨s, 0, none⟩), .int .u64 upto] w fun e w' => ∃ wv' us', e = .returned (.int .i64 (ackN d upto)) ∧ SndIs w' N s wv' us' (ackD d upto) ∧ Mut (fun b => b = s) w w' ∧ ∀ g, wv'.ownBlock = some g → wv.ownBlock = some g := by
  obtain ⟨a, c, hlit, hlc⟩ := h.lit
  subst hlit
  obtain ⟨c0, c1, c2, c3, -, -, hfz⟩ := h.box
  have f0 := hfz 0
  have f1 := hfz 1
  have f2 := hfz 2
  have f3 := hfz 3
  have hl := h.bl
  by_cases h1 : upto < d.base
  · have t1 : decide ((upto : Int) < (d.base : Int)) = true := decide_eq_true (by omega)
    have t2 : decide (upto < d.base) = true := decide_eq_true h1
    have HA : Hid (ackN d upto = 0) := hid (by unfold ackN; rw [if_pos (.inl h1)])
    have HD : Hid (ackD d upto = d) := hid (by unfold ackD; rw [if_pos (.inl h1)])
    have HI := hid h
    clear h h1 c1 c2 c3 f0 f1 f2 f3 hfz
    go_enter Try.func37, Try.ntmps37
    go_wp2_with fail
    go_ret
    exact ⟨_, us, by rw [HA.out]; rfl, by rw [HD.out]; exact HI.out, Mut.refl _ _, fun g e => e⟩
  have t1 : decide ((upto : Int) < (d.base : Int)) = false := decide_eq_false (by omega)
  have t2 : decide (upto < d.base) = false := decide_eq_false h1
  have CN := wnext_any h
  obtain ⟨nx, hnx⟩ : ∃ nx, d.base + d.wait.length = nx := ⟨_, rfl⟩
  rw [hnx] at CN
  by_cases h2 : nx ≤ upto
  · have t3 : decide ((upto : Int) ≥ (nx : Int)) = true := decide_eq_true (by omega)
    have t4 : decide ((nx : Int) ≤ (upto : Int)) = true := decide_eq_true (by omega)
    have t5 : decide (nx ≤ upto) = true := decide_eq_true h2
    have HA : Hid (ackN d upto = 0) := hid (by unfold ackN; rw [if_pos (.inr (by omega))])
    have HD : Hid (ackD d upto = d) := hid (by unfold ackD; rw [if_pos (.inr (by omega))])
    have HI := hid h
    have CN := hid CN
    clear h h1 h2 c1 c2 c3 f0 f1 f2 f3 hfz hnx
    go_enter Try.func37, Try.ntmps37
    go_wp2_with fail
    (refine CN.out.mono ?_)
    rintro e w2 ⟨rfl, hb2⟩
    have HB2 := hid hb2
    clear hb2 c0 CN
    go_wp2_with fail
    go_ret
    exact ⟨_, us, by rw [HA.out]; rfl, by rw [HD.out]; exact HI.out.ext HB2.out, Mut.of_below HB2.out, fun g e => e⟩
  have t3 : decide ((upto : Int) ≥ (nx : Int)) = false := decide_eq_false (by omega)
  have t4 : decide ((nx : Int) ≤ (upto : Int)) = false := decide_eq_false (by omega)
  have t5 : decide (nx ≤ upto) = false := decide_eq_false h2
  obtain ⟨k, hk⟩ : ∃ k, upto - d.base + 1 = k := ⟨_, rfl⟩
  have hkn : k ≤ d.wait.length := by omega
  have HA : Hid (ackN d upto = k) := hid (by unfold ackN; rw [if_neg (by omega), hk])
  have HD : Hid (ackD d upto = { d with base := upto + 1, wait := d.wait.drop k, told := d.told / 2 ^ min k 32, ever := d.ever / 2 ^ min k 32 }) := hid (by unfold ackD; rw [if_neg (by omega), hk])
  have U := run_fromO (a := a) (n := d.wait.length) (c := c) hkn
  have hrow := h.row
  rw [← h.it.1] at hrow
  have hdrop := hrow.drop (k := k) (by rw [h.it.1]; exact hkn)
  rw [h.it.1] at hdrop
  have i1 : IntKind.u64.wrap ((upto : Int) - (d.base : Int)) = (upto : Int) - (d.base : Int) := by rw [IntKind.wrap_u64]; omega
  have i2 : IntKind.u64.wrap ((upto : Int) - (d.base : Int) + 1) = (k : Int) := by rw [IntKind.wrap_u64]; omega
  have i3 : IntKind.i64.wrap (k : Int) = (k : Int) := by rw [IntKind.wrap_i64] <;> omega
  have i4 : IntKind.u64.wrap ((upto : Int) + 1) = (upto : Int) + 1 := by rw [IntKind.wrap_u64]; omega
  have i5 : IntKind.u64.wrap (k : Int) = (k : Int) := by rw [IntKind.wrap_u64]; omega
  have HI := hid h
  have CN := hid CN
  have HB : Hid (upto + 1 < 9223372036854775808) := hid (by omega)
  have HK : Hid (k ≤ d.wait.length) := hid hkn
  obtain ⟨n, hn⟩ : ∃ n, d.wait.length = n := ⟨_, rfl⟩
  rw [hn] at U c1 hlc hdrop
  have HN := hid hn
  have hblk : ∀ g, (Value.slice (if c = k then a else a.map (·.add (k * 1))) (n - k) (c - k)).ownBlock = some g → (Value.slice a n c).ownBlock = some g := fun g e => by
    cases a with
    | none => simp at e; cases e
    | some b =>
      split at e
      · exact e
      · rcases h.row with ⟨e3, -⟩ | ⟨g3, off3, cap3, e3, -⟩
        · injection e3 with e4; cases e4
        · injection e3 with e4; cases e4
          rw [Option.map_some, Addr.add_lit] at e
          exact e
  obtain ⟨a', ha'⟩ : ∃ a', (if c = k then a else a.map (·.add (k * 1))) = a' := ⟨_, rfl⟩
  obtain ⟨n', hn'⟩ : ∃ n', n - k = n' := ⟨_, rfl⟩
  obtain ⟨c', hc'⟩ : ∃ c', c - k = c' := ⟨_, rfl⟩
  rw [ha', hn', hc'] at U hdrop hblk
  have HDROP := hid hdrop
  have HBLK := hid hblk
  clear h h1 h2 hnx hk hkn ha' hn' hc' hblk hdrop hrow hl
  go_enter Try.func37, Try.ntmps37
  go_wp2_with fail
  (refine CN.out.mono ?_)
  rintro e w2 ⟨rfl, hb2⟩
  have HB2 := hid hb2
  obtain ⟨c0', c1', c2', c3', -, -, hfz'⟩ := (HI.out.ext hb2).box
  have f0' := hfz' 0
  have f1' := hfz' 1
  have f2' := hfz' 2
  have f3' := hfz' 3
  clear hb2 c0 c1 c2 c3 f0 f1 f2 f3 hfz CN
  go_wp2_with fail
  go_ret
  have h2 := HI.out.ext HB2.out
  have hm : Mut (fun b => b = s) w2 ((((w2.setCell ⟨s, 0, none⟩ (.int .u64 ((upto : Int) + 1))).setCell ⟨s, 1, none⟩ (.slice a' n' c')).setCell ⟨s, 2, none⟩ (.int .u32 ((d.told : Int) / 2 ^ min k 32))).setCell ⟨s, 3, none⟩ (.int .u32 ((d.ever : Int) / 2 ^ min k 32))) := ((mut1.trans mut1).trans mut1).trans mut1
  have e1 : ((d.told : Int) / 2 ^ min k 32) = ((d.told / 2 ^ min k 32 : Nat) : Int) := by simp
  have e2 : ((d.ever : Int) / 2 ^ min k 32) = ((d.ever / 2 ^ min k 32 : Nat) : Int) := by simp
  have e0 : ((upto : Int) + 1) = ((upto + 1 : Nat) : Int) := by omega
  have hbx := (((h2.box.set0 (.int .u64 ((upto : Int) + 1))).set1 (.slice a' n' c')).set2 (.int .u32 ((d.told : Int) / 2 ^ min k 32))).set3 (.int .u32 ((d.ever : Int) / 2 ^ min k 32))
  refine ⟨.slice a' n' c', us.drop k, by rw [HA.out]; rfl, ?_, (Mut.of_below HB2.out).trans hm, fun g e => by rw [HN.out]; exact HBLK.out g e⟩
  rw [HD.out]
  refine ⟨?_, (HDROP.out.ext HB2.out).mutN hm fun g e e2 => (h2.nw g (by rw [HN.out]; exact HBLK.out g e)).2 e2, (h2.it.drop k).mut hm fun b _ e => ?_, h2.ns, fun g e => h2.nw g (by rw [HN.out]; exact HBLK.out g e), HB.out, ?_, ?_, h2.b4, h2.b5, ?_⟩
  · rw [e0, e1, e2] at hbx ⊢
    exact hbx
  · have e : b = s := e
    rw [e]; exact h2.ns
  · exact Nat.lt_of_le_of_lt (Nat.div_le_self _ _) h2.b2
  · exact Nat.lt_of_le_of_lt (Nat.div_le_self _ _) h2.b3
  · show (d.wait.drop k).length ≤ 128
    rw [List.length_drop]; have := h2.bl; omega
end Go.Proofs.Ytidohmpnefcpcaa

namespace Go.Proofs.Ytidohmpnefcpcaa
open Go.RowKit
/-! ### own rows of elements of several cells; what is due -/
/-- a slice value that owns a row of elements of k cells each -/
structure OwnK (w : World) (base : Nat) (e : TypeId) (k : Nat) (v : Value) (xs : List (List Value)) : Prop where
  row : w.ownsRow base e k v xs.length xs.flatten
  el : ∀ x ∈ xs, x.length = k ∧ ∀ u ∈ x, u.oneCell' = true
section
variable {w w' : World} {base k : Nat} {e : TypeId} {v : Value} {xs : List (List Value)}
theorem OwnK.nil (w : World) (base : Nat) (e : TypeId) (k : Nat) : OwnK w base e k (.slice none 0 0) [] := ⟨World.ownsRow_nil _ _ _ _, fun x h => by simp at h⟩
theorem OwnK.blk (h : OwnK w base e k v xs) {g : Nat} (hg : v.ownBlock = some g) : base ≤ g ∧ g < w.heap.size := World.ownsRow.lt h.row g hg
theorem OwnK.sli (h : OwnK w base e k v xs) : ∃ a c, v = .slice a xs.length c ∧ xs.length ≤ c := by
  rcases h.row.2 with ⟨rfl, hn⟩ | ⟨g, cap, cur, rfl, -, -, h1, -⟩
  · exact ⟨_, _, by rw [hn], by omega⟩
  · exact ⟨_, _, rfl, h1⟩
theorem OwnK.mut {G : Nat → Prop} (h : OwnK w base e k v xs) (hm : Mut G w w') (hG : ∀ g, v.ownBlock = some g → ¬ G g) : OwnK w' base e k v xs := by
  refine ⟨⟨h.row.1, ?_⟩, h.el⟩
  rcases h.row.2 with hn | ⟨g, cap, cur, rfl, hbb, hgg, rest⟩
  · exact .inl hn
  · exact .inr ⟨g, cap, cur, rfl, hbb, (hm.block g (Array.getElem?_eq_some_iff.1 hgg).1 (hG g rfl)).trans hgg, rest⟩
theorem OwnK.ext (h : OwnK w base e k v xs) (hb : Below w.heap.size w w') : OwnK w' base e k v xs := h.mut (Mut.of_below (F := fun _ => False) hb) fun _ _ e => e
theorem OwnK.mono {b' : Nat} (h : OwnK w base e k v xs) (hb : b' ≤ base) : OwnK w b' e k v xs := by
  refine ⟨⟨h.row.1, ?_⟩, h.el⟩
  rcases h.row.2 with hn | ⟨g, cap, cur, rfl, hbb, rest⟩
  · exact .inl hn
  · exact .inr ⟨g, cap, cur, rfl, by omega, rest⟩
theorem flatten_get {xs : List (List Value)} {k : Nat} (h : ∀ x ∈ xs, x.length = k) : ∀ {i j : Nat} {x : List Value} {u : Value}, xs[i]? = some x → x[j]? = some u → xs.flatten[i * k + j]? = some u := by
  induction xs with
  | nil => intro i j x u hi; simp at hi
  | cons y l ih =>
    intro i j x u hi hj
    have hy := h y (by simp)
    cases i with
    | zero =>
      simp at hi; subst hi
      have : j < y.length := (List.getElem?_eq_some_iff.1 hj).1
      rw [List.flatten_cons, Nat.zero_mul, Nat.zero_add, List.getElem?_append_left this]; exact hj
    | succ i =>
      rw [List.flatten_cons, List.getElem?_append_right (by rw [hy, Nat.add_mul]; omega), hy, show (i + 1) * k + j - k = i * k + j by rw [Nat.add_mul]; omega]
      exact ih (fun x hx => h x (by simp [hx])) (by simpa using hi) hj
theorem OwnK.at (h : OwnK w base e k v xs) {i : Nat} {x : List Value} (hi : xs[i]? = some x) : ∃ g c, v = .slice (some ⟨g, 0, none⟩) xs.length c ∧ base ≤ g ∧ g < w.heap.size ∧ ∀ j u, x[j]? = some u → w.cell? ⟨g, i * k + j, none⟩ = some u := by
  have hcells := fun g => World.ownsRow.cells (g := g) h.row
  have hlt := (List.getElem?_eq_some_iff.1 hi).1
  rcases h.row.2 with ⟨rfl, hn⟩ | ⟨g, cap, cur, rfl, hb, hg, hnc, -⟩
  · omega
  · refine ⟨g, cap, rfl, hb, (Array.getElem?_eq_some_iff.1 hg).1, fun j u hj => ?_⟩
    have := hcells g rfl _ _ (flatten_get (fun x hx => (h.el x hx).1) hi hj)
    rw [addr_add, Nat.zero_add] at this
    exact this
/-- one element more, out of a box of its own -/
theorem OwnK.append (h : OwnK w base e k v xs) {P : Program} (t ty : TypeId) (i : TypeInfo) (z : Value) (bytes : Nat) (ht : P.underlying t = some (.slice e)) (hi : P.info? e = some i) (hz : i.zero = some z) (hsize : i.size = k) (hby : i.bytes = bytes) (hzs : z.cells.size = k) (hk : 0 < k)
    {b c : Nat} {x : List Value} (hx : x.length = k) (h1 : ∀ u ∈ x, u.oneCell' = true) (hc : ∀ j u, x[j]? = some u → w.cell? ⟨b, j, none⟩ = some u) (hl : xs.length + 1 ≤ 1000000) (hbt : bytes ≤ 1000) (hbase : base ≤ w.heap.size) :
    ∃ v' w', (Builtin.append_ #[t, t] ty #[v, .slice (some ⟨b, 0, none⟩) 1 c]).run P w = .ok v' w' ∧ OwnK w' base e k v' (xs ++ [x]) ∧ Mut (fun g => v.ownBlock = some g) w w' ∧ (∀ g, v'.ownBlock = some g → v.ownBlock = some g ∨ w.heap.size ≤ g) ∧ v' ≠ .slice none 0 0 := by
  have hby2 : (xs.length + 1) * bytes ≤ 140737488355328 := Nat.le_trans (Nat.mul_le_mul hl hbt) (by decide)
  obtain ⟨v', w', hr, h2, h3, h4, h5⟩ := run_append_own_at (P := P) w base t ty e i z k bytes ht hi hz hsize hby hzs hk v xs.length xs.flatten h.row ⟨b, 0, none⟩ 1 c x (by omega) (fun j u hj => by rw [addr_add, Nat.zero_add]; exact hc j u hj) h1 (by unfold maxLen; omega) hby2 hbase
  refine ⟨v', w', hr, ⟨by simpa using h2, fun y hy => ?_⟩, ⟨h3.os, h3.tape, h3.output, h3.size, fun q hq hf => h3.block q hq fun e => hf e.symm⟩, fun g hg => ?_, fun e => ?_⟩
  · rcases List.mem_append.1 hy with hy | hy
    · exact h.el y hy
    · rw [List.mem_singleton.1 hy]; exact ⟨hx, h1⟩
  · rcases h5 with h5 | h5
    · exact .inl (by rw [← h5]; exact hg)
    · rw [h5] at hg; cases hg; exact .inr (Nat.le_refl _)
  · exact absurd (h4.1 e).2 (by decide)
end
/-! the bits -/
theorem testBit_and {a i : Nat} : ((a / 2 ^ i) &&& 1 = 0) = (a.testBit i = false) := by
  rw [Nat.and_one_is_mod]
  have h := Nat.testBit_eq_decide_div_mod_eq (x := a) (i := i)
  rw [h]
  have : a / 2 ^ i % 2 < 2 := Nat.mod_lt _ (by decide)
  by_cases h2 : a / 2 ^ i % 2 = 1
  · simp [h2]
  · have h3 : a / 2 ^ i % 2 = 0 := by omega
    simp [h3]
def dueStep (d : SndD) (i : Nat) : SndD :=
  if d.ever.testBit i then { d with told := d.told ||| 2 ^ i, more := (IntKind.u64.wrap ((d.more : Int) + 1)).toNat }
  else { d with told := d.told ||| 2 ^ i, ever := d.ever ||| 2 ^ i, once := (IntKind.u64.wrap ((d.once : Int) + 1)).toNat }
/-- what is due from place i on, f places -/
def dueL : Nat → Nat → SndD → List Nat
  | 0, _, _ => []
  | f + 1, i, d => if d.told.testBit i then dueL f (i + 1) d else i :: dueL f (i + 1) (dueStep d i)
def dueE : Nat → Nat → SndD → SndD
  | 0, _, d => d
  | f + 1, i, d => if d.told.testBit i then dueE f (i + 1) d else dueE f (i + 1) (dueStep d i)
def itemD (d : SndD) (i : Nat) : Nat × List Nat := (d.base + i, d.wait.getD i [])
def dueI (d : SndD) : List (Nat × List Nat) := (dueL (min d.wait.length 16) 0 d).map (itemD d)
def dueD (d : SndD) : SndD := dueE (min d.wait.length 16) 0 d
theorem dueStep_base (d : SndD) (i : Nat) : (dueStep d i).base = d.base ∧ (dueStep d i).wait = d.wait := by unfold dueStep; split <;> exact ⟨rfl, rfl⟩
theorem dueE_base : ∀ (f i : Nat) (d : SndD), (dueE f i d).base = d.base ∧ (dueE f i d).wait = d.wait
  | 0, _, _ => ⟨rfl, rfl⟩
  | f + 1, i, d => by
    unfold dueE; split
    · exact dueE_base f (i + 1) d
    · have h1 := dueE_base f (i + 1) (dueStep d i)
      have h2 := dueStep_base d i
      exact ⟨h1.1.trans h2.1, h1.2.trans h2.2⟩
/-- elements whose last cell is a text that stays -/
def ElsAt (w : World) (N : Nat → Prop) (xs : List (List Value)) (ps : List (List Value × List Nat)) : Prop :=
  xs.length = ps.length ∧ ∀ k (h : k < ps.length), ∃ u, xs[k]? = some (ps[k].1 ++ [u]) ∧ ItemAt w N u ps[k].2
theorem ElsAt.nil (w : World) (N : Nat → Prop) : ElsAt w N [] [] := ⟨rfl, fun k h => by simp at h⟩
theorem ElsAt.mut {w w' : World} {N G : Nat → Prop} {xs : List (List Value)} {ps : List (List Value × List Nat)} (h : ElsAt w N xs ps) (hm : Mut G w w') (hG : ∀ b, b < w.heap.size → G b → N b) : ElsAt w' N xs ps :=
  ⟨h.1, fun k hk => by obtain ⟨u, h1, h2⟩ := h.2 k hk; exact ⟨u, h1, h2.mut hm hG⟩⟩
theorem ElsAt.grow {w : World} {N N' : Nat → Prop} {xs : List (List Value)} {ps : List (List Value × List Nat)} (h : ElsAt w N xs ps) (hN : ∀ b, N' b → N b ∨ w.heap.size ≤ b) : ElsAt w N' xs ps :=
  ⟨h.1, fun k hk => by obtain ⟨u, h1, h2⟩ := h.2 k hk; exact ⟨u, h1, h2.grow hN⟩⟩
theorem ElsAt.snoc {w : World} {N : Nat → Prop} {xs : List (List Value)} {ps : List (List Value × List Nat)} {u : Value} {q : List Value} {bs : List Nat} (h : ElsAt w N xs ps) (hu : ItemAt w N u bs) : ElsAt w N (xs ++ [q ++ [u]]) (ps ++ [(q, bs)]) := by
  refine ⟨by simp [h.1], fun k hk => ?_⟩
  by_cases hlt : k < ps.length
  · obtain ⟨x, h1, h2⟩ := h.2 k hlt
    exact ⟨x, by rw [List.getElem?_append_left (by rw [h.1]; exact hlt), List.getElem_append_left hlt]; exact h1, by rw [List.getElem_append_left hlt]; exact h2⟩
  · have hk2 : k = ps.length := by simp at hk; omega
    subst hk2
    refine ⟨u, by rw [List.getElem?_append_right (by rw [h.1]; exact Nat.le_refl _), h.1]; simp, ?_⟩
    rw [List.getElem_append_right (Nat.le_refl _)]
    simpa using hu
def itemC (p : Nat × List Nat) : List Value × List Nat := ([.int .u64 p.1], p.2)
end Go.Proofs.Ytidohmpnefcpcaa

