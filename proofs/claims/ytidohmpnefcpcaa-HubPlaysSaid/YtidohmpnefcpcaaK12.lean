/- Parts of the proof: K12. -/
import Derived.Test.YtidohmpnefcpcaaK11
namespace Go.Proofs.Ytidohmpnefcpcaa
open Go.RowKit
/-! ### the reference's hub: Drop; what Take and Ack leave of a peer -/
section
variable {wr w5 w6 : World} {N : Nat → Prop} {x : Nat} {sf : Pid} {lv v9 v10 : Value} {A B : List RPeer} {y : RPeer}
theorem rdrop_put (H : RHubIs wr N x sf lv (A ++ y :: B)) (hN : ∀ b, N b → b < wr.heap.size) (hb5 : Below wr.heap.size wr w5) (h9 : ∀ g, v9.ownBlock = some g → wr.heap.size ≤ g) (hm6 : Mut (fun g => v9.ownBlock = some g) w5 w6) (h10 : ∀ g, v10.ownBlock = some g → v9.ownBlock = some g ∨ w5.heap.size ≤ g) (hrow : RowP w6 0 4 v10 (A.map peerC ++ B.map peerC)) :
    RHubR wr (w6.setCell ⟨x, 2, none⟩ v10) N (fun b => N b ∨ fpX x v10 (A ++ B) b) x sf lv (A ++ y :: B) v10 (A ++ B) ∧ w6.cell? ⟨x, 2, none⟩ = some lv ∧ w6.frozen? ⟨x, 2, none⟩ = false := by
  have hz5 := hb5.size
  have hxl := H.box.lt
  have h10w : ∀ g, v10.ownBlock = some g → wr.heap.size ≤ g := fun g e => (h10 g e).elim (h9 g) fun e => by omega
  obtain ⟨w8, hw8⟩ : ∃ w8, w6.setCell ⟨x, 2, none⟩ v10 = w8 := ⟨_, rfl⟩
  have hm8 : Mut (fun b => b = x) w6 w8 := by rw [← hw8]; exact mut1
  have hM : Mut (fun b => v9.ownBlock = some b ∨ b = x) w5 w8 := (hm6.mono fun b _ e => .inl e).trans (hm8.mono fun b _ e => .inr e)
  have hGN : ∀ b, b < w5.heap.size → (v9.ownBlock = some b ∨ b = x) → N b ∨ wr.heap.size ≤ b := fun b _ e => by
    rcases e with e | e
    · exact .inr (h9 b e)
    · rw [e]; exact .inl H.xn
  have hbx : Bx3 w6 x (.int .u16 sf.1) (.int .u32 sf.2) lv := (H.box.mut (Mut.of_below (F := fun _ => False) hb5) id).mut hm6 fun e => by have := h9 x e; omega
  have hmem : ∀ u, u ∈ A ++ B → u ∈ A ++ y :: B := fun u hu => by
    rcases List.mem_append.1 hu with hu | hu
    · simp [hu]
    · simp [hu]
  have hold : ∀ u ∈ A ++ B, PeerIs w8 (fun b => N b ∨ wr.heap.size ≤ b) u := fun u hu => by
    have hp := H.pr u (hmem u hu)
    have h1 := hp.less (N' := fun b => N b ∨ wr.heap.size ≤ b) (fun b e => .inl (hp.fp b e)) (fun b e => e)
    refine (h1.mut (Mut.of_below (F := fun _ => False) hb5) (fun _ _ e => e.elim) fun _ _ e => e).mut hM hGN fun b e e2 => ?_
    rcases e2 with e2 | e2
    · have := h9 b e2; have := hp.fplt b e; omega
    · exact (H.out u (hmem u hu) b e).1 e2
  have hdis : (A ++ B).Pairwise fun y z => ∀ b, fpY y b → ¬ fpY z b := by
    have hd := List.pairwise_append.1 H.dis
    have hd2 := List.pairwise_cons.1 hd.2.1
    exact List.pairwise_append.2 ⟨hd.1, hd2.2, fun u hu v hv => hd.2.2 u hu v (by simp [hv])⟩
  have hR : RHubIs w8 (fun b => N b ∨ wr.heap.size ≤ b) x sf v10 (A ++ B) := by
    refine ⟨by rw [← hw8]; exact hbx.set2 _, ?_, .inl H.xn, fun g e => ⟨.inr (h10w g e), by have := h10w g e; omega⟩, hold, fun u hu b e => ?_, hdis, by have := H.lim; simp at this ⊢; omega⟩
    · rw [List.map_append]
      exact hrow.mut hm8 fun g e e2 => by have := h10w g e; have e2 : g = x := e2; omega
    · have h1 := (H.pr u (hmem u hu)).fplt b e
      exact ⟨(H.out u (hmem u hu) b e).1, fun e2 => by have := h10w b e2; omega⟩
  have hfq : ∀ b, fpX x v10 (A ++ B) b → fpX x lv (A ++ y :: B) b ∨ wr.heap.size ≤ b := fun b e => by
    rcases e with e | e | ⟨u, hu, e⟩
    · exact .inl (.inl e)
    · exact .inr (h10w b e)
    · exact .inl (.inr (.inr ⟨u, hmem u hu, e⟩))
  rw [hw8]
  refine ⟨⟨hR.less (fun b e => .inr e) fun b e => ?_, fun b e => .inl e, fun b e => ?_, fun b e => ?_, ?_, hfq⟩, hbx.c2, hbx.f 2⟩
  · rcases e with e | e
    · exact .inl (.inl e)
    · exact .inl ((hfq b e).imp (H.fp b) id)
  · rcases e with e | e
    · exact .inl e
    · exact (hfq b e).imp (H.fp b) id
  · rcases e with e | e
    · have := hN b e; have := hM.size; omega
    · exact hR.fplt b e
  · refine (Mut.of_below hb5).transG hM fun b hb e => ?_
    rcases e with e | e
    · have := h9 b e; omega
    · exact .inl e
end
theorem del_rD {A B : List RPeer} {y : RPeer} (h : y.p ∉ A.map (·.p)) : del y.p (rD (A ++ y :: B)) = rD (A ++ B) := by
  induction A with
  | nil => simp [rD, del]
  | cons z l ih =>
    simp only [List.map_cons, List.mem_cons, not_or] at h
    simp only [rD, List.cons_append, List.map_cons, del, if_neg h.1]
    have := ih h.2
    simp only [rD] at this
    rw [this]
set_option maxRecDepth 100000 in
set_option maxHeartbeats 6400000 in
theorem rdrop_any {w : World} {N : Nat → Prop} {x : Nat} {sf : Pid} {lv : Value} {L : List RPeer} (H : RHubIs w N x sf lv L) (hN : ∀ b, N b → b < w.heap.size) (p1 p2 : Int) :
    Calls Try.prog 23 #[.pointer (some ⟨x, 0, none⟩), .agg #[.int .u16 p1, .int .u32 p2]] w fun e w' => e = .returned (.bool (look (p1, p2) (rD L)).isSome) ∧ ∃ N' lv' L', RHubR w w' N N' x sf lv L lv' L' ∧ rD L' = del (p1, p2) (rD L) ∧ ∀ y ∈ L', y ∈ L := by
  obtain ⟨W1, hW1⟩ : ∃ W1, w.alloc (.cells #[.int .u16 p1, .int .u32 p2] 30) = W1 := ⟨_, rfl⟩
  have hb1 : Below w.heap.size w W1 := by rw [← hW1]; exact (Below.refl _ _).alloc (Nat.le_refl _) _
  have d0 : W1.cell? ⟨w.heap.size, 0, none⟩ = some (.int .u16 p1) := by rw [← hW1]; simp
  have d1 : W1.cell? ⟨w.heap.size, 1, none⟩ = some (.int .u32 p2) := by rw [← hW1]; simp
  have CF := hid (rhfind_any (H.ext hb1) p1 p2)
  have HH0 := hid H
  have HN0 := hid hN
  have HB1 := hid hb1
  cases hpos : rposN (p1, p2) L 0 with
  | none =>
    have hri : rposI (p1, p2) L = -1 := by unfold rposI; rw [hpos]
    rw [hri] at CF
    have hnp := rposN_none hpos
    have HLK : Hid (look (p1, p2) (rD L) = none) := hid (look_rD hnp)
    have HDL : Hid (del (p1, p2) (rD L) = rD L) := hid (del_not (look_rD hnp))
    have t1 : decide ((-1 : Int) < 0) = true := by decide
    clear H hN hb1 hpos hri hnp
    go_enter Try.func23, Try.ntmps23
    go_wp2_with fail
    refine CF.out.mono ?_
    rintro e w2 ⟨rfl, hb2⟩
    go_wp2_with fail
    go_ret
    exact ⟨by rw [HLK.out]; rfl, N, lv, L, RHubR.same HH0.out HN0.out (HB1.out.trans (hb2.mono HB1.out.size)), HDL.out.symm, fun y h => h⟩
  | some j =>
    have hri : rposI (p1, p2) L = (j : Int) := by unfold rposI; rw [hpos]
    rw [hri] at CF
    obtain ⟨A, y, B, e1, e2, e3, e4⟩ := rposN_some hpos
    rw [Nat.zero_add] at e3
    subst e1
    obtain ⟨la, lc, hlit, hlc⟩ := H.lit
    obtain ⟨n, hn⟩ : ∃ n, (A ++ y :: B).length = n := ⟨_, rfl⟩
    rw [hn] at hlit hlc
    subst hlit
    have hjn : j < n := by rw [e3, ← hn]; simp
    have hn48 : n ≤ 48 := by have := H.lim; omega
    have HLK : Hid (look (p1, p2) (rD (A ++ y :: B)) = some (y.s, y.k)) := hid (by rw [← e2]; exact look_rD_at (by rw [e2]; exact e4))
    have HDL : Hid (del (p1, p2) (rD (A ++ y :: B)) = rD (A ++ B)) := hid (by rw [← e2]; exact del_rD (by rw [e2]; exact e4))
    have t1 : decide ((j : Int) < 0) = false := decide_eq_false (by omega)
    have HN := hid hn
    have HLM : Hid ((A ++ y :: B).length ≤ 48) := hid H.lim
    have HJ := hid e3
    have hlcj : n ≤ lc := hlc
    obtain ⟨i0, hi, hz0, hz1, hz2⟩ := info_parts infoPeer
    clear H hN hb1 hpos hri e2 e3 e4 hn hlc
    go_enter Try.func23, Try.ntmps23
    go_wp2_with fail
    refine CF.out.mono ?_
    rintro e w2 ⟨rfl, hb2⟩
    have hbw := HB1.out.trans (hb2.mono HB1.out.size)
    have HBW := hid hbw
    have HQ := hid (HH0.out.ext hbw)
    have HNQ : Hid (∀ b, N b → b < w2.heap.size) := hid fun b e => Nat.lt_of_lt_of_le (HN0.out b e) hbw.size
    have c22 := HQ.out.box.c2
    have r1 : ∀ W, (Instr.slice 50 (.slice la n lc) none (some (.int .i64 (j : Int))) none).run Try.prog W = .ok (.slice la j lc) W := fun W => run_toP Try.underlying50 sizePeer (by omega) hlcj W
    have r2 : ∀ W, (Instr.slice 50 (.slice la n lc) (some (.int .i64 ((j : Int) + 1))) none none).run Try.prog W = .ok (.slice (if lc = j + 1 then la else la.map (·.add ((j + 1) * 4))) (n - (j + 1)) (lc - (j + 1))) W := fun W => run_fromP (k := j + 1) Try.underlying50 sizePeer (by omega) W
    have hml : ((A ++ y :: B).map peerC).length = n := by rw [List.length_map]; exact HN.out
    have htk := HQ.out.row.take (a := la) (c := lc) (by rw [hml]) (n := j) (by rw [hml]; omega)
    have hdr := HQ.out.row.drop (n := j + 1) (a := la) (c := lc) (by rw [hml]) (by rw [hml]; omega)
    rw [hml] at hdr
    have etk : ((A ++ y :: B).map peerC).take j = A.map peerC := by rw [HJ.out, List.map_append, List.take_left' (by simp)]
    have edr : ((A ++ y :: B).map peerC).drop (j + 1) = B.map peerC := by
      have e5 : A.map peerC ++ peerC y :: B.map peerC = (A.map peerC ++ [peerC y]) ++ B.map peerC := by simp
      rw [HJ.out, List.map_append, List.map_cons, e5, List.drop_left' (by simp)]
    rw [etk] at htk
    rw [edr] at hdr
    obtain ⟨x2, hx2⟩ : ∃ x2, (if lc = j + 1 then la else la.map (·.add ((j + 1) * 4))) = x2 := ⟨_, rfl⟩
    rw [hx2] at hdr
    simp only [hx2] at r2
    have HTK := hid htk
    have HDR := hid hdr
    clear htk hdr hx2 hml hb2 hbw etk edr d0 d1 CF
    have HLM : Hid (A.length ≤ 48 ∧ B.length ≤ 48) := hid (by have := HLM.out; simp at this; omega)
    go_wp2_with (first | (at_builtin; refine wpList_appendRow Try.underlying50 hi hz0 hz1 hz2 rfl (by decide) (by decide) (RowP.nil w2 0 4) HTK.out (by have h1 := HLM.out; simp only [List.length_nil, List.length_map]; omega) (Nat.zero_le _) rfl rfl rfl rfl ?_; intro v9 w5 hrow9 hm9 hn9; obtain ⟨a9, c9, e9, -⟩ := hrow9.sli; obtain ⟨n9, hn9'⟩ : ∃ n9, (([] : List (List Value)) ++ A.map peerC).length = n9 := ⟨_, rfl⟩; rw [hn9'] at e9; subst e9; have hb5 : Below w2.heap.size w2 w5 := ⟨hm9.os, hm9.tape, hm9.output, hm9.size, fun q hq => hm9.block q hq (fun e => by cases e)⟩; have HR9 := hid hrow9; have HB5 := hid hb5; have H9 : Hid (∀ g', (Value.slice a9 n9 c9).ownBlock = some g' → w2.heap.size ≤ g') := hid fun g' e => (hn9 g' e).elim (fun e => by cases e) id; have HD5 := hid (HDR.out.ext hb5); have m52 : w5.cell? ⟨x, 2, none⟩ = some (.slice la n lc) := cell_toB c22 hb5; clear hrow9 hm9 hn9 hn9' hb5) | (at_builtin; refine wpList_appendRow Try.underlying50 hi hz0 hz1 hz2 rfl (by decide) (by decide) HR9.out HD5.out (by have h1 := HLM.out; simp only [List.length_append, List.length_nil, List.length_map]; omega) (Nat.zero_le _) rfl rfl rfl rfl ?_; intro v11 w7 hrow11 hm11 hn11; obtain ⟨a11, c11, e11, -⟩ := hrow11.sli; obtain ⟨n11, hn11'⟩ : ∃ n11, ((([] : List (List Value)) ++ A.map peerC) ++ B.map peerC).length = n11 := ⟨_, rfl⟩; rw [hn11'] at e11; subst e11; rw [List.nil_append] at hrow11; have hput := rdrop_put HQ.out HNQ.out HB5.out H9.out hm11 hn11 hrow11; have m72 := hput.2.1; have f72 := hput.2.2; have HPUT := hid hput.1; clear hput hrow11 hm11 hn11 hn11' m52))
    go_ret
    refine ⟨by rw [HLK.out]; rfl, _, _, A ++ B, (RHubR.same HH0.out HN0.out HBW.out).trans HPUT.out, HDL.out.symm, fun u hu => ?_⟩
    rcases List.mem_append.1 hu with hu | hu
    · simp [hu]
    · simp [hu]
/-! what Take and Ack leave of a peer -/
theorem RHubR.took {w w' : World} {N : Nat → Prop} {x : Nat} {sf : Pid} {lv : Value} {A B : List RPeer} {y : RPeer} {hv' v : Value} {xs : List (List Value)} {ls : List (List Nat)} {k' : RLnk} (H : RHubIs w N x sf lv (A ++ y :: B)) (hN : ∀ b, N b → b < w.heap.size) (R : RTakeR w w' N y.lb y.hv ls k' v xs hv') :
    RHubR w w' N (fun b => N b ∨ fpY { y with k := k', hv := hv' } b) x sf lv (A ++ y :: B) lv (A ++ { y with k := k', hv := hv' } :: B) ∧ (∀ b, fpY { y with k := k', hv := hv' } b → N b ∨ hv'.ownBlock = some b) ∧ (∀ b, N b → v.ownBlock ≠ some b) := by
  have hp := H.pr y (by simp)
  have hz := R.mt.size
  have hfz : ∀ b, fpY { y with k := k', hv := hv' } b → fpY y b ∨ w.heap.size ≤ b := fun b e => by
    rcases e with e | (e | e)
    · exact .inl (.inl e)
    · exact .inl (.inr (.inl e))
    · rcases R.new b e with e | e
      · exact .inl (.inr (.inr e))
      · exact .inr e
  refine ⟨RHubR.turn (z := { y with k := k', hv := hv' }) H hN (R.mt.mono fun b _ e => .inr e) ⟨?_, ?_, fun b e e2 => ?_, hp.ok⟩ rfl hfz, fun b e => ?_, fun b e e2 => by have := (R.row.blk e2).1; have := hN b e; omega⟩
  · refine (hp.s.less (N' := fun b => N b ∨ fpY { y with k := k', hv := hv' } b) (fun b e => .inl (hp.s.fp b e)) fun b e => ?_).mut R.mt (fun b _ e => .inl (hp.k.fp b e)) fun b e e2 => hp.dis b e e2
    rcases e with e | e
    · exact .inl e
    · exact (hfz b e).imp (hp.fp b) id
  · exact R.is.less (fun b e => .inr (.inr e)) fun b e => by
      rcases e with e | e
      · exact .inl (.inl e)
      · rcases e with e | (e | e)
        · exact .inl (.inl (hp.s.fp b e))
        · have e : b = y.lb := e
          rw [e]; exact .inl (.inl hp.k.nl)
        · exact .inl (.inr e)
  · rcases e2 with e2 | e2
    · exact hp.dis b e (.inl e2)
    · rcases R.new b e2 with e2 | e2
      · exact hp.dis b e (.inr e2)
      · have := hp.s.fplt b e; omega
  · rcases e with e | (e | e)
    · exact .inl (hp.s.fp b e)
    · have e : b = y.lb := e
      rw [e]; exact .inl hp.k.nl
    · exact .inr e
theorem RHubR.acked {w w' : World} {N : Nat → Prop} {x : Nat} {sf : Pid} {lv : Value} {A B : List RPeer} {y : RPeer} {iv' tv' : Value} {s' : RSnd} (H : RHubIs w N x sf lv (A ++ y :: B)) (hN : ∀ b, N b → b < w.heap.size) (h1 : RSndIs w' N y.sb iv' tv' s') (h2 : ∀ g, iv'.ownBlock = some g → y.iv.ownBlock = some g) (h3 : ∀ g, tv'.ownBlock = some g → y.tv.ownBlock = some g) (hm : Mut (fun b => b = y.sb ∨ y.tv.ownBlock = some b) w w') :
    RHubR w w' N N x sf lv (A ++ y :: B) lv (A ++ { y with s := s', iv := iv', tv := tv' } :: B) := by
  have hp := H.pr y (by simp)
  have hfz : ∀ b, fpY { y with s := s', iv := iv', tv := tv' } b → fpY y b := fun b e => by
    rcases e with (e | e | e) | e
    · exact .inl (.inl e)
    · exact .inl (.inr (.inl (h2 b e)))
    · exact .inl (.inr (.inr (h3 b e)))
    · exact .inr e
  have hmf : ∀ b, (b = y.sb ∨ y.tv.ownBlock = some b) → fpT y.sb y.iv y.tv b := fun b e => e.elim .inl fun e => .inr (.inr e)
  have hz : PeerIs w' N { y with s := s', iv := iv', tv := tv' } := ⟨h1, hp.k.mut hm (fun b _ e => hp.s.fp b (hmf b e)) fun b e e2 => hp.dis b (hmf b e2) e, fun b e e2 => hp.dis b ((by
    rcases e with e | e | e
    · exact .inl e
    · exact .inr (.inl (h2 b e))
    · exact .inr (.inr (h3 b e)))) e2, hp.ok⟩
  refine ⟨H.turn (hm.mono fun b _ e => .inl (hmf b e)) (fun b e => e) (fun b e => .inl e) hz rfl (fun b e => .inl (hfz b e)), fun b e => e, fun b e => .inl e, fun b e => Nat.lt_of_lt_of_le (hN b e) hm.size, hm.mono fun b _ e => .inr (.inr ⟨y, by simp, .inl (hmf b e)⟩), fun b e => .inl ?_⟩
  rcases e with e | e | ⟨u, hu, e⟩
  · exact .inl e
  · exact .inr (.inl e)
  · simp only [List.mem_append, List.mem_cons] at hu
    rcases hu with hu | rfl | hu
    · exact .inr (.inr ⟨u, by simp [hu], e⟩)
    · exact .inr (.inr ⟨y, by simp, hfz b e⟩)
    · exact .inr (.inr ⟨u, by simp [hu], e⟩)
end Go.Proofs.Ytidohmpnefcpcaa

