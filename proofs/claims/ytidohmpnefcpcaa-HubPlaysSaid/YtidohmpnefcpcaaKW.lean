/- Parts of the proof: KW. -/
import Derived.Test.YtidohmpnefcpcaaKH
namespace Go.Proofs.Ytidohmpnefcpcaa
open Go.RowKit
/-! ### the reference's sender: Due -/
def rdueL : Nat → Nat → List Bool → List Nat
  | 0, _, _ => []
  | f + 1, i, t => if t.getD i false = true then rdueL f (i + 1) t else i :: rdueL f (i + 1) t
def ritemD (d : RSnd) (i : Nat) : Nat × List Nat := d.items.getD i (0, [])
def rdueI (d : RSnd) : List (Nat × List Nat) := (rdueL (min d.items.length 16) 0 d.told).map (ritemD d)
def rdueT (d : RSnd) : List Bool := List.replicate (min d.items.length 16) true ++ d.told.drop (min d.items.length 16)
theorem rdueL_step {f k : Nat} {t : List Bool} (hf : k < f) : rdueL (f - k) k t = if t.getD k false = true then rdueL (f - (k + 1)) (k + 1) t else k :: rdueL (f - (k + 1)) (k + 1) t := by
  rw [show f - k = (f - (k + 1)) + 1 by omega]; rfl
theorem ItemAt.grow2 {w : World} {N N' : Nat → Prop} {u : Value} {bs : List Nat} (h : ItemAt w N u bs) (hN : ∀ b, N' b → N b) : ItemAt w N' u bs := h.grow fun b e => .inl (hN b e)
theorem ElsAt.grow2 {w : World} {N N' : Nat → Prop} {xs : List (List Value)} {ps : List (List Value × List Nat)} (h : ElsAt w N xs ps) (hN : ∀ b, N' b → N b) : ElsAt w N' xs ps := h.grow fun b e => .inl (hN b e)
structure RDueR (w w' : World) (N : Nat → Prop) (s : Nat) (iv tv : Value) (d : RSnd) (v : Value) (xs : List (List Value)) (o m : Nat) : Prop where
  row : OwnK w' w.heap.size 85 2 v xs
  els : ElsAt w' (fun b => N b ∨ v.ownBlock = some b) xs ((rdueI d).map itemC)
  is : RSndIs w' N s iv tv { d with told := rdueT d, once := o, more := m }
  mt : Mut (fun b => b = s ∨ tv.ownBlock = some b) w w'
section
variable {w wr wC w4 : World} {N : Nat → Prop} {s : Nat} {iv tv v v4 u : Value} {d d' : RSnd} {xs : List (List Value)} {ps : List (List Value × List Nat)}
/-- the item went into the row: all else stays -/
theorem rdue_app {p : Nat × List Nat} (HS : RSndIs wr (fun b => N b ∨ w.heap.size ≤ b) s iv tv d') (HX : ElsAt wr (fun b => N b ∨ v.ownBlock = some b) xs ps) (HO : OwnK wr w.heap.size 85 2 v xs) (HM : Mut (fun b => b = s ∨ tv.ownBlock = some b) w wr) (hN : ∀ b, fpT s iv tv b → b < w.heap.size) (hu : ItemAt wr (fun b => N b ∨ w.heap.size ≤ b) u p.2) (hb : Below wr.heap.size wr wC) (hm : Mut (fun g => v.ownBlock = some g) wC w4) (hn : ∀ g, v4.ownBlock = some g → v.ownBlock = some g ∨ wC.heap.size ≤ g) :
    RSndIs w4 (fun b => N b ∨ w.heap.size ≤ b) s iv tv d' ∧ ElsAt w4 (fun b => N b ∨ v4.ownBlock = some b) (xs ++ [[.int .u64 p.1, u]]) (ps ++ [itemC p]) ∧ Mut (fun b => b = s ∨ tv.ownBlock = some b) w w4 := by
  have hmr : Mut (fun g => v.ownBlock = some g) wr w4 := (Mut.of_below hb).trans ⟨hm.os, hm.tape, hm.output, hm.size, hm.block⟩
  have hz := hb.size
  have hzr := HM.size
  refine ⟨HS.mut hmr (fun b _ e => .inr (HO.blk e).1) fun b e e2 => ?_, ?_, HM.transG hmr fun b hb2 e => ?_⟩
  · have := (HO.blk e2).1; have := hN b e; omega
  · have h1 : ElsAt w4 (fun b => N b ∨ v4.ownBlock = some b) xs ps := (HX.grow (N' := fun b => N b ∨ v.ownBlock = some b ∨ wr.heap.size ≤ b) fun b e => by
      rcases e with e | e | e
      · exact .inl (.inl e)
      · exact .inl (.inr e)
      · exact .inr e).mut hmr (fun b _ e => .inr (.inl e)) |>.grow2 fun b e => by
        rcases e with e | e
        · exact .inl e
        · rcases hn b e with e | e
          · exact .inr (.inl e)
          · exact .inr (.inr (by omega))
    have h2 : ItemAt w4 (fun b => N b ∨ v4.ownBlock = some b) u p.2 := (hu.mut hmr (fun b _ e => .inr (HO.blk e).1)).grow2 fun b e => by
      rcases e with e | e
      · exact .inl e
      · rcases hn b e with e | e
        · exact .inr (HO.blk e).1
        · exact .inr (by omega)
    exact h1.snoc (q := [.int .u64 p.1]) h2
  · have := (HO.blk e).1; omega
end
theorem told_set {k : Nat} {t : List Bool} (hk : k < t.length) : (List.replicate k true ++ t.drop k).set k true = List.replicate (k + 1) true ++ t.drop (k + 1) := by
  rw [List.set_append, List.length_replicate, if_neg (Nat.lt_irrefl k), Nat.sub_self, List.drop_eq_getElem_cons hk, List.set_cons_zero, List.replicate_succ', List.append_assoc]; rfl
theorem told_get {k : Nat} {t : List Bool} (hk : k < t.length) (h : k < (List.replicate k true ++ t.drop k).length) : (List.replicate k true ++ t.drop k)[k] = t[k] := by
  rw [List.getElem_append_right (by simp)]
  simp
set_option maxRecDepth 100000 in
theorem rdue_mark3 {w : World} {N : Nat → Prop} {s : Nat} {iv tv : Value} {d : RSnd} (h : RSndIs w N s iv tv d) {k : Nat} (hk : k < d.told.length) (q : Nat) (hq : q < 18446744073709551616) :
    ∃ g off cap, tv = .slice (some ⟨g, off, none⟩) d.told.length cap ∧ (w.setCell ⟨s, 3, none⟩ (.int .u64 q)).cell? ⟨s, 1, none⟩ = some tv ∧ (w.setCell ⟨s, 3, none⟩ (.int .u64 q)).cell? ⟨g, off + k, none⟩ = some (.bool d.told[k]) ∧ (w.setCell ⟨s, 3, none⟩ (.int .u64 q)).frozen? ⟨g, off + k, none⟩ = false ∧
      RSndIs ((w.setCell ⟨s, 3, none⟩ (.int .u64 q)).setCell ⟨g, off + k, none⟩ (.bool true)) N s iv tv { d with once := q, told := d.told.set k true } ∧ Mut (fun b => b = s ∨ tv.ownBlock = some b) w ((w.setCell ⟨s, 3, none⟩ (.int .u64 q)).setCell ⟨g, off + k, none⟩ (.bool true)) := by
  obtain ⟨h1, m1⟩ := h.put3 q hq
  obtain ⟨g, off, cap, e, hf, hc, h2, m2⟩ := h1.tset (i := k) hk true
  exact ⟨g, off, cap, e, h1.box.c1, hc, hf, h2, (m1.mono fun b _ e => .inl e).trans (m2.mono fun b _ e => .inr e)⟩
set_option maxRecDepth 100000 in
theorem rdue_mark4 {w : World} {N : Nat → Prop} {s : Nat} {iv tv : Value} {d : RSnd} (h : RSndIs w N s iv tv d) {k : Nat} (hk : k < d.told.length) (q : Nat) (hq : q < 18446744073709551616) :
    ∃ g off cap, tv = .slice (some ⟨g, off, none⟩) d.told.length cap ∧ (w.setCell ⟨s, 4, none⟩ (.int .u64 q)).cell? ⟨s, 1, none⟩ = some tv ∧ (w.setCell ⟨s, 4, none⟩ (.int .u64 q)).cell? ⟨g, off + k, none⟩ = some (.bool d.told[k]) ∧ (w.setCell ⟨s, 4, none⟩ (.int .u64 q)).frozen? ⟨g, off + k, none⟩ = false ∧
      RSndIs ((w.setCell ⟨s, 4, none⟩ (.int .u64 q)).setCell ⟨g, off + k, none⟩ (.bool true)) N s iv tv { d with more := q, told := d.told.set k true } ∧ Mut (fun b => b = s ∨ tv.ownBlock = some b) w ((w.setCell ⟨s, 4, none⟩ (.int .u64 q)).setCell ⟨g, off + k, none⟩ (.bool true)) := by
  obtain ⟨h1, m1⟩ := h.put4 q hq
  obtain ⟨g, off, cap, e, hf, hc, h2, m2⟩ := h1.tset (i := k) hk true
  exact ⟨g, off, cap, e, h1.box.c1, hc, hf, h2, (m1.mono fun b _ e => .inl e).trans (m2.mono fun b _ e => .inr e)⟩
set_option maxRecDepth 100000 in
set_option maxHeartbeats 12800000 in
theorem rdue_any {w : World} {N : Nat → Prop} {s : Nat} {iv tv : Value} {d : RSnd} (h : RSndIs w N s iv tv d) (hN : ∀ b, N b → b < w.heap.size) (hl : d.told.length = d.items.length) :
    Calls Try.prog 42 #[.pointer (some ⟨s, 0, none⟩)] w fun e w' => ∃ v xs o m, e = .returned v ∧ RDueR w w' N s iv tv d v xs o m := by
  obtain ⟨ia, ic, hia, -⟩ := h.it_lit
  obtain ⟨ta, tc, hta, -⟩ := h.told_lit
  obtain ⟨n, hn⟩ : ∃ n, d.items.length = n := ⟨_, rfl⟩
  rw [hl, hn] at hta
  rw [hn] at hia
  subst hia
  subst hta
  obtain ⟨f, hf⟩ : ∃ f, min n 16 = f := ⟨_, rfl⟩
  have HI := hid h
  have HNN := hid hN
  have HFP : Hid (∀ b, fpT s (.slice ia n ic) (.slice ta n tc) b → b < w.heap.size) := hid h.fplt
  have HL0 : Hid (rdueL f 0 d.told = [] ++ rdueL (f - 0) 0 d.told) := hid rfl
  have HMN := hid hn
  have HTN : Hid (d.told.length = n) := hid (by rw [hl, hn])
  have HMF := hid hf
  have HBL : Hid (n ≤ 128) := hid (by have := h.bl; omega)
  have HNS : Hid (N s) := hid h.ns
  have HNT : Hid (∀ b, (Value.slice ta n tc).ownBlock = some b → N b) := hid fun b e => (h.nt b e).1
  have HI0 : Hid (RSndIs w (fun b => N b ∨ w.heap.size ≤ b) s (.slice ia n ic) (.slice ta n tc) { d with told := List.replicate 0 true ++ d.told.drop 0, once := d.once, more := d.more }) := hid (h.less (fun b e => .inl (h.fp b e)) fun b e => e)
  obtain ⟨i0, hi, hz0, hz1, hz2⟩ := info_parts infoIt
  clear h hN hl hn hf
  go_enter Try.func42, Try.ntmps42
  go_wp2_with fail
  go_loopw [3, 4] (fun v i wr => ∃ (k : Nat) (xs : List (List Value)) (dn : List Nat) (o m : Nat), i = .int .i64 k ∧ k ≤ f ∧ Hid (OwnK wr w.heap.size 85 2 v xs) ∧ Hid (ElsAt wr (fun b => N b ∨ v.ownBlock = some b) xs ((dn.map (ritemD d)).map itemC)) ∧ Hid (RSndIs wr (fun b => N b ∨ w.heap.size ≤ b) s (.slice ia n ic) (.slice ta n tc) { d with told := List.replicate k true ++ d.told.drop k, once := o, more := m }) ∧ Hid (Mut (fun b => b = s ∨ (Value.slice ta n tc).ownBlock = some b) w wr) ∧ Hid (rdueL f 0 d.told = dn ++ rdueL (f - k) k d.told) ∧ Hid (dn.length ≤ k)) (fun _ i _ => f - (intOf i).toNat)
  case atStart => exact ⟨0, [], [], d.once, d.more, rfl, Nat.zero_le _, hid (OwnK.nil _ _ _ _), hid (ElsAt.nil _ _), HI0, hid (Mut.refl _ _), HL0, hid (Nat.le_refl _)⟩
  case round =>
    obtain ⟨k, xs, dn, o, m, rfl, hkf, HO, HX, HS, HM, HL, HDL⟩ := hrel
    rename World => wr
    have q0 := HS.out.box.c0
    have q1 := HS.out.box.c1
    by_cases hlt : k < f
    · have hkn : k < n := by have := HMF.out; omega
      have hk16 : k < 16 := by have := HMF.out; omega
      have t1 : decide ((k : Int) < (n : Int)) = true := decide_eq_true (by omega)
      have t2 : decide (k < n) = true := decide_eq_true hkn
      have t3 : decide ((k : Int) < 16) = true := decide_eq_true (by omega)
      have t4 : decide (k < 16) = true := decide_eq_true hk16
      have hkt : k < d.told.length := by rw [HTN.out]; exact hkn
      have hkl : k < (List.replicate k true ++ d.told.drop k).length := by simp; omega
      have HSTP := hid (rdueL_step (t := d.told) hlt)
      have hgd : d.told.getD k false = d.told[k] := by rw [List.getD_eq_getElem?_getD, List.getElem?_eq_getElem hkt]; rfl
      obtain ⟨g, off, cap, e, -, hc0, -, -⟩ := HS.out.tset (i := k) hkl true
      injection e with e1 e2 e3
      subst e1
      clear e2 e3
      have hc : wr.cell? ⟨g, off + k, none⟩ = some (.bool d.told[k]) := by rw [hc0]; simp only [told_get hkt]
      clear hc0
      obtain ⟨bt, hbt⟩ : ∃ bt, d.told[k] = bt := ⟨_, rfl⟩
      rw [hbt] at hc hgd
      have HBT := hid hbt
      have HGD := hid hgd
      have HKT := hid hkt
      have HKL := hid hkl
      have HKF := hid hlt
      clear hgd hbt
      cases bt
      · obtain ⟨p, hp⟩ : ∃ p, d.items[k]? = some p := ⟨_, List.getElem?_eq_getElem (by rw [HMN.out]; exact hkn)⟩
        obtain ⟨ga, oa, ca, u, e, hg, i0', i1', hiu⟩ := HS.out.item (i := k) (p := p) hp
        injection e with e1 e2 e3
        subst e1
        clear e2 e3
        obtain ⟨ua, uc, rfl, -, -, -⟩ := id hiu
        obtain ⟨ul, hul⟩ : ∃ ul, p.2.length = ul := ⟨_, rfl⟩
        rw [hul] at i1' hiu
        obtain ⟨wC, hwC⟩ : ∃ wC, wr.alloc (.cells #[.int .u64 p.1, .slice ua ul uc] 85) = wC := ⟨_, rfl⟩
        have hbC : Below wr.heap.size wr wC := by rw [← hwC]; exact (Below.refl _ _).alloc (Nat.le_refl _) _
        have HC2 : Hid (wC.cell? ⟨wr.heap.size, 0, none⟩ = some (.int .u64 p.1) ∧ wC.cell? ⟨wr.heap.size, 1, none⟩ = some (.slice ua ul uc)) := hid (by rw [← hwC]; exact ⟨by simp, by simp⟩)
        have HBC := hid hbC
        have HIU := hid hiu
        have HP := hid hp
        have HXL : Hid (xs.length + 1 ≤ 1000000) := hid (by have h1 := HX.out.1; have h2 := HDL.out; have h3 := HBL.out; simp at h1; omega)
        clear hiu hbC hul hp hg
        go_wp2_with (at_builtin; refine wpList_appendE (el := [.int .u64 p.1, .slice ua ul uc]) (b := wr.heap.size) Try.underlying65 hi hz0 hz1 hz2 rfl (by decide) (by decide) (HO.out.ext HBC.out) rfl (els2R rfl rfl).2 (cells2R HC2.out.1 HC2.out.2) HXL.out (Nat.le_trans HM.out.size HBC.out.size) rfl rfl rfl rfl ?_; intro v4 w4 hown4 hm4 hn4)
        have hAP := rdue_app (p := p) HS.out HX.out HO.out HM.out HFP.out HIU.out HBC.out hm4 hn4
        obtain ⟨hS4, hX4, hM4⟩ := hAP
        have c40 := hS4.box.c0
        have c43 := hS4.box.c3
        have c44 := hS4.box.c4
        have HLL : Hid (rdueL f 0 d.told = (dn ++ [k]) ++ rdueL (f - (k + 1)) (k + 1) d.told) := hid (by rw [HL.out, HSTP.out, HGD.out, if_neg Bool.false_ne_true, List.append_assoc]; rfl)
        obtain ⟨ga', oa', ca', u', e', -, c4i, -, -⟩ := hS4.item (i := k) (p := p) HP.out
        injection e' with e1' e2' e3'
        injection e1' with e1'
        injection e1' with e1' e4'
        subst e1'
        subst e4'
        clear e2' e3'
        clear HS HX HO HM HIU HBC HC2 hwC q0 q1 i0' i1' hc
        have hpq : p.1 < 18446744073709551616 := hS4.bq p (List.mem_of_getElem? HP.out)
        by_cases hgt : o < p.1
        · have z1 : decide ((p.1 : Int) > (o : Int)) = true := decide_eq_true (by omega)
          have z2 : decide (o < p.1) = true := decide_eq_true hgt
          have e0 := cell_extY0 c40
          have e3 := cell_extY0 c43
          have ei := cell_extY0 c4i
          clear hgt
          refine wp_region_ext (w := w4) (Below.refl _ _) (by kernel_rfl) (by kernel_rfl) ?_
          repeat (go_big_quiet_step (fail))
          refine wpQuiet_nil ?_
          rintro w9 ⟨⟨_, hb9⟩, rfl⟩
          have hS9 := hS4.ext hb9
          have c90 := hS9.box.c0
          have c93 := hS9.box.c3
          have f93 := hS9.box.f 3
          have c9i : w9.cell? ⟨ga, oa + k * 2, none⟩ = some (.int .u64 p.1) := cell_toB c4i hb9
          have hM9 := hM4.trans (Mut.of_below hb9)
          obtain ⟨g9, o9, cp9, e9, h51, h5c, h5f, hS6, hM6⟩ := rdue_mark3 hS9 (k := k) HKL.out p.1 hpq
          injection e9 with e91 e92 e93
          injection e91 with e91
          injection e91 with e91 e94
          subst e91
          subst e94
          clear e92 e93
          obtain ⟨w5, hw5⟩ : ∃ w5, w9.setCell ⟨s, 3, none⟩ (.int .u64 p.1) = w5 := ⟨_, rfl⟩
          rw [hw5] at h51 h5c h5f hS6 hM6
          obtain ⟨bo, hbo⟩ : ∃ bo, (List.replicate k true ++ d.told.drop k)[k]'(HKL.out) = bo := ⟨_, rfl⟩
          simp only [hbo] at h5c
          have hset := told_set HKT.out
          simp only [hset] at hS6
          have HS6 := hid hS6
          have HM6 := hid (hM9.trans hM6)
          have HX6 : Hid (ElsAt (w5.setCell ⟨g, off + k, none⟩ (.bool true)) (fun b => N b ∨ v4.ownBlock = some b) (xs ++ [[.int .u64 p.1, .slice ua ul uc]]) (((dn ++ [k]).map (ritemD d)).map itemC)) := hid (by
            have h1 := ((hX4.mut (Mut.of_below (F := fun _ => False) hb9) (fun _ _ e => e.elim)).mut hM6 fun b _ e => by
              rcases e with e | e
              · rw [e]; exact .inl HNS.out
              · exact .inl (HNT.out b e))
            have e : ((dn ++ [k]).map (ritemD d)).map itemC = (dn.map (ritemD d)).map itemC ++ [itemC p] := by
              rw [List.map_append, List.map_append]
              have : ritemD d k = p := by unfold ritemD; rw [List.getD_eq_getElem?_getD, HP.out]; rfl
              simp [this]
            rw [e]; exact h1)
          have HO6 : Hid (OwnK (w5.setCell ⟨g, off + k, none⟩ (.bool true)) w.heap.size 85 2 v4 (xs ++ [[.int .u64 p.1, .slice ua ul uc]])) := hid ((hown4.ext hb9).mut hM6 fun b e e2 => by
            have h1 := (hown4.blk e).1
            rcases e2 with e2 | e2
            · have := HNN.out b (by rw [e2]; exact HNS.out); omega
            · have := HNN.out b (HNT.out b e2); omega)
          clear hS4 hX4 hM4 hS9 hM9 hS6 hM6 hset hbo hb9 e0 e3 ei c40 c43 c44 c4i hown4 hm4 hn4
          go_wp2_with fail
          refine ⟨⟨k + 1, _, dn ++ [k], _, _, by go_num, by have := HKF.out; omega, HO6, HX6, HS6, HM6, HLL, hid (by have := HDL.out; simp; omega)⟩, ?_⟩
          simp [intOf]; have := HKF.out; omega
        · have z1 : decide ((p.1 : Int) > (o : Int)) = false := decide_eq_false (by omega)
          have z2 : decide (o < p.1) = false := decide_eq_false hgt
          obtain ⟨q, hwq, hq⟩ : ∃ q : Nat, IntKind.u64.wrap ((m : Int) + 1) = (q : Int) ∧ q < 18446744073709551616 := ⟨_, (wrap_nat _).1, (wrap_nat _).2⟩
          have e0 := cell_extY0 c40
          have e3 := cell_extY0 c43
          have ei := cell_extY0 c4i
          clear hgt
          refine wp_region_ext (w := w4) (Below.refl _ _) (by kernel_rfl) (by kernel_rfl) ?_
          repeat (go_big_quiet_step (fail))
          refine wpQuiet_nil ?_
          rintro w9 ⟨⟨_, hb9⟩, rfl⟩
          have hS9 := hS4.ext hb9
          have c90 := hS9.box.c0
          have c93 := hS9.box.c4
          have f93 := hS9.box.f 4
          have c9i : w9.cell? ⟨ga, oa + k * 2, none⟩ = some (.int .u64 p.1) := cell_toB c4i hb9
          have hM9 := hM4.trans (Mut.of_below hb9)
          obtain ⟨g9, o9, cp9, e9, h51, h5c, h5f, hS6, hM6⟩ := rdue_mark4 hS9 (k := k) HKL.out q hq
          injection e9 with e91 e92 e93
          injection e91 with e91
          injection e91 with e91 e94
          subst e91
          subst e94
          clear e92 e93
          obtain ⟨w5, hw5⟩ : ∃ w5, w9.setCell ⟨s, 4, none⟩ (.int .u64 q) = w5 := ⟨_, rfl⟩
          rw [hw5] at h51 h5c h5f hS6 hM6
          obtain ⟨bo, hbo⟩ : ∃ bo, (List.replicate k true ++ d.told.drop k)[k]'(HKL.out) = bo := ⟨_, rfl⟩
          simp only [hbo] at h5c
          have hset := told_set HKT.out
          simp only [hset] at hS6
          have HS6 := hid hS6
          have HM6 := hid (hM9.trans hM6)
          have HX6 : Hid (ElsAt (w5.setCell ⟨g, off + k, none⟩ (.bool true)) (fun b => N b ∨ v4.ownBlock = some b) (xs ++ [[.int .u64 p.1, .slice ua ul uc]]) (((dn ++ [k]).map (ritemD d)).map itemC)) := hid (by
            have h1 := ((hX4.mut (Mut.of_below (F := fun _ => False) hb9) (fun _ _ e => e.elim)).mut hM6 fun b _ e => by
              rcases e with e | e
              · rw [e]; exact .inl HNS.out
              · exact .inl (HNT.out b e))
            have e : ((dn ++ [k]).map (ritemD d)).map itemC = (dn.map (ritemD d)).map itemC ++ [itemC p] := by
              rw [List.map_append, List.map_append]
              have : ritemD d k = p := by unfold ritemD; rw [List.getD_eq_getElem?_getD, HP.out]; rfl
              simp [this]
            rw [e]; exact h1)
          have HO6 : Hid (OwnK (w5.setCell ⟨g, off + k, none⟩ (.bool true)) w.heap.size 85 2 v4 (xs ++ [[.int .u64 p.1, .slice ua ul uc]])) := hid ((hown4.ext hb9).mut hM6 fun b e e2 => by
            have h1 := (hown4.blk e).1
            rcases e2 with e2 | e2
            · have := HNN.out b (by rw [e2]; exact HNS.out); omega
            · have := HNN.out b (HNT.out b e2); omega)
          clear hS4 hX4 hM4 hS9 hM9 hS6 hM6 hset hbo hb9 e0 e3 ei c40 c43 c44 c4i hown4 hm4 hn4
          go_wp2_with fail
          refine ⟨⟨k + 1, _, dn ++ [k], _, _, by go_num, by have := HKF.out; omega, HO6, HX6, HS6, HM6, HLL, hid (by have := HDL.out; simp; omega)⟩, ?_⟩
          simp [intOf]; have := HKF.out; omega
      · have HSS : Hid (RSndIs wr (fun b => N b ∨ w.heap.size ≤ b) s (.slice ia n ic) (.slice (some ⟨g, off, none⟩) n tc) { d with told := List.replicate (k + 1) true ++ d.told.drop (k + 1), once := o, more := m }) := hid (by
          have e : List.replicate (k + 1) true ++ d.told.drop (k + 1) = List.replicate k true ++ d.told.drop k := by
            rw [List.drop_eq_getElem_cons HKT.out, HBT.out, List.replicate_succ', List.append_assoc]; rfl
          rw [e]; exact HS.out)
        have HLL : Hid (rdueL f 0 d.told = dn ++ rdueL (f - (k + 1)) (k + 1) d.told) := hid (by rw [HL.out, HSTP.out, HGD.out, if_pos rfl])
        clear hkl
        go_wp2_with fail
        refine ⟨⟨k + 1, xs, dn, o, m, by go_num, by omega, HO, HX, HSS, HM, HLL, hid (by have := HDL.out; omega)⟩, ?_⟩
        simp [intOf]; omega
    · have hkf2 : k = f := by omega
      subst hkf2
      have HR : Hid (RDueR w wr N s (.slice ia n ic) (.slice ta n tc) d u3 xs o m) := hid (by
        have hd : rdueL k 0 d.told = dn := by rw [HL.out, Nat.sub_self]; simp [rdueL]
        have hfk : min d.items.length 16 = k := by rw [HMN.out]; exact HMF.out
        refine ⟨HO.out, ?_, ?_, HM.out⟩
        · have h1 := HX.out
          unfold rdueI
          rw [hfk, hd]
          exact h1
        · have h1 := HS.out
          unfold rdueT
          rw [hfk]
          exact h1.less (fun b e => HI.out.fp b e) fun b e => .inl (.inl e))
      have hkn : k ≤ n := by have := HMF.out; omega
      by_cases hkn2 : k < n
      · have hk16 : ¬ k < 16 := by have := HMF.out; omega
        have t1 : decide ((k : Int) < (n : Int)) = true := decide_eq_true (by omega)
        have t2 : decide (k < n) = true := decide_eq_true hkn2
        have t3 : decide ((k : Int) < 16) = false := decide_eq_false (by omega)
        have t4 : decide (k < 16) = false := decide_eq_false hk16
        clear HO HX HS HM HL
        go_wp2_with fail
        go_ret
        exact ⟨_, _, _, _, rfl, HR.out⟩
      · have t1 : decide ((k : Int) < (n : Int)) = false := decide_eq_false (by omega)
        have t2 : decide (k < n) = false := decide_eq_false hkn2
        clear HO HX HS HM HL
        go_wp2_with fail
        go_ret
        exact ⟨_, _, _, _, rfl, HR.out⟩
end Go.Proofs.Ytidohmpnefcpcaa

