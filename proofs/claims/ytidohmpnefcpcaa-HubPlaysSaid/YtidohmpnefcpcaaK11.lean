/- Parts of the proof: K11. -/
import Derived.Test.YtidohmpnefcpcaaK10
namespace Go.Proofs.Ytidohmpnefcpcaa
open Go.RowKit
/-! ### the reference's hub: Send, Tick, Drop -/
abbrev RHubD := List (Pid × (RSnd × RLnk))
def rD (L : List RPeer) : RHubD := L.map fun y => (y.p, (y.s, y.k))
def ratD (p : Pid) : RHubD → Nat → Nat
  | [], i => i
  | y :: l, i => if aheadQ y.1 p = true then ratD p l (i + 1) else i
def rlinkD (D : RHubD) (p : Pid) : Option RHubD := match look p D with
  | some _ => some D
  | none => if D.length < 48 then some (D.take (ratD p D 0) ++ (p, (rsNew, rkNew)) :: D.drop (ratD p D 0)) else none
theorem ratD_rD (p : Pid) : ∀ (L : List RPeer) (i : Nat), ratD p (rD L) i = ratN p L i
  | [], _ => rfl
  | y :: l, i => by
    show (if aheadQ y.p p = true then ratD p (rD l) (i + 1) else i) = _
    rw [ratD_rD p l (i + 1)]; rfl
theorem look_rD {p : Pid} : ∀ {L : List RPeer}, p ∉ L.map (·.p) → look p (rD L) = none
  | [], _ => rfl
  | y :: l, h => by
    simp only [List.map_cons, List.mem_cons, not_or] at h
    simp only [rD, List.map_cons, look, if_neg h.1]
    exact look_rD h.2
theorem look_rD_at {A B : List RPeer} {y : RPeer} (h : y.p ∉ A.map (·.p)) : look y.p (rD (A ++ y :: B)) = some (y.s, y.k) := by
  induction A with
  | nil => simp [rD, look]
  | cons z l ih =>
    simp only [List.map_cons, List.mem_cons, not_or] at h
    simp only [rD, List.cons_append, List.map_cons, look, if_neg h.1]
    exact ih h.2
theorem ins_rD {A B : List RPeer} {y z : RPeer} (h : y.p ∉ A.map (·.p)) (hz : z.p = y.p) : ins y.p (z.s, z.k) (rD (A ++ y :: B)) = rD (A ++ z :: B) := by
  induction A with
  | nil => simp [rD, ins, hz]
  | cons u l ih =>
    simp only [List.map_cons, List.mem_cons, not_or] at h
    simp only [rD, List.cons_append, List.map_cons, ins, if_neg h.1]
    have := ih h.2
    simp only [rD] at this
    rw [this]
/-- made, in plain words -/
theorem RMadeR.plain {w w' : World} {N : Nat → Prop} {x : Nat} {sf : Pid} {lv : Value} {L : List RPeer} {p : Pid} {e : Ending} (h : RMadeR w w' N x sf lv L p e) :
    (e = .returned (.int .i64 (-1)) ∧ rlinkD (rD L) p = none ∧ Below w.heap.size w w') ∨
    ∃ N' lv' A y B, e = .returned (.int .i64 (A.length : Nat)) ∧ RHubR w w' N N' x sf lv L lv' (A ++ y :: B) ∧ y.p = p ∧ p ∉ A.map (·.p) ∧ rlinkD (rD L) p = some (rD (A ++ y :: B)) ∧ ((∃ z ∈ L, z.s = y.s ∧ z.k = y.k) ∨ (y.s = rsNew ∧ y.k = rkNew)) := by
  rcases h with ⟨e1, e2, e3, e4⟩ | ⟨N', lv', A, y, B, e1, e2, e3, e4⟩
  · refine .inl ⟨e1, ?_, e4⟩
    unfold rlinkD
    rw [look_rD e2]
    simp only
    rw [if_neg (by simp [rD]; omega)]
  · refine .inr ⟨N', lv', A, y, B, e1, e2, e3, ?_⟩
    rcases e4 with ⟨rfl, h2⟩ | ⟨h1, h2, h3, h4, h5, h6⟩
    · refine ⟨h2, ?_, .inl ⟨y, by simp, rfl, rfl⟩⟩
      unfold rlinkD
      rw [← e3, look_rD_at (by rw [e3]; exact h2)]
    · refine ⟨fun h => h1 (by rw [h3] at h; exact List.mem_of_mem_take (by rw [List.map_take] at h; exact h)), ?_, .inr ⟨h5, h6⟩⟩
      unfold rlinkD
      rw [look_rD h1]
      simp only
      rw [if_pos (by simp [rD]; omega), ratD_rD, h3, h4]
      simp [rD, e3, h5, h6]
def rsendD (sf : Pid) (D : RHubD) (p : Pid) (bs : List Nat) : Int × RHubD :=
  if p = sf ∨ mayR p = false then (1, D)
  else match rlinkD D p with
    | none => (7, D)
    | some D' => match look p D' with
      | none => (7, D')
      | some d => (rputC d.1 bs, ins p (rputD d.1 bs, d.2) D')
/-- what holds of each peer -/
def RFit (y : RPeer) : Prop := y.s.told.length = y.s.items.length ∧ y.s.puts < 4611686018427387904
theorem RHubR.sent {w w' : World} {N : Nat → Prop} {x : Nat} {sf : Pid} {lv : Value} {A B : List RPeer} {y : RPeer} {iv' tv' : Value} {s' : RSnd} (H : RHubIs w N x sf lv (A ++ y :: B)) (hN : ∀ b, N b → b < w.heap.size) (R : RSndR w w' N y.sb y.iv y.tv s' iv' tv') :
    ∃ N', RHubR w w' N N' x sf lv (A ++ y :: B) lv (A ++ { y with s := s', iv := iv', tv := tv' } :: B) := by
  have hp := H.pr y (by simp)
  have hz := R.mt.size
  have hfz : ∀ b, fpY { y with s := s', iv := iv', tv := tv' } b → fpY y b ∨ w.heap.size ≤ b := fun b e => by
    rcases e with (e | e) | e
    · exact .inl (.inl (.inl e))
    · rcases R.new b e with e | e
      · exact .inl (.inl (.inr e))
      · exact .inr e
    · exact .inl (.inr e)
  refine ⟨_, RHubR.turn (z := { y with s := s', iv := iv', tv := tv' }) H hN (R.mt.mono fun b _ e => .inl e) ⟨?_, ?_, fun b e e2 => ?_, hp.ok⟩ rfl hfz⟩
  · exact R.is.less (fun b e => .inr (.inl e)) fun b e => by
      rcases e with e | e
      · exact .inl (.inl e)
      · rcases e with (e | e) | e
        · have e : b = y.sb := e
          rw [e]; exact .inl (.inl hp.s.ns)
        · exact .inl (.inr e)
        · exact .inl (.inl (hp.k.fp b e))
  · refine (hp.k.less (N' := fun b => N b ∨ fpY { y with s := s', iv := iv', tv := tv' } b) (fun b e => .inl (hp.k.fp b e)) fun b e => ?_).mut R.mt (fun b _ e => .inl (hp.s.fp b e)) fun b e e2 => hp.dis b e2 e
    rcases e with e | e
    · exact .inl e
    · exact (hfz b e).imp (hp.fp b) id
  · rcases e with e | e
    · exact hp.dis b (.inl e) e2
    · rcases R.new b e with e | e
      · exact hp.dis b (.inr e) e2
      · have := hp.k.fplt b e2; omega
set_option maxRecDepth 100000 in
set_option maxHeartbeats 6400000 in
theorem rsend_any {w : World} {N : Nat → Prop} {x : Nat} {sf : Pid} {lv : Value} {L : List RPeer} {ba : Option Addr} {bc n : Nat} {bs : List Nat} (H : RHubIs w N x sf lv L) (hN : ∀ b, N b → b < w.heap.size) (hF : ∀ y ∈ L, RFit y) (p1 p2 : Int) (hok : ok (p1, p2)) (hn : Hid (bs.length = n)) (hnl : n ≤ 549755813888) (hr : ByteRow w ba bs) (hx : ∀ x ∈ bs, x < 256) (hbl : ∀ b off, ba = some ⟨b, off, none⟩ → bs ≠ [] → ¬ fpX x lv L b) :
    Calls Try.prog 18 #[.pointer (some ⟨x, 0, none⟩), .agg #[.int .u16 p1, .int .u32 p2], .slice ba n bc] w fun e w' => e = .returned (.int .i64 (rsendD sf (rD L) (p1, p2) bs).1) ∧ ∃ N' lv' L', RHubR w w' N N' x sf lv L lv' L' ∧ rD L' = (rsendD sf (rD L) (p1, p2) bs).2 := by
  obtain ⟨W1, hW1⟩ : ∃ W1, w.alloc (.cells #[.int .u16 p1, .int .u32 p2] 30) = W1 := ⟨_, rfl⟩
  have hb1 : Below w.heap.size w W1 := by rw [← hW1]; exact (Below.refl _ _).alloc (Nat.le_refl _) _
  have d0 : W1.cell? ⟨w.heap.size, 0, none⟩ = some (.int .u16 p1) := by rw [← hW1]; simp
  have d1 : W1.cell? ⟨w.heap.size, 1, none⟩ = some (.int .u32 p2) := by rw [← hW1]; simp
  have H1 := H.ext hb1
  have HH := hid H
  have HH1 := hid H1
  have HB1 := hid hb1
  have HN0 := hid hN
  have HF0 := hid hF
  obtain ⟨s1, s2⟩ := sf
  have c0 := cell_extK H1.box.c0
  have c1 := cell_extK H1.box.c1
  have g0 := cell_extK d0
  have g1 := cell_extK d1
  have he := fun w => eql_pid p1 p2 s1 s2 w
  by_cases hsf : (p1, p2) = (s1, s2)
  · simp only [decide_eq_true hsf] at he
    have HQ : Hid (rsendD (s1, s2) (rD L) (p1, p2) bs = (1, rD L)) := hid (by unfold rsendD; rw [if_pos (.inl hsf)])
    clear H H1 hb1 hsf hN hF hr hbl hx
    go_enter Try.func18, Try.ntmps18
    go_wp2_with fail
    refine wp_region_ext (w := W1) (Below.refl _ _) (by kernel_rfl) (by kernel_rfl) ?_
    repeat (go_big_quiet_step (fail))
    refine wpQuiet_nil ?_
    rintro w9 ⟨⟨_, hb9⟩, rfl⟩
    go_wp2_with fail
    go_ret
    exact ⟨by rw [HQ.out]; rfl, N, lv, L, RHubR.same HH.out HN0.out (HB1.out.trans (hb9.mono HB1.out.size)), by rw [HQ.out]⟩
  simp only [decide_eq_false hsf] at he
  obtain ⟨q, hq⟩ : ∃ q, mayR (p1, p2) = q := ⟨_, rfl⟩
  have CM : Hid (∀ W, Below W1.heap.size W1 W → Calls Try.prog 28 #[.agg #[.int .u16 p1, .int .u32 p2]] W fun e w' => e = .returned (.bool q) ∧ Below W.heap.size W w') := hid fun W _ => mayR_is (hid hq)
  cases q
  · have HQ : Hid (rsendD (s1, s2) (rD L) (p1, p2) bs = (1, rD L)) := hid (by unfold rsendD; rw [if_pos (.inr hq)])
    clear H H1 hb1 hsf hN hF hr hbl hx hq
    go_enter Try.func18, Try.ntmps18
    go_wp2_with fail
    refine wp_region_ext (w := W1) (Below.refl _ _) (by kernel_rfl) (by kernel_rfl) ?_
    repeat (go_big_quiet_step (with_reducible exact det_ext CM _))
    refine wpQuiet_nil ?_
    rintro w9 ⟨⟨_, hb9⟩, rfl⟩
    go_wp2_with fail
    go_ret
    exact ⟨by rw [HQ.out]; rfl, N, lv, L, RHubR.same HH.out HN0.out (HB1.out.trans (hb9.mono HB1.out.size)), by rw [HQ.out]⟩
  · have HQ : Hid (¬ ((p1, p2) = (s1, s2) ∨ mayR (p1, p2) = false)) := hid (by rintro (e | e); exact hsf e; rw [hq] at e; cases e)
    have HR := hid hr
    have HX := hid hx
    have HBL := hid hbl
    have HOK := hid hok
    clear H H1 hb1 hsf hN hF hr hbl hx hq hok
    go_enter Try.func18, Try.ntmps18
    go_wp2_with fail
    refine wp_region_ext (w := W1) (Below.refl _ _) (by kernel_rfl) (by kernel_rfl) ?_
    repeat (go_big_quiet_step (with_reducible exact det_ext CM _))
    refine wpQuiet_nil ?_
    rintro w9 ⟨⟨_, hb9⟩, rfl⟩
    have k0 := cell_toB d0 hb9
    have k1 := cell_toB d1 hb9
    have CD := hid (rmade_any (HH1.out.ext hb9) (fun b e => Nat.lt_of_lt_of_le (HN0.out b e) (Nat.le_trans HB1.out.size hb9.size)) p1 p2 HOK.out)
    have HBW := hid (HB1.out.trans (hb9.mono HB1.out.size))
    clear hb9 d0 d1 c0 c1 g0 g1 CM he
    go_wp2_with fail
    refine CD.out.mono ?_
    rintro e w3 hmr
    rcases hmr.plain with ⟨rfl, hd, hb3⟩ | ⟨N', lv', A, y, B, rfl, HR3, hp, hA, hd, hnew⟩
    · have HE : Hid (rsendD (s1, s2) (rD L) (p1, p2) bs = (7, rD L)) := hid (by unfold rsendD; rw [if_neg HQ.out, hd])
      clear hd hmr CD
      go_wp2_with fail
      go_ret
      exact ⟨by rw [HE.out]; rfl, N, lv, L, RHubR.same HH.out HN0.out (HBW.out.trans (hb3.mono HBW.out.size)), by rw [HE.out]⟩
    · have hRR := (RHubR.same HH.out HN0.out HBW.out).trans HR3
      have hpk := HR3.is.peer (i := A.length) (y := y) (by simp)
      obtain ⟨la, lc, hlit, -⟩ := HR3.is.lit
      obtain ⟨ln, hln⟩ : ∃ ln, (A ++ y :: B).length = ln := ⟨_, rfl⟩
      obtain ⟨an, han⟩ : ∃ an, A.length = an := ⟨_, rfl⟩
      rw [hln] at hlit hpk
      rw [han] at hpk ⊢
      subst hlit
      obtain ⟨g, off, cap, e, -, -, -, q2, -⟩ := hpk
      injection e with e1 e2 e3
      subst e1
      clear e2 e3
      have hal : an < ln := by rw [← han, ← hln]; simp
      have hl48 : ln ≤ 48 := by rw [← hln]; exact HR3.is.lim
      have t1 : decide ((an : Int) < 0) = false := decide_eq_false (by omega)
      have c2 := HR3.is.box.c2
      have hps := (HR3.is.pr y (by simp)).s
      have hfit : RFit y := by
        rcases hnew with ⟨z, hz, h1, h2⟩ | ⟨h1, -⟩
        · have := HF0.out z hz
          unfold RFit at *
          rw [← h1]; exact this
        · unfold RFit; rw [h1]; decide
      have hr3 : ByteRow w3 ba bs := HR.out.mutT hRR.mt HBL.out
      have hnfp : ∀ b off, ba = some ⟨b, off, none⟩ → bs ≠ [] → ¬ fpT y.sb y.iv y.tv b := fun b off e hne e2 => by
        rcases hRR.fq b (.inr (.inr ⟨y, by simp, .inl e2⟩)) with e3 | e3
        · exact HBL.out b off e hne e3
        · rcases HR.out with h0 | ⟨b', off', e', hlt, -⟩
          · exact hne h0
          · rw [e] at e'; cases e'; omega
      have CP := hid (rput_any (bc := bc) hps HR3.lt hfit.1 hfit.2 hn hnl hr3 HX.out hnfp)
      have HRR := hid hRR
      have HR3' := hid HR3
      have HE : Hid (rsendD (s1, s2) (rD L) (p1, p2) bs = (rputC y.s bs, ins (p1, p2) (rputD y.s bs, y.k) (rD (A ++ y :: B)))) := hid (by
        unfold rsendD
        rw [if_neg HQ.out, hd]
        simp only
        rw [← hp, look_rD_at (by rw [hp]; exact hA)])
      have HP := hid (And.intro hp hA)
      clear hmr hd hp hA hnew hRR HR3 hln han hps hfit hr3 hnfp k0 k1 CD
      go_wp2_with fail
      refine CP.out.mono ?_
      rintro e w4 ⟨rfl, iv', tv', hRS⟩
      have HRS := hid hRS
      clear hRS CP c2 q2
      go_wp2_with fail
      go_ret
      obtain ⟨N4, hS⟩ := RHubR.sent HR3'.out.is HR3'.out.lt HRS.out
      refine ⟨by rw [HE.out]; rfl, _, _, _, HRR.out.trans hS, ?_⟩
      rw [HE.out]
      have h := ins_rD (A := A) (B := B) (y := y) (z := { y with s := rputD y.s bs, iv := iv', tv := tv' }) (by rw [HP.out.1]; exact HP.out.2) rfl
      show rD (A ++ { y with s := rputD y.s bs, iv := iv', tv := tv' } :: B) = ins (p1, p2) (rputD y.s bs, y.k) (rD (A ++ y :: B))
      rw [← HP.out.1]
      exact h.symm
/-! Tick -/
def rtickD (D : RHubD) : RHubD := D.map fun y => (y.1, ({ y.2.1 with told := List.replicate y.2.1.told.length false }, y.2.2))
def rtickY (y : RPeer) : RPeer := { y with s := { y.s with told := List.replicate y.s.told.length false } }
theorem rtickD_rD (L : List RPeer) : rD (L.map rtickY) = rtickD (rD L) := by
  unfold rD rtickD
  rw [List.map_map, List.map_map]
  rfl
set_option maxRecDepth 100000 in
set_option maxHeartbeats 6400000 in
theorem rhtick_any {w : World} {N : Nat → Prop} {x : Nat} {sf : Pid} {lv : Value} {L : List RPeer} (H : RHubIs w N x sf lv L) (hN : ∀ b, N b → b < w.heap.size) (hF : ∀ y ∈ L, RFit y) :
    Calls Try.prog 19 #[.pointer (some ⟨x, 0, none⟩)] w fun e w' => e = .returned (.tuple #[]) ∧ ∃ L', RHubR w w' N N x sf lv L lv L' ∧ rD L' = rtickD (rD L) := by
  obtain ⟨la, lc, hlit, -⟩ := H.lit
  obtain ⟨n, hn⟩ : ∃ n, L.length = n := ⟨_, rfl⟩
  rw [hn] at hlit
  subst hlit
  have HN := hid hn
  have hn48 : n ≤ 48 := by have := H.lim; omega
  have HN0 := hid hN
  have HF0 := hid hF
  have HR0 : Hid (RHubR w w N N x sf (.slice la n lc) L (.slice la n lc) ((L.take 0).map rtickY ++ L.drop 0)) := hid (by simpa using RHubR.same H hN (Below.refl _ _))
  clear H hN hF hn
  go_enter Try.func19, Try.ntmps19
  go_wp2_with fail
  go_loopw [2] (fun kv wr => ∃ k : Nat, kv = .int .i64 k ∧ k ≤ n ∧ Hid (RHubR w wr N N x sf (.slice la n lc) L (.slice la n lc) ((L.take k).map rtickY ++ L.drop k))) (fun kv _ => n - (intOf kv).toNat)
  case atStart => exact ⟨0, rfl, Nat.zero_le _, HR0⟩
  case round =>
    obtain ⟨k, rfl, hk, HR⟩ := hrel
    rename World => wr
    have c2 := HR.out.is.box.c2
    by_cases hlt : k < n
    · have t1 : decide ((k : Int) < (n : Int)) = true := decide_eq_true (by omega)
      have t2 : decide (k < n) = true := decide_eq_true hlt
      have hkl : k < L.length := by rw [HN.out]; exact hlt
      obtain ⟨y, hy⟩ : ∃ y, L[k] = y := ⟨_, rfl⟩
      have hdr : L.drop k = y :: L.drop (k + 1) := by rw [List.drop_eq_getElem_cons hkl, hy]
      have htl : ((L.take k).map rtickY).length = k := by rw [List.length_map, List.length_take]; omega
      have hR := HR.out
      rw [hdr] at hR
      have hpk := hR.is.peer (i := k) (y := y) (by rw [List.getElem?_append_right (by omega), htl, Nat.sub_self]; rfl)
      have hll : ((L.take k).map rtickY ++ y :: L.drop (k + 1)).length = n := by rw [← hdr, List.length_append, htl, List.length_drop, HN.out]; omega
      rw [hll] at hpk
      obtain ⟨g, off, cap, e, -, -, -, q2, -⟩ := hpk
      injection e with e1 e2 e3
      subst e1
      clear e2 e3
      have hyL : y ∈ L := by rw [← hy]; exact List.getElem_mem _
      have hps := hR.is.pr y (by simp)
      have CT := hid (rtick_any hps.s (by have := (HF0.out y hyL).1; have := hps.s.bl; omega))
      have HRR := hid hR
      have HPS := hid hps
      have HTK : Hid ((L.take (k + 1)).map rtickY = (L.take k).map rtickY ++ [rtickY y]) := hid (by rw [List.take_succ_eq_append_getElem hkl, hy, List.map_append]; rfl)
      clear hR hps hdr htl hll hyL hy hkl
      go_wp2_with fail
      refine CT.out.mono ?_
      rintro e w4 ⟨rfl, hI4, hM4⟩
      have hz : PeerIs w4 N (rtickY y) := ⟨hI4, HPS.out.k.mut hM4 (fun b _ e => (HPS.out.s.nt b e).1) fun b e e2 => HPS.out.dis b (.inr (.inr e2)) e, HPS.out.dis, HPS.out.ok⟩
      have hT := RHubR.turn (z := rtickY y) HRR.out.is HRR.out.lt (hM4.mono fun b _ e => .inl (.inr (.inr e))) (hz.less (fun b e => .inr e) (fun b e => .inl (e.elim id fun e => hz.fp b e))) rfl (fun b e => .inl e)
      have hT2 : RHubR wr w4 N N x sf (.slice (some ⟨g, off, none⟩) n lc) ((L.take k).map rtickY ++ y :: L.drop (k + 1)) (.slice (some ⟨g, off, none⟩) n lc) ((L.take k).map rtickY ++ rtickY y :: L.drop (k + 1)) :=
        ⟨hT.is.less (fun b e => by
          rcases hT.nw b (hT.is.fp b e) with e2 | e2
          · exact e2
          · rcases hT.is.fp b e with e3 | e3
            · exact e3
            · exact hz.fp b e3) (fun b e => .inl (.inl e)), fun b e => e, fun b e => .inl e, fun b e => hT.lt b (.inl e), hT.mt, hT.fq⟩
      have hfin := HRR.out.trans hT2
      have HFIN : Hid (RHubR w w4 N N x sf (.slice (some ⟨g, off, none⟩) n lc) L (.slice (some ⟨g, off, none⟩) n lc) ((L.take (k + 1)).map rtickY ++ L.drop (k + 1))) := hid (by rw [HTK.out, List.append_assoc]; exact hfin)
      clear hz hT hT2 hfin hI4 hM4 CT q2 c2
      go_wp2_with fail
      refine ⟨⟨k + 1, by go_num, by omega, HFIN⟩, ?_⟩
      simp [intOf]; omega
    · have hkn : k = n := by omega
      have t1 : decide ((k : Int) < (n : Int)) = false := decide_eq_false (by omega)
      have t2 : decide (k < n) = false := decide_eq_false hlt
      go_wp2_with fail
      go_end0
      refine ⟨rfl, _, HR.out, ?_⟩
      rw [List.take_of_length_le (by rw [HN.out]; omega), List.drop_eq_nil_of_le (by rw [HN.out]; omega), List.append_nil, rtickD_rD]
end Go.Proofs.Ytidohmpnefcpcaa

