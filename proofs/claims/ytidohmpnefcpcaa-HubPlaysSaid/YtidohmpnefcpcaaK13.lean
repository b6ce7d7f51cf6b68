/- Parts of the proof: K13. -/
import Derived.Test.YtidohmpnefcpcaaKJ
namespace Go.Proofs.Ytidohmpnefcpcaa
open Go.RowKit
/-! ### the reference's hub: Arrive -/
def rarriveD (sf : Pid) (D : RHubD) (k : PackD) : List (List Nat) × RHubD :=
  if k.dst ≠ sf ∨ k.fr = sf ∨ mayR k.fr = false then ([], D)
  else if k.kind = 2 then match rlinkD D k.fr with
    | none => ([], D)
    | some D' => match look k.fr D' with
      | none => ([], D')
      | some d => (takeL (rtakeD d.2) k.seq k.body, ins k.fr (d.1, ⟨(takeD (rtakeD d.2) k.seq k.body).upto, (takeD (rtakeD d.2) k.seq k.body).held, true⟩) D')
  else if k.kind = 3 then match look k.fr D with
    | none => ([], D)
    | some d => ([], ins k.fr (rackD k.seq d.1, d.2) D)
  else ([], D)
theorem below_mutR {G : Nat → Prop} {w0 w w' : World} (h : Below w0.heap.size w0 w) (hm : Mut G w w') (hG : ∀ k, G k → w0.heap.size ≤ k) : Below w0.heap.size w0 w' :=
  h.trans ⟨hm.os, hm.tape, hm.output, hm.size, fun k hk => hm.block k (Nat.lt_of_lt_of_le hk h.size) fun e => by have := hG k e; omega⟩
structure RArrR (w w' : World) (N N' : Nat → Prop) (x : Nat) (sf : Pid) (lv : Value) (L : List RPeer) (lv' : Value) (L' : List RPeer) (fr : Pid) (ls : List (List Nat)) (v : Value) (xs : List (List Value)) : Prop where
  hub : RHubR w w' N N' x sf lv L lv' L'
  row : OwnK w' w.heap.size 43 3 v xs
  els : ElsAt w' (fun b => N' b ∨ v.ownBlock = some b) xs (ls.map (gotC fr))
  nv : ∀ g, v.ownBlock = some g → ¬ N' g
theorem RArrR.none {w w' : World} {N N' : Nat → Prop} {x : Nat} {sf fr : Pid} {lv lv' : Value} {L L' : List RPeer} (H : RHubR w w' N N' x sf lv L lv' L') : RArrR w w' N N' x sf lv L lv' L' fr [] (.slice none 0 0) [] :=
  ⟨H, OwnK.nil _ _ _ _, ElsAt.nil _ _, fun g e => by cases e⟩
/-- bounds of a peer -/
structure RFit2 (B : Nat) (y : RPeer) : Prop where
  f : RFit y
  u : y.k.upto + y.k.held.length ≤ B
  h : y.k.held.length ≤ B
set_option maxRecDepth 100000 in
set_option maxHeartbeats 12800000 in
theorem rarrive_any {w : World} {N : Nat → Prop} {x B : Nat} {sf : Pid} {lv : Value} {L : List RPeer} {kd f1 f2 t1 t2 : Int} {sq n bc : Nat} {ba : Option Addr} {bs : List Nat} (H : RHubIs w N x sf lv L) (hN : ∀ b, N b → b < w.heap.size) (hF : ∀ y ∈ L, RFit2 B y) (hB : B ≤ 900000) (hok : ok (f1, f2)) (hsq : sq < 18446744073709551616) (hn : Hid (bs.length = n)) (hnl : n ≤ 549755813888) (hr : ByteRow w ba bs) (hx : ∀ x ∈ bs, x < 256) (hbl : ∀ b off, ba = some ⟨b, off, none⟩ → bs ≠ [] → ¬ fpX x lv L b) :
    Calls Try.prog 25 #[.pointer (some ⟨x, 0, none⟩), .agg #[.int .i64 kd, .int .u16 f1, .int .u32 f2, .int .u16 t1, .int .u32 t2, .int .u64 sq, .slice ba n bc]] w fun e w' => ∃ v, e = .returned v ∧ ∃ N' lv' L' xs, RArrR w w' N N' x sf lv L lv' L' (f1, f2) (rarriveD sf (rD L) ⟨kd, (f1, f2), (t1, t2), sq, bs⟩).1 v xs ∧ rD L' = (rarriveD sf (rD L) ⟨kd, (f1, f2), (t1, t2), sq, bs⟩).2 := by
  obtain ⟨W1, hW1⟩ : ∃ W1, w.alloc (.cells #[.int .i64 kd, .int .u16 f1, .int .u32 f2, .int .u16 t1, .int .u32 t2, .int .u64 sq, .slice ba n bc] 41) = W1 := ⟨_, rfl⟩
  have hb1 : Below w.heap.size w W1 := by rw [← hW1]; exact (Below.refl _ _).alloc (Nat.le_refl _) _
  have p0 : W1.cell? ⟨w.heap.size, 0, none⟩ = some (.int .i64 kd) := by rw [← hW1]; simp
  have p1 : W1.cell? ⟨w.heap.size, 1, none⟩ = some (.int .u16 f1) := by rw [← hW1]; simp
  have p2 : W1.cell? ⟨w.heap.size, 2, none⟩ = some (.int .u32 f2) := by rw [← hW1]; simp
  have p3 : W1.cell? ⟨w.heap.size, 3, none⟩ = some (.int .u16 t1) := by rw [← hW1]; simp
  have p4 : W1.cell? ⟨w.heap.size, 4, none⟩ = some (.int .u32 t2) := by rw [← hW1]; simp
  have p5 : W1.cell? ⟨w.heap.size, 5, none⟩ = some (.int .u64 sq) := by rw [← hW1]; simp
  have p6 : W1.cell? ⟨w.heap.size, 6, none⟩ = some (.slice ba n bc) := by rw [← hW1]; simp
  have hz1 : w.heap.size < W1.heap.size := by rw [← hW1]; simp
  have H1 := H.ext hb1
  have HH := hid H
  have HH1 := hid H1
  have HB1 := hid hb1
  have HN0 := hid hN
  have HF0 := hid hF
  have HZ1 := hid hz1
  have HPC : Hid (∀ W, Below W1.heap.size W1 W → W.cell? ⟨w.heap.size, 0, none⟩ = some (.int .i64 kd) ∧ W.cell? ⟨w.heap.size, 1, none⟩ = some (.int .u16 f1) ∧ W.cell? ⟨w.heap.size, 2, none⟩ = some (.int .u32 f2) ∧ W.cell? ⟨w.heap.size, 5, none⟩ = some (.int .u64 sq) ∧ W.cell? ⟨w.heap.size, 6, none⟩ = some (.slice ba n bc)) := hid fun W hb => ⟨cell_toB p0 hb, cell_toB p1 hb, cell_toB p2 hb, cell_toB p5 hb, cell_toB p6 hb⟩
  obtain ⟨s1, s2⟩ := sf
  have c0 := cell_extK H1.box.c0
  have c1 := cell_extK H1.box.c1
  have g1 := cell_extK p1
  have g2 := cell_extK p2
  have g3 := cell_extK p3
  have g4 := cell_extK p4
  have hne := fun w => neq_pid t1 t2 s1 s2 w
  have heq := fun w => eql_pid f1 f2 s1 s2 w
  obtain ⟨q, hq⟩ : ∃ q, mayR (f1, f2) = q := ⟨_, rfl⟩
  have CM : Hid (∀ W, Below W1.heap.size W1 W → Calls Try.prog 28 #[.agg #[.int .u16 f1, .int .u32 f2]] W fun e w' => e = .returned (.bool q) ∧ Below W.heap.size W w') := hid fun W _ => mayR_is (hid hq)
  obtain ⟨qt, hto⟩ : ∃ qt, (!decide ((t1, t2) = (s1, s2))) = qt := ⟨_, rfl⟩
  obtain ⟨qf, hfo⟩ : ∃ qf, decide ((f1, f2) = (s1, s2)) = qf := ⟨_, rfl⟩
  simp only [hto] at hne
  simp only [hfo] at heq
  by_cases hout : qt = true ∨ qf = true ∨ q = false
  · have HQ : Hid (rarriveD (s1, s2) (rD L) ⟨kd, (f1, f2), (t1, t2), sq, bs⟩ = ([], rD L)) := hid (by
      unfold rarriveD
      rw [if_pos]
      rcases hout with h | h | h
      · rw [h] at hto; exact .inl fun e => by rw [decide_eq_true e] at hto; cases hto
      · rw [h] at hfo; exact .inr (.inl (by simpa using hfo))
      · rw [h] at hq; exact .inr (.inr hq))
    clear H H1 hN hb1 p0 p1 p2 p3 p4 p5 p6 hto hfo hq hr hbl hF hx
    have fin : ∀ w9, Below W1.heap.size W1 w9 → ∃ v, Ending.returned (Value.slice none 0 0) = Ending.returned v ∧ ∃ N' lv' L' xs, RArrR w w9 N N' x (s1, s2) lv L lv' L' (f1, f2) (rarriveD (s1, s2) (rD L) ⟨kd, (f1, f2), (t1, t2), sq, bs⟩).1 v xs ∧ rD L' = (rarriveD (s1, s2) (rD L) ⟨kd, (f1, f2), (t1, t2), sq, bs⟩).2 := fun w9 hb9 =>
      ⟨_, rfl, N, lv, L, [], by rw [HQ.out]; exact RArrR.none (RHubR.same HH.out HN0.out (HB1.out.trans (hb9.mono HB1.out.size))), by rw [HQ.out]⟩
    have FIN := hid fin
    clear fin
    cases qt
    · cases qf
      · have hqf : q = false := by simpa using hout
        subst hqf
        clear hout
        go_enter Try.func25, Try.ntmps25
        go_wp2_with fail
        refine wp_region_ext (w := W1) (Below.refl _ _) (by kernel_rfl) (by kernel_rfl) ?_
        repeat (go_big_quiet_step (with_reducible exact det_ext CM _))
        refine wpQuiet_nil ?_
        rintro w9 ⟨⟨_, hb9⟩, rfl⟩
        go_wp2_with fail
        go_ret
        exact FIN.out _ hb9
      · clear hout
        go_enter Try.func25, Try.ntmps25
        go_wp2_with fail
        refine wp_region_ext (w := W1) (Below.refl _ _) (by kernel_rfl) (by kernel_rfl) ?_
        repeat (go_big_quiet_step (with_reducible exact det_ext CM _))
        refine wpQuiet_nil ?_
        rintro w9 ⟨⟨_, hb9⟩, rfl⟩
        go_wp2_with fail
        go_ret
        exact FIN.out _ hb9
    · clear hout
      go_enter Try.func25, Try.ntmps25
      go_wp2_with fail
      refine wp_region_ext (w := W1) (Below.refl _ _) (by kernel_rfl) (by kernel_rfl) ?_
      repeat (go_big_quiet_step (with_reducible exact det_ext CM _))
      refine wpQuiet_nil ?_
      rintro w9 ⟨⟨_, hb9⟩, rfl⟩
      go_wp2_with fail
      go_ret
      exact FIN.out _ hb9
  · have ht : qt = false := by cases qt; rfl; exact absurd (.inl rfl) hout
    have hf' : qf = false := by cases qf; rfl; exact absurd (.inr (.inl rfl)) hout
    have hqt : q = true := by cases q; exact absurd (.inr (.inr rfl)) hout; rfl
    have HQ : Hid (¬ ((t1, t2) ≠ (s1, s2) ∨ (f1, f2) = (s1, s2) ∨ mayR (f1, f2) = false)) := hid (by
      rintro (h | h | h)
      · rw [ht] at hto; exact h (by simpa using hto)
      · rw [hf'] at hfo; exact (of_decide_eq_false hfo) h
      · rw [hq, hqt] at h; cases h)
    subst ht
    subst hf'
    subst hqt
    have HOK := hid hok
    by_cases hk2 : kd = 2
    · subst hk2
      have hk2b : ((2 : Int) == 2) = true := by decide
      have CE : Hid (rarriveD (s1, s2) (rD L) ⟨2, (f1, f2), (t1, t2), sq, bs⟩ = match rlinkD (rD L) (f1, f2) with
        | none => ([], rD L)
        | some D' => match look (f1, f2) D' with
          | none => ([], D')
          | some d => (takeL (rtakeD d.2) sq bs, ins (f1, f2) (d.1, ⟨(takeD (rtakeD d.2) sq bs).upto, (takeD (rtakeD d.2) sq bs).held, true⟩) D')) := hid (by unfold rarriveD; rw [if_neg HQ.out, if_pos rfl])
      have HR0 := hid hr
      have HX := hid hx
      have HBL := hid hbl
      clear H H1 hN hb1 p1 p2 p3 p4 p5 p6 hto hfo hq hr hbl hF hx hout hok
      go_enter Try.func25, Try.ntmps25
      go_wp2_with fail
      refine wp_region_ext (w := W1) (Below.refl _ _) (by kernel_rfl) (by kernel_rfl) ?_
      repeat (go_big_quiet_step (with_reducible exact det_ext CM _))
      refine wpQuiet_nil ?_
      rintro w9 ⟨⟨_, hb9⟩, rfl⟩
      obtain ⟨q0, q1, q2, q5, q6⟩ := HPC.out w9 hb9
      have HB9 := hid hb9
      have hbw9 := HB1.out.trans (hb9.mono HB1.out.size)
      have CD := hid (rmade_any (HH.out.ext hbw9) (fun b e => Nat.lt_of_lt_of_le (HN0.out b e) hbw9.size) f1 f2 HOK.out)
      have HBW := hid hbw9
      clear hb9 p0 c0 c1 g1 g2 g3 g4 CM hne heq hbw9
      go_wp2_with fail
      refine CD.out.mono ?_
      rintro e w3 hmr
      rcases hmr.plain with ⟨rfl, hd, hb3⟩ | ⟨N', lv', A, y, B', rfl, HR3, hp, hA, hd, hnew⟩
      · have HE : Hid (rarriveD (s1, s2) (rD L) ⟨2, (f1, f2), (t1, t2), sq, bs⟩ = ([], rD L)) := hid (by rw [CE.out, hd])
        clear hd hmr CD q0 q1 q2 q5 q6
        go_wp2_with fail
        go_ret
        exact ⟨_, rfl, N, lv, L, [], by rw [HE.out]; exact RArrR.none (RHubR.same HH.out HN0.out (HBW.out.trans (hb3.mono HBW.out.size))), by rw [HE.out]⟩
      · have hRR := (RHubR.same HH.out HN0.out HBW.out).trans HR3
        have hpk := HR3.is.peer (i := A.length) (y := y) (by simp)
        obtain ⟨la, lc, hlit, -⟩ := HR3.is.lit
        obtain ⟨ln, hln⟩ : ∃ ln, (A ++ y :: B').length = ln := ⟨_, rfl⟩
        obtain ⟨an, han⟩ : ∃ an, A.length = an := ⟨_, rfl⟩
        rw [hln] at hlit hpk
        rw [han] at hpk ⊢
        subst hlit
        obtain ⟨g, off, cap, e, hg, -, -, -, z3⟩ := hpk
        injection e with e1 e2 e3
        subst e1
        clear e2 e3
        have hal : an < ln := by rw [← han, ← hln]; simp
        have hl48 : ln ≤ 48 := by rw [← hln]; exact HR3.is.lim
        have tn1 : decide ((an : Int) < 0) = false := decide_eq_false (by omega)
        have c2 := HR3.is.box.c2
        have hpb : ∀ b, b = w.heap.size → ¬ fpX x lv L b := fun b e e2 => by have := HH.out.fplt b e2; omega
        have hpb9 : w.heap.size < w9.heap.size := Nat.lt_of_lt_of_le HZ1.out HB9.out.size
        have hk : ∀ j u, w9.cell? ⟨w.heap.size, j, none⟩ = some u → w3.cell? ⟨w.heap.size, j, none⟩ = some u := fun j u h => (HR3.mt.cell (p := ⟨w.heap.size, j, none⟩) (by exact hpb9) (by exact hpb _ rfl)).trans h
        have z0 := hk 0 _ q0
        have z1 := hk 1 _ q1
        have z2 := hk 2 _ q2
        have z5 := hk 5 _ q5
        have z6 := hk 6 _ q6
        have hps := HR3.is.pr y (by simp)
        have hfit : y.k.upto + y.k.held.length ≤ 900000 ∧ y.k.held.length ≤ 900000 := by
          rcases hnew with ⟨z, hz, h1, h2⟩ | ⟨-, h1⟩
          · have := HF0.out z hz
            rw [← h2]
            exact ⟨by have := this.u; omega, by have := this.h; omega⟩
          · rw [h1]; decide
        have hr3 : ByteRow w3 ba bs := HR0.out.mutT hRR.mt HBL.out
        have hnfp : ∀ b off, ba = some ⟨b, off, none⟩ → bs ≠ [] → ¬ fpK y.lb y.hv b := fun b off e hne e2 => by
          rcases hRR.fq b (.inr (.inr ⟨y, by simp, .inr e2⟩)) with e3 | e3
          · exact HBL.out b off e hne e3
          · rcases HR0.out with h0 | ⟨b', off', e', hlt, -⟩
            · exact hne h0
            · rw [e] at e'; cases e'; omega
        have CT := hid (rtake_any (q := sq) (bc := bc) (hps.k.ext (Below.refl _ _).drew) (fun b e => HR3.lt b e) (by omega) (by omega) hsq hn hnl (hr3.ext (Below.refl _ _).drew) HX.out hnfp)
        have hfp3 : ∀ b, fpK y.lb y.hv b → fpX x lv L b ∨ w9.heap.size ≤ b := fun b e => HR3.fq b (.inr (.inr ⟨y, by simp, .inr e⟩))
        have n1 : ¬ fpK y.lb y.hv x := fun e => (HR3.is.out y (by simp) x (.inr e)).1 rfl
        have n2 : ¬ fpK y.lb y.hv g := fun e => (HR3.is.out y (by simp) g (.inr e)).2 rfl
        have n3 : ¬ fpK y.lb y.hv w.heap.size := fun e => by
          rcases hfp3 _ e with e | e
          · exact hpb _ rfl e
          · omega
        have HRR := hid hRR
        have HR3' := hid HR3
        have HE : Hid (rarriveD (s1, s2) (rD L) ⟨2, (f1, f2), (t1, t2), sq, bs⟩ = (takeL (rtakeD y.k) sq bs, ins (f1, f2) (y.s, ⟨(takeD (rtakeD y.k) sq bs).upto, (takeD (rtakeD y.k) sq bs).held, true⟩) (rD (A ++ y :: B')))) := hid (by
          rw [CE.out, hd]
          simp only
          rw [← hp, look_rD_at (by rw [hp]; exact hA)])
        have HP := hid (And.intro hp hA)
        have HZC := hid (And.intro z0 (And.intro z1 z2))
        have HHL : Hid (y.k.held.length ≤ 900000) := hid hfit.2
        have HNB := hid n3
        clear hmr hd hp hA hnew hRR HR3 hln han hps hfit hr3 hnfp hk hpb hpb9 hfp3 q0 q1 q2 q5 q6 CD CE z0 z1 z2
        go_upto_region 8 with fail
        go_region_held3 (fun W => W.cell? ⟨x, 2, none⟩ = some (.slice (some ⟨g, off, none⟩) ln lc) ∧ W.cell? ⟨g, off + an * 4 + 3, none⟩ = some (.pointer (some ⟨y.lb, 0, none⟩)) ∧ W.cell? ⟨w.heap.size, 5, none⟩ = some (.int .u64 sq) ∧ W.cell? ⟨w.heap.size, 6, none⟩ = some (.slice ba n bc)) (first | exact ⟨c2, z3, z5, z6⟩ | exact ⟨k0, k1, k2, k3⟩) (first | (go_at_call 44; refine CT.out.mono ?_; rintro e w4 ⟨tv, xt, hv', rfl, hT⟩; have k0 := (hT.mt.cell (p := ⟨x, 2, none⟩) (by exact World.block_lt_of_cell? _ _ c2) (by exact n1)).trans c2; have k1 := (hT.mt.cell (p := ⟨g, off + an * 4 + 3, none⟩) (by exact hg) (by exact n2)).trans z3; have k2 := (hT.mt.cell (p := ⟨w.heap.size, 5, none⟩) (by exact World.block_lt_of_cell? _ _ z5) (by exact n3)).trans z5; have k3 := (hT.mt.cell (p := ⟨w.heap.size, 6, none⟩) (by exact World.block_lt_of_cell? _ _ z6) (by exact n3)).trans z6))
        obtain ⟨ta, tc, hte, -⟩ := hT.row.sli
        obtain ⟨ls, hls⟩ : ∃ ls, takeL (rtakeD y.k) sq bs = ls := ⟨_, rfl⟩
        rw [hls] at hT
        obtain ⟨tn, htn⟩ : ∃ tn, xt.length = tn := ⟨_, rfl⟩
        rw [htn] at hte
        subst hte
        have hlsn : ls.length = tn := by have := hT.els.1; rw [List.length_map, htn] at this; exact this.symm
        have htnb : tn ≤ 900001 := by
          have h1 := takeL_len (rtakeD y.k) sq bs
          rw [hls, hlsn] at h1
          have h2 := HHL.out
          show tn ≤ 900001
          have h3 : (rtakeD y.k).held.length = y.k.held.length := rfl
          omega
        have htk := RHubR.took (HR3'.out.is.ext (Below.refl _ _).drew) HR3'.out.lt hT
        obtain ⟨N4, hN4⟩ : ∃ N4 : Nat → Prop, (fun b => N' b ∨ fpY { y with k := ⟨(takeD (rtakeD y.k) sq bs).upto, (takeD (rtakeD y.k) sq bs).held, true⟩, hv := hv' } b) = N4 := ⟨_, rfl⟩
        rw [hN4] at htk
        have hNN4 : ∀ b, N4 b → N' b ∨ hv'.ownBlock = some b := fun b e => by
          rw [← hN4] at e
          exact e.elim .inl (htk.2.1 b)
        have HRF := hid ((HRR.out.trans (RHubR.same HR3'.out.is HR3'.out.lt (Below.refl _ _).drew)).trans htk.1)
        have HE4 : Hid (ElsAt w4 (fun b => N4 b ∨ w4.heap.size ≤ b) xt (ls.map fun b => ([], b))) := hid (hT.els.grow fun b e => by
          rcases e with e | e
          · exact .inl ((hNN4 b e).imp id .inl)
          · exact .inr e)
        have HTR := hid hT.row
        have HL4 : Hid (∀ b, N4 b → b < w4.heap.size) := hid HRF.out.lt
        have HLS := hid hls
        have HLN := hid hlsn
        have hzw : w.heap.size ≤ w4.heap.size := HRF.out.mt.size
        have HZW := hid hzw
        have zz1 : w4.cell? ⟨w.heap.size, 1, none⟩ = some (.int .u16 f1) := (hT.mt.cell (p := ⟨w.heap.size, 1, none⟩) (by exact World.block_lt_of_cell? _ _ HZC.out.2.1) (by exact HNB.out)).trans HZC.out.2.1
        have zz2 : w4.cell? ⟨w.heap.size, 2, none⟩ = some (.int .u32 f2) := (hT.mt.cell (p := ⟨w.heap.size, 2, none⟩) (by exact World.block_lt_of_cell? _ _ HZC.out.2.2) (by exact HNB.out)).trans HZC.out.2.2
        have zz0 : w4.cell? ⟨w.heap.size, 0, none⟩ = some (.int .i64 2) := (hT.mt.cell (p := ⟨w.heap.size, 0, none⟩) (by exact World.block_lt_of_cell? _ _ HZC.out.1) (by exact HNB.out)).trans HZC.out.1
        have HZ4 := hid (And.intro zz0 (And.intro zz1 zz2))
        obtain ⟨i0, hi, hz0, hz1, hz2⟩ := info_parts infoGot
        have HXT := hid htn
        clear hT htk hls hlsn hN4 hNN4 htn hzw zz0 zz1 zz2 k0 k1 k2 k3 c2 z3 z5 z6 CT
        go_wp2_with fail
        go_loopw [5, 8] (fun v iv wr => ∃ (k : Nat) (xs : List (List Value)), iv = .int .i64 k ∧ k ≤ tn ∧ Hid (xs.length = k) ∧ Hid (Below w4.heap.size w4 wr) ∧ Hid (OwnK wr w4.heap.size 43 3 v xs) ∧ Hid (ElsAt wr (fun b => N4 b ∨ w4.heap.size ≤ b) xs ((ls.take k).map (gotC (f1, f2))))) (fun _ iv _ => tn - (intOf iv).toNat)
        case atStart => exact ⟨0, [], rfl, Nat.zero_le _, hid rfl, hid (Below.refl _ _), hid (OwnK.nil _ _ _ _), hid (ElsAt.nil _ _)⟩
        case round =>
          obtain ⟨k, xs, rfl, hk, HXL, HB4, HO, HX⟩ := hrel
          rename World => wr
          by_cases hlt : k < tn
          · have s1' : decide ((k : Int) < (tn : Int)) = true := decide_eq_true (by omega)
            have s2' : decide (k < tn) = true := decide_eq_true hlt
            have hkl : k < ls.length := by rw [HLN.out]; exact hlt
            obtain ⟨u, hu1, hu2⟩ := (HE4.out.mut (Mut.of_below (F := fun _ => False) HB4.out) (fun _ _ e => e.elim)).2 k (by rw [List.length_map]; exact hkl)
            rw [List.getElem_map] at hu1 hu2
            obtain ⟨bb, hbb⟩ : ∃ bb, ls[k] = bb := ⟨_, rfl⟩
            simp only [hbb] at hu2
            have hu1' : xt[k]? = some [u] := hu1
            obtain ⟨gt, ct, e, -, hgt, hcell⟩ := HTR.out.at hu1'
            injection e with e1 e2 e3
            subst e1
            clear e2 e3
            obtain ⟨ua, uc, rfl, -, -, -⟩ := id hu2
            obtain ⟨ul, hul⟩ : ∃ ul, bb.length = ul := ⟨_, rfl⟩
            rw [hul] at hcell hu2
            have ht0 : w4.cell? ⟨gt, k, none⟩ = some (.slice ua ul uc) := by have := hcell 0 _ rfl; rwa [Nat.mul_one, Nat.add_zero] at this
            have HS0 : Hid (∀ W, Below w4.heap.size w4 W → W.cell? ⟨w.heap.size, 1, none⟩ = some (.int .u16 f1) ∧ W.cell? ⟨w.heap.size, 2, none⟩ = some (.int .u32 f2) ∧ W.cell? ⟨gt, k, none⟩ = some (.slice ua ul uc)) := hid fun W hb => ⟨cell_toB HZ4.out.2.1 hb, cell_toB HZ4.out.2.2 hb, cell_toB ht0 hb⟩
            have HBD : Hid (Below w4.heap.size w4 wr.drew) := hid HB4.out.drew
            have HBA : Hid (∀ o, Below w4.heap.size w4 (wr.drew.alloc o)) := hid fun o => HB4.out.drew.alloc HB4.out.size o
            have HU2 := hid hu2
            have HTK : Hid (ls.take (k + 1) = ls.take k ++ [bb]) := hid (by rw [List.take_succ_eq_append_getElem hkl, hbb])
            have HXB : Hid (xs.length + 1 ≤ 1000000) := hid (by have := HXL.out; omega)
            clear hu1 hu1' hu2 hcell hgt hbb hkl hul ht0
            go_upto_region 12 with fail
            go_region_held3 (fun W => Below w4.heap.size w4 W ∧ W.cell? ⟨w.heap.size, 1, none⟩ = some (.int .u16 f1) ∧ W.cell? ⟨w.heap.size, 2, none⟩ = some (.int .u32 f2) ∧ W.cell? ⟨gt, k, none⟩ = some (.slice ua ul uc)) (first | exact ⟨HBD.out, HS0.out _ HBD.out⟩ | exact ⟨hb8, HS0.out _ hb8⟩ | exact ⟨HBA.out _, HS0.out _ (HBA.out _)⟩) (first
              | (refine step_appendE (base := w4.heap.size) (b := wr.heap.size) (el := [.int .u16 f1, .int .u32 f2, .slice ua ul uc]) (by rfl) Try.underlying37 hi hz0 hz1 hz2 rfl (by decide) (by decide) (HO.out.ext ((Below.refl _ _).drew.alloc (Nat.le_refl _) _)) rfl (els3 rfl rfl rfl) (cells3_new wr.drew _ _ _ _) HXB.out (HBA.out _).size rfl rfl rfl ?_; intro v8 w8 hown8 hm8 hn8; have hb8 : Below w4.heap.size w4 w8 := below_mutR (HBA.out _) hm8 fun q e => (HO.out.blk e).1))
            go_wp2_with fail
            have hwr8 : Below w4.heap.size wr w8 := ⟨hb8.os.trans HB4.out.os.symm, hb8.tape.trans HB4.out.tape.symm, hb8.output.trans HB4.out.output.symm, Nat.le_trans (by simp) hm8.size, fun q hq => (hb8.block q hq).trans (HB4.out.block q hq).symm⟩
            have hmm : Mut (fun b => w4.heap.size ≤ b) wr w8 := ⟨hwr8.os, hwr8.tape, hwr8.output, hwr8.size, fun q _ hf => hwr8.block q (Nat.lt_of_not_le hf)⟩
            have hX8 := (HX.out.mut hmm fun b _ e => .inr e).snoc (q := [.int .u16 f1, .int .u32 f2]) (HU2.out.mut hmm fun b _ e => .inr e)
            refine ⟨⟨k + 1, _, by go_num, by omega, hid (by have := HXL.out; simp; omega), hid hb8, hid hown8, hid (by rw [HTK.out, List.map_append]; exact hX8)⟩, ?_⟩
            simp [intOf]; omega
          · have hkn : k = tn := by omega
            have s1' : decide ((k : Int) < (tn : Int)) = false := decide_eq_false (by omega)
            have s2' : decide (k < tn) = false := decide_eq_false hlt
            have zz0 := cell_toB HZ4.out.1 HB4.out
            have hk3b : ((2 : Int) == 3) = false := by decide
            have HKN := hid hkn
            clear hkn hlt hk
            go_wp2_with fail
            go_ret
            have hRf := HRF.out.trans (RHubR.same HRF.out.is HRF.out.lt HB4.out)
            refine ⟨_, rfl, N4, .slice (some ⟨g, off, none⟩) ln lc, A ++ { y with k := ⟨(takeD (rtakeD y.k) sq bs).upto, (takeD (rtakeD y.k) sq bs).held, true⟩, hv := hv' } :: B', xs, ⟨?_, ?_, ?_, ?_⟩, ?_⟩
            rotate_right
            · rw [HE.out]
              have h := ins_rD (A := A) (B := B') (y := y) (z := { y with k := ⟨(takeD (rtakeD y.k) sq bs).upto, (takeD (rtakeD y.k) sq bs).held, true⟩, hv := hv' }) (by rw [HP.out.1]; exact HP.out.2) rfl
              show rD (A ++ { y with k := ⟨(takeD (rtakeD y.k) sq bs).upto, (takeD (rtakeD y.k) sq bs).held, true⟩, hv := hv' } :: B') = ins (f1, f2) (y.s, ⟨(takeD (rtakeD y.k) sq bs).upto, (takeD (rtakeD y.k) sq bs).held, true⟩) (rD (A ++ y :: B'))
              rw [← HP.out.1]
              exact h.symm
            · exact hRf
            · exact HO.out.mono HZW.out
            · rw [HE.out]
              have h1 := HX.out
              rw [HKN.out, ← HLN.out, List.take_length] at h1
              simp only [HLS.out]
              exact h1.grow2 fun b e => e.imp id fun e => (HO.out.blk e).1
            · intro g' e e2
              have h1 := (HO.out.blk e).1
              have h2 := HL4.out g' e2
              omega
    · have hk2b : (kd == 2) = false := by simpa using hk2
      by_cases hk3 : kd = 3
      · subst hk3
        have hk3b : ((3 : Int) == 3) = true := by decide
        have CE : Hid (rarriveD (s1, s2) (rD L) ⟨3, (f1, f2), (t1, t2), sq, bs⟩ = match look (f1, f2) (rD L) with
          | none => ([], rD L)
          | some d => ([], ins (f1, f2) (rackD sq d.1, d.2) (rD L))) := hid (by unfold rarriveD; rw [if_neg HQ.out, if_neg (show ¬ ((3 : Int) = 2) by decide), if_pos rfl])
        clear H H1 hN hb1 p1 p2 p3 p4 p5 p6 hto hfo hq hr hbl hF hx hout hk2
        go_enter Try.func25, Try.ntmps25
        go_wp2_with fail
        refine wp_region_ext (w := W1) (Below.refl _ _) (by kernel_rfl) (by kernel_rfl) ?_
        repeat (go_big_quiet_step (with_reducible exact det_ext CM _))
        refine wpQuiet_nil ?_
        rintro w9 ⟨⟨_, hb9⟩, rfl⟩
        obtain ⟨q0, q1, q2, q5, q6⟩ := HPC.out w9 hb9
        have CF := hid (rhfind_any (HH1.out.ext hb9) f1 f2)
        have HB9 := hid hb9
        clear hb9 p0 c0 c1 g1 g2 g3 g4 CM hne heq
        go_wp2_with fail
        refine CF.out.mono ?_
        rintro e w3 ⟨rfl, hb3⟩
        have hbw := HB1.out.trans ((HB9.out.trans (hb3.mono HB9.out.size)).mono HB1.out.size)
        cases hpos : rposN (f1, f2) L 0 with
        | none =>
          have hri : rposI (f1, f2) L = -1 := by unfold rposI; rw [hpos]
          rw [hri]
          have HE : Hid (rarriveD (s1, s2) (rD L) ⟨3, (f1, f2), (t1, t2), sq, bs⟩ = ([], rD L)) := hid (by rw [CE.out, look_rD (rposN_none hpos)])
          have HBW := hid hbw
          clear hpos hri hbw hb3 CF
          go_wp2_with fail
          go_ret
          exact ⟨_, rfl, N, lv, L, [], by rw [HE.out]; exact RArrR.none (RHubR.same HH.out HN0.out HBW.out), by rw [HE.out]⟩
        | some j =>
          have hri : rposI (f1, f2) L = (j : Int) := by unfold rposI; rw [hpos]
          rw [hri]
          obtain ⟨A, y, B', e1, e2, e3, e4⟩ := rposN_some hpos
          rw [Nat.zero_add] at e3
          subst e1
          have HE : Hid (rarriveD (s1, s2) (rD (A ++ y :: B')) ⟨3, (f1, f2), (t1, t2), sq, bs⟩ = ([], ins (f1, f2) (rackD sq y.s, y.k) (rD (A ++ y :: B')))) := hid (by
            rw [CE.out, ← e2, look_rD_at (by rw [e2]; exact e4)])
          have H3 := HH.out.ext hbw
          have hpk := H3.peer (i := j) (y := y) (by rw [e3]; simp)
          obtain ⟨la, lc, hlit, -⟩ := H3.lit
          obtain ⟨ln, hln⟩ : ∃ ln, (A ++ y :: B').length = ln := ⟨_, rfl⟩
          rw [hln] at hlit hpk
          subst hlit
          obtain ⟨g, off, cap, e, hg, -, -, z2, -⟩ := hpk
          injection e with e1 e2' e3'
          subst e1
          clear e2' e3'
          have hjl : j < ln := by rw [e3, ← hln]; simp
          have hl48 : ln ≤ 48 := by rw [← hln]; exact H3.lim
          have tj1 : decide ((j : Int) ≥ 0) = true := decide_eq_true (by omega)
          have tj2 : decide ((0 : Int) ≤ (j : Int)) = true := decide_eq_true (by omega)
          have c2 := H3.box.c2
          have q5' := (HPC.out w3 (HB9.out.trans (hb3.mono HB9.out.size))).2.2.2.1
          have hfit := HF0.out y (by simp)
          have hps := (H3.pr y (by simp)).s
          have hN3 : ∀ b, N b → b < w3.heap.size := fun b e => Nat.lt_of_lt_of_le (HN0.out b e) hbw.size
          have CA := hid (rack_any (hps.ext (Below.refl _ _).drew) (fun b e => hN3 b e) hfit.f.1 hsq (by have := hfit.f.2; omega))
          have n1 : y.sb ≠ x := (H3.out y (by simp) y.sb (.inl (.inl rfl))).1
          have n2 : y.sb ≠ g := fun e => (H3.out y (by simp) y.sb (.inl (.inl rfl))).2 (by rw [e]; rfl)
          have n3 : y.sb ≠ w.heap.size := fun e => by have := HH.out.fplt y.sb (.inr (.inr ⟨y, by simp, .inl (.inl rfl)⟩)); omega
          have HBW := hid hbw
          have H3h := hid H3
          have HN3 := hid hN3
          have HEE := hid (And.intro e2 e4)
          clear hpos hri hbw hb3 CF hps hfit hln e2 e3 e4 H3 hN3 q0 q1 q2 q5 q6
          go_upto_region 16 with fail
          go_region_held3 (fun W => W.cell? ⟨x, 2, none⟩ = some (.slice (some ⟨g, off, none⟩) ln lc) ∧ W.cell? ⟨g, off + j * 4 + 2, none⟩ = some (.pointer (some ⟨y.sb, 0, none⟩)) ∧ W.cell? ⟨w.heap.size, 5, none⟩ = some (.int .u64 sq)) (first | exact ⟨c2, z2, q5'⟩ | exact ⟨k0, k1, k2⟩) (first | (go_at_call 45; refine CA.out.mono ?_; rintro e w4 ⟨an, rfl, iv', tv', hI4, hi4, ht4, hm4⟩; have k0 := (hm4.cell (p := ⟨x, 2, none⟩) (by exact World.block_lt_of_cell? _ _ c2) (by exact fun e => n1 e.symm)).trans c2; have k1 := (hm4.cell (p := ⟨g, off + j * 4 + 2, none⟩) (by exact hg) (by exact fun e => n2 e.symm)).trans z2; have k2 := (hm4.cell (p := ⟨w.heap.size, 5, none⟩) (by exact World.block_lt_of_cell? _ _ q5') (by exact fun e => n3 e.symm)).trans q5'))
          go_wp2_with fail
          go_ret
          have hm4' : Mut (fun b => b = y.sb ∨ y.tv.ownBlock = some b) w3 w4 := (Mut.of_below (Below.refl _ _).drew).trans (hm4.mono fun b _ e => .inl e)
          have hA := RHubR.acked H3h.out HN3.out hI4 hi4 ht4 hm4'
          have hRR := (RHubR.same HH.out HN0.out HBW.out).trans hA
          refine ⟨_, rfl, N, .slice (some ⟨g, off, none⟩) ln lc, A ++ { y with s := rackD sq y.s, iv := iv', tv := tv' } :: B', [], ?_, ?_⟩
          · rw [HE.out]; exact RArrR.none hRR
          · rw [HE.out]
            have h := ins_rD (A := A) (B := B') (y := y) (z := { y with s := rackD sq y.s, iv := iv', tv := tv' }) (by rw [HEE.out.1]; exact HEE.out.2) rfl
            show rD (A ++ { y with s := rackD sq y.s, iv := iv', tv := tv' } :: B') = ins (f1, f2) (rackD sq y.s, y.k) (rD (A ++ y :: B'))
            rw [← HEE.out.1]
            exact h.symm
      · have hk3b : (kd == 3) = false := by simpa using hk3
        have HE : Hid (rarriveD (s1, s2) (rD L) ⟨kd, (f1, f2), (t1, t2), sq, bs⟩ = ([], rD L)) := hid (by unfold rarriveD; rw [if_neg HQ.out, if_neg hk2, if_neg hk3])
        clear H H1 hN hb1 p1 p2 p3 p4 p5 p6 hto hfo hq hr hbl hF hx hout hk2 hk3
        go_enter Try.func25, Try.ntmps25
        go_wp2_with fail
        refine wp_region_ext (w := W1) (Below.refl _ _) (by kernel_rfl) (by kernel_rfl) ?_
        repeat (go_big_quiet_step (with_reducible exact det_ext CM _))
        refine wpQuiet_nil ?_
        rintro w9 ⟨⟨_, hb9⟩, rfl⟩
        have q0 := cell_toB p0 hb9
        go_wp2_with fail
        go_ret
        exact ⟨_, rfl, N, lv, L, [], by rw [HE.out]; exact RArrR.none (RHubR.same HH.out HN0.out (HB1.out.trans (hb9.mono HB1.out.size))), by rw [HE.out]⟩
end Go.Proofs.Ytidohmpnefcpcaa

