import Derived.Test.YteodaakdjnjhmaaXT
import Derived.Deep.DeepCutAuto
namespace Go.Proofs.Yteodaakdjnjhmaa
open Go.RowKit

/-! ### CmdForms -/
theorem rNum_sub {most : Nat} {S : RS} : ∀ b ∈ (rNum most S).2.b, b ∈ S.b := by
  unfold rNum
  split
  · exact fun b h => h
  · split
    · exact fun b h => h
    · split
      · exact fun b h => h
      · exact fun b h => List.mem_of_mem_drop h
theorem rPid_sub {S : RS} : ∀ b ∈ (rPid S).2.b, b ∈ S.b := by
  unfold rPid
  split
  · exact fun b h => h
  · split
    · exact fun b h => h
    · exact fun b h => List.mem_of_mem_drop h
theorem rCmdParts_data {S : RS} : (rCmdParts S).1.data.length ≤ 200 ∧ ∀ b ∈ (rCmdParts S).1.data, b ∈ S.b := by
  unfold rCmdParts
  simp only
  split
  · have h := rBytes_sub (most := 200) (S := (rNum 4611686018427387904 (rNum 4611686018427387904 (rPid (rNum 3 S).2).2).2).2)
    exact ⟨h.1, fun b hb => rNum_sub b (rPid_sub b (rNum_sub b (rNum_sub b (h.2 b hb))))⟩
  · split <;> simp
theorem rCmd_data {S S9 : RS} {A : CmdD} (h : rCmd S = (A, S9)) : A.data.length ≤ 200 ∧ ∀ b ∈ A.data, b ∈ S.b := by
  have e : A = (rCmd S).1 := by rw [h]
  subst e
  unfold rCmd
  split
  · simp [zeroC]
  · split
    · simp [zeroC]
    · exact rCmdParts_data
/-- cmd.Put writes nothing of a command that may not be -/
theorem cmdPut_no {A : CmdD} {da am al ad : Option Addr} {dc cm cl cd : Nat} {p : Value} {w : World} (hA : CmdR w da am al ad A) (hsum : lens A.v.ls ≤ 549755813888) (hwf : WfPids A.v.ms) (hfr : okP A.fr) (hc : cmdChk A ≠ 0) :
   Calls Try.prog 26 #[p, .agg (cmdL da am al ad dc cm cl cd A)] w fun e w' => e = .returned (.tuple #[]) ∧ Below w.heap.size w w' := by
  have hB1 : Below w.heap.size w (w.alloc (.cells (cmdL da am al ad dc cm cl cd A) 42)) := (Below.refl _ _).alloc (Nat.le_refl _) _
  obtain ⟨r, hr⟩ : ∃ r : Int, (cmdChk A : Int) = r := ⟨_, rfl⟩
  have t5 : (r != 0) = true := by rw [← hr]; simpa using hc
  have CK := hid (cmdCheck_is (dc := dc) (cm := cm) (cl := cl) (cd := cd) (hid hr) (hA.ext hB1) hsum hwf hfr)
  have XA : Hid (CmdBox (w.alloc (.cells (cmdL da am al ad dc cm cl cd A) 42)) w.heap.size A da am al ad dc cm cl cd) := hid (CmdBox.made (c := A) w)
  obtain ⟨a0, a1, a2, a3, a4, a5, a6, a7, a8, a9⟩ := id XA.out
  have hl : ∀ (x : CmdD) (da am al ad : Option Addr) (dc cm cl cd : Nat), cmdL da am al ad dc cm cl cd x = #[.int .i64 x.kind, .int .u16 x.fr.1, .int .u32 x.fr.2, .int .u64 x.num, .int .u64 x.vw, .slice da x.data.length dc, .int .u64 x.v.id, .slice am x.v.ms.length cm, .slice al x.v.ls.length cl, .slice ad x.v.ds.length cd] := fun _ _ _ _ _ _ _ _ _ => rfl
  obtain ⟨CL, hCL⟩ : ∃ CL, cmdL da am al ad dc cm cl cd A = CL := ⟨_, rfl⟩
  rw [hCL] at CK hB1 XA a0 a1 a2 a3 a4 a5 a6 a7 a8 a9 ⊢
  rw [hl] at hCL
  subst hCL
  clear hl hr hc XA
  go_enter Try.func26, Try.ntmps26
  go_wp2_with fail
  (with_reducible refine CK.out.mono ?_)
  rintro e w3 ⟨rfl, hb3⟩
  clear CK
  go_wp2_with fail
  exact bodyPost_ret (results_none rfl _ _ _) rfl ⟨rfl, hB1.trans (hb3.mono hB1.size)⟩
theorem Wrote.of_below {w w' : World} {s : Nat} {v : Value} {bs : List Nat} (hW : WrIs w s v bs) (hown : OwnB w w.heap.size v bs) (hb : Below w.heap.size w w') : Wrote w w' s v bs := ⟨hW.ext hb, hown.ext hb, Mut.of_below hb⟩
/-- both ways: what cmd.Put writes into an empty writer -/
theorem cmdPut_e {s : Nat} {A : CmdD} {da am al ad : Option Addr} {dc cm cl cd : Nat} {w0 w : World} {F : List Nat} (hF : Hid ((if cmdChk A = 0 then cmdF A else []) = F)) (hW : WrIs w s (.slice none 0 0) [])
    (hA : CmdIn w0 da am al ad A) (hg : greatC A = false) (h0 : Below w0.heap.size w0 w) (hs0 : w0.heap.size ≤ s) :
   Calls Try.prog 26 #[.pointer (some ⟨s, 0, none⟩), .agg (cmdL da am al ad dc cm cl cd A)] w fun e w' => e = .returned (.tuple #[]) ∧ ∃ v', Wrote w w' s v' F := by
  have hA1 := hA.ext h0
  have g := greatC_no hg
  by_cases hc : cmdChk A = 0
  · have := cmdPut_any (dc := dc) (cm := cm) (cl := cl) (cd := cd) hW (by simp) hA1.dr hA1.db g.1 (fun b off e hne => Nat.ne_of_lt (Nat.lt_of_lt_of_le (by
        rcases hA.dr with h | ⟨b', o', e', h, _⟩
        · exact absurd h hne
        · rw [e] at e'; cases e'; exact h) hs0)) hA.v h0 hs0 hA.fr hA.wf.ms hA.wf.id (by omega) hc
    rw [List.nil_append] at this
    rw [← hF.out, if_pos hc]; exact this
  · rw [← hF.out, if_neg hc]
    refine (cmdPut_no (hA1.r hg) (by omega) hA.wf.ms hA.fr hc).mono ?_
    rintro e w' ⟨rfl, hb⟩
    exact ⟨rfl, _, Wrote.of_below hW (OwnB.nil _ _) hb⟩
theorem RdIs.made (w : World) (t : TypeId) {a : Option Addr} {c n : Nat} {bs : List Nat} (hn : bs.length = n) (hrow : ByteRow w a bs) (hc : bs.length ≤ c) (hby : ∀ b ∈ bs, b < 256) (hlen : bs.length ≤ 70368744177664) : RdIs (w.alloc (.cells #[.slice a n c, .int .i64 0] t)) w.heap.size a c ⟨bs, 0⟩ := by
  subst hn
  refine ⟨by simp, by simp, by simp, by simp, hrow.alloc _, fun b off e hne => ?_, hc, hby, hlen⟩
  rcases hrow with h | ⟨b', o', e', h, _⟩
  · exact absurd h hne
  · rw [e] at e'; cases e'; exact h

theorem rCmd_v {S : RS} : (rCmd S).1.v = zeroV ∨ (rCmd S).1.v = (rView (rNum 3 S).2).1 := by
  unfold rCmd
  split
  · exact .inl rfl
  · split
    · exact .inl rfl
    · unfold rCmdParts
      simp only
      split
      · exact .inl rfl
      · split
        · exact .inr rfl
        · exact .inl rfl
theorem rCmd_view {S : RS} : (∀ p ∈ (rCmd S).1.v.ms, okP p) ∧ (rCmd S).1.v.ms.length ≤ 24 ∧ (rCmd S).1.v.ls.length ≤ 24 ∧ (∀ l ∈ (rCmd S).1.v.ls, l.length ≤ 24) ∧ (rCmd S).1.v.ds.length ≤ 24 := by
  rcases rCmd_v (S := S) with h | h
  · rw [h]; simp [zeroV]
  · rw [h]; exact rView_bounds
theorem RdIs.mutN {G : Nat → Prop} {w w' : World} {s c : Nat} {a : Option Addr} {S : RS} (h : RdIs w s a c S) (hm : Mut G w w') (hs : ¬ G s) (hne : ∀ b off, a = some ⟨b, off, none⟩ → S.b ≠ [] → ¬ G b) : RdIs w' s a c S :=
  ⟨cell_mut h.c0 hm hs, cell_mut h.c1 hm hs, (World.frozen?_of_block (w := w) (a := ⟨s, 0, none⟩) (hm.block s h.lt hs)).trans h.f0, (World.frozen?_of_block (w := w) (a := ⟨s, 1, none⟩) (hm.block s h.lt hs)).trans h.f1, h.row.mutT hm hne, h.far, h.cap, h.byt, h.len⟩
theorem WrIs.mutN {G : Nat → Prop} {w w' : World} {s : Nat} {v : Value} {bs : List Nat} (h : WrIs w s v bs) (hm : Mut G w w') (hG : ¬ G s) (hown : OwnB w' (s + 1) v bs) : WrIs w' s v bs :=
  ⟨cell_mut h.c hm hG, (World.frozen?_of_block (w := w) (a := ⟨s, 0, none⟩) (hm.block s h.lt hG)).trans h.f, hown⟩
theorem OwnB.mutN {G : Nat → Prop} {w w' : World} {base : Nat} {v : Value} {xs : List Nat} (h : OwnB w base v xs) (hm : Mut G w w') (hG : ∀ g, v.ownBlock = some g → ¬ G g) : OwnB w' base v xs := by
  refine ⟨h.1, ?_⟩
  rcases h.2 with hn | ⟨g, cap, cur, rfl, hbb, hgg, rest⟩
  · exact .inl hn
  · exact .inr ⟨g, cap, cur, rfl, hbb, (hm.block g (Array.getElem?_eq_some_iff.1 hgg).1 (hG g rfl)).trans hgg, rest⟩
/-- a world by what is known of it -/
theorem wp_named {P : Program} {c : Code} {Q : Exit → Act → World → Prop} {a : Act} {L : World} {R : World → Prop} (h : R L) (k : ∀ W, R W → c.wp P Q a W) : c.wp P Q a L := k L h
/-- what was read of a reader is a command that may be looked at -/
theorem cmdR_read {S S9 : RS} {A : CmdD} {qd qm ql qs : Option Addr} {kd km kl ks b1 b2 b3 b4 : Nat} {w : World} (hx : rCmd S = (A, S9)) (hby : ∀ b ∈ S.b, b < 256) (h1 : OwnB w b1 (.slice qd A.data.length kd) A.data) (h2 : OwnP w b2 (.slice qm A.v.ms.length km) A.v.ms) (h3 : OwnLL w b3 (.slice ql A.v.ls.length kl) A.v.ls) (h4 : OwnP w b4 (.slice qs A.v.ds.length ks) A.v.ds) : CmdR w qd qm ql qs A := by
  have hd := rCmd_data hx
  have hv := rCmd_view (S := S)
  rw [hx] at hv
  obtain ⟨a0, c0, e0, r0, -⟩ := h1.row
  obtain ⟨a1, c1, e1, r1, -⟩ := h2.row
  obtain ⟨a2, c2, e2, r2⟩ := h3.row
  obtain ⟨a3, c3, e3, r3, -⟩ := h4.row
  cases e0; cases e1; cases e2; cases e3
  simp only at hv
  exact ⟨r0, by omega, fun b hb => hby b (hd.2 b hb), r1, r2, r3, by omega, by omega, by omega, fun l hl => by have := hv.2.2.2.1 l hl; omega⟩

set_option maxRecDepth 100000 in
set_option maxHeartbeats 12800000 in
theorem cmdForms_law {A : CmdD} {da am al ad a : Option Addr} {dc cm cl cd c : Nat} {bs : List Nat} {w : World} (hA : CmdIn w da am al ad A) (hrow : ByteRow w a bs) (hby : ∀ b ∈ bs, b < 256) (hcp : bs.length ≤ c) :
    Calls Try.prog 7 #[.agg (cmdL da am al ad dc cm cl cd A), .slice a bs.length c] w fun e w' => e = .returned (.bool true) ∧ Below w.heap.size w w' := by
  have hl : ∀ (x : CmdD) (da am al ad : Option Addr) (dc cm cl cd : Nat), cmdL da am al ad dc cm cl cd x = #[.int .i64 x.kind, .int .u16 x.fr.1, .int .u32 x.fr.2, .int .u64 x.num, .int .u64 x.vw, .slice da x.data.length dc, .int .u64 x.v.id, .slice am x.v.ms.length cm, .slice al x.v.ls.length cl, .slice ad x.v.ds.length cd] := fun _ _ _ _ _ _ _ _ _ => rfl
  obtain ⟨W2, hW2⟩ : ∃ W2, w.alloc (.cells (cmdL da am al ad dc cm cl cd A) 42) = W2 := ⟨_, rfl⟩
  have hB2 : Below w.heap.size w W2 := by rw [← hW2]; exact (Below.refl _ _).alloc (Nat.le_refl _) _
  have xA : CmdBox W2 w.heap.size A da am al ad dc cm cl cd := by rw [← hW2]; exact CmdBox.made (c := A) w
  have hA2 := hA.ext hB2
  have HROW := hid (hrow.ext hB2)
  have XA : Hid (∀ W, Below W2.heap.size W2 W → CmdBox W w.heap.size A da am al ad dc cm cl cd) := hid fun W h => xA.ext h xA.lt
  have HB2 := hid hB2
  have HA2 := hid hA2
  have HBY := hid hby
  have HCP := hid hcp
  obtain ⟨n, hn⟩ : ∃ n, bs.length = n := ⟨_, rfl⟩
  have HN := hid hn
  rw [hn]
  obtain ⟨ga, hga⟩ : ∃ r, greatC A = r := ⟨_, rfl⟩
  have GA : Hid (∀ W, Below W2.heap.size W2 W → Calls Try.prog 22 #[.agg (cmdL da am al ad dc cm cl cd A)] W fun e w' => e = .returned (.bool ga) ∧ Below W2.heap.size W2 w') := hid fun W h => relB h (cmdGreat_is (hid hga) (hA2.v.ext h))
  have AW : Hid (∀ W, Below W2.heap.size W2 W → Calls Try.prog 25 #[] W fun e w' => e = .returned (.bool true) ∧ Below W2.heap.size W2 w') := hid fun W h => relB h (awakeC_any W)
  have H2 := Below.refl W2.heap.size W2
  obtain ⟨a0, a1, a2, a3, a4, a5, a6, a7, a8, a9⟩ := id xA
  have HGA := hid hga
  clear hB2 xA hA2 hga hby hcp hn hrow hA
  simp only [hl] at GA hW2 ⊢
  cases ga
  case true =>
    go_enter Try.func7, Try.ntmps7
    go_wp2_with (first
      | (go_at_call 22; (with_reducible refine (GA.out _ H2).mono ?_); rintro e w3 ⟨rfl, hb3⟩)
      | (go_at_call 25; (with_reducible refine (AW.out _ hb3).mono ?_); rintro e w9 ⟨rfl, hb9⟩))
    go_ret
    exact ⟨rfl, HB2.out.trans (hb9.mono HB2.out.size)⟩
  by_cases hbig : 2000 < n
  · have p1 : decide (2000 < n) = true := by simpa using hbig
    have p2 : decide ((n : Int) > 2000) = true := by simp; omega
    have p3 : decide ((2000 : Int) < (n : Int)) = true := by simp; omega
    clear hbig
    go_enter Try.func7, Try.ntmps7
    go_wp2_with (first
      | (go_at_call 22; (with_reducible refine (GA.out _ H2).mono ?_); rintro e w3 ⟨rfl, hb3⟩)
      | (go_at_call 25; (with_reducible refine (AW.out _ hb3).mono ?_); rintro e w9 ⟨rfl, hb9⟩))
    go_ret
    exact ⟨rfl, HB2.out.trans (hb9.mono HB2.out.size)⟩
  have p1 : decide (2000 < n) = false := by simpa using hbig
  have p2 : decide ((n : Int) > 2000) = false := by simp; omega
  have p3 : decide ((2000 : Int) < (n : Int)) = false := by simp; omega
  have hn2 : n ≤ 2000 := by omega
  clear hbig
  obtain ⟨F, hF⟩ : ∃ F, (if cmdChk A = 0 then cmdF A else []) = F := ⟨_, rfl⟩
  have HF := hid hF
  clear hF
  go_enter Try.func7, Try.ntmps7
  go_wp2_with (go_at_call 22; (with_reducible refine (GA.out _ H2).mono ?_); rintro e w3 ⟨rfl, hb3⟩; clear a0 a1 a2 a3 a4 a5 a6 a7 a8 a9; obtain ⟨a0, a1, a2, a3, a4, a5, a6, a7, a8, a9⟩ := XA.out _ (hb3.alloc hb3.size (.cells #[.slice none 0 0] 48)))
  have hq3 := (Below.refl w3.heap.size w3).alloc (Nat.le_refl _) (.cells #[.slice none 0 0] 48)
  have P1 := cmdPut_e (dc := dc) (cm := cm) (cl := cl) (cd := cd) HF (WrIs.made w3 48) (HA2.out.ext hb3) HGA.out hq3 (Nat.le_refl _)
  rw [hl] at P1
  have HP1 := hid P1
  have HB3 := hid hb3
  clear P1 hb3 hq3 p1 p2 p3 GA
  (with_reducible refine HP1.out.mono ?_)
  rintro e w4 ⟨rfl, v4, hw4⟩
  have hb34 := below_mut ((Below.refl w3.heap.size w3).alloc (Nat.le_refl _) (.cells #[.slice none 0 0] 48)) hw4.mt (Nat.le_refl _)
  have hb24 := HB3.out.trans (hb34.mono HB3.out.size)
  have HWR4 := hid hw4.wr
  have HS3 : Hid (w3.heap.size < w4.heap.size) := hid hw4.wr.lt
  clear a0 a1 a2 a3 a4 a5 a6 a7 a8 a9 HP1 hw4
  obtain ⟨a0, a1, a2, a3, a4, a5, a6, a7, a8, a9⟩ := XA.out _ hb24
  have HB24 := hid hb24
  clear hb24 hb34
  have g := greatC_no HGA.out
  have CK := cmdCheckR_any (da := da) (dc := dc) (cm := cm) (cl := cl) (cd := cd) (HA2.out.ext HB24.out).v (by omega) HA2.out.fr
  rw [hl] at CK
  have HCK := hid CK
  clear CK g
  go_upto_if 26 with fail
  (with_reducible refine HCK.out.mono ?_)
  rintro e w5 ⟨rfl, hb5⟩
  have HB25 := hid (HB24.out.trans (hb5.mono HB24.out.size))
  have HWR5 := hid (HWR4.out.ext hb5)
  have HS35 : Hid (w3.heap.size < w5.heap.size) := hid (Nat.lt_of_lt_of_le HS3.out hb5.size)
  clear a0 a1 a2 a3 a4 a5 a6 a7 a8 a9 HCK hb5 HWR4 HB24 HS3
  obtain ⟨a0, a1, a2, a3, a4, a5, a6, a7, a8, a9⟩ := XA.out _ HB25.out
  go_upto_if 26 with fail
  go_cut [6] (fun v6 w' => OwnB w' w5.heap.size v6 F ∧ Below w5.heap.size w5 w')
  case first =>
    by_cases hc : cmdChk A = 0
    · have q1 : ((cmdChk A : Int) == 0) = true := by rw [hc]; rfl
      have FM := cmdFormR_any (dc := dc) (cm := cm) (cl := cl) (cd := cd) (HA2.out.ext HB25.out) (greatC_no HGA.out).1 hc
      rw [hl] at FM
      have HFM := hid FM
      have HFE : Hid (cmdF A = F) := hid (by rw [← HF.out, if_pos hc])
      clear FM hc
      go_wp2_with fail
      (with_reducible refine HFM.out.mono ?_)
      rintro e w6 ⟨v6, rfl, hown6, hb6⟩
      go_wp2_with fail
      go_meet
      exact ⟨by rw [← HFE.out]; exact hown6, hb6⟩
    · have q1 : ((cmdChk A : Int) == 0) = false := by simp only [beq_eq_false_iff_ne, ne_eq]; omega
      have HFE : Hid ([] = F) := hid (by rw [← HF.out, if_neg hc])
      clear hc
      go_wp2_with fail
      go_meet
      exact ⟨by rw [← HFE.out]; exact OwnB.nil _ _, Below.refl _ _⟩
  case rest =>
  obtain ⟨hown6, hb56⟩ := hcut
  rename World => w6
  have hFl : F.length ≤ 300000 := by
    rw [← HF.out]
    by_cases hc : cmdChk A = 0
    · rw [if_pos hc]; exact cmdF_small HA2.out hc
    · rw [if_neg hc]; simp
  obtain ⟨NF, hNF⟩ : ∃ N, F.length = N := ⟨_, rfl⟩
  obtain ⟨q6, k6, e6, hr6, -⟩ := hown6.row
  rw [hNF] at e6 hFl
  subst e6
  have HNF := hid hNF
  have HR6 := hid hr6
  have HB26 := hid (HB25.out.trans (hb56.mono HB25.out.size))
  have HWR6 := hid (HWR5.out.ext hb56)
  have HS36 : Hid (w3.heap.size < w6.heap.size) := hid (Nat.lt_of_lt_of_le HS35.out hb56.size)
  have RD := hid (read_any (w := w6) (c := c) HN.out (by omega) HBY.out (HROW.out.ext HB26.out))
  clear hown6 hb56 hNF hr6 HWR5 HS35 HB25
  go_wp2_with fail
  (with_reducible refine RD.out.mono ?_)
  rintro e w7 ⟨s7, rfl, hs7, ⟨z7, c7, hr7⟩, hb7⟩
  obtain ⟨⟨A', S9⟩, hx⟩ : ∃ q, rCmd ⟨bs, 0⟩ = q := ⟨_, rfl⟩
  have hq7 := (Below.refl w7.heap.size w7).alloc (Nat.le_refl _) (.cells #[.slice a n c, .int .i64 0] 73)
  have hb27 := HB26.out.trans (hb7.mono HB26.out.size)
  have hr8 := RdIs.made w7 73 HN.out (HROW.out.ext hb27) HCP.out HBY.out (by rw [HN.out]; omega)
  have GT := cmdGet_any (hid hx) (hr7.ext hq7)
  simp only [hl] at GT
  have HGT := hid GT
  have HX := hid hx
  have HB27 := hid (hb27.trans (hq7.mono hb27.size))
  have HR8 := hid hr8
  have HWR7 := hid ((HWR6.out.ext hb7).ext hq7)
  have HR67 := hid ((HR6.out.ext hb7).ext hq7)
  have HSZ : Hid (W2.heap.size ≤ w6.heap.size ∧ w6.heap.size ≤ s7 ∧ s7 < w7.heap.size ∧ w3.heap.size < w6.heap.size ∧ W2.heap.size ≤ w3.heap.size) := hid ⟨HB26.out.size, hs7, hr7.lt, HS36.out, HB3.out.size⟩
  have HV4 : Hid (∀ g, v4.ownBlock = some g → g < w6.heap.size) := hid (fun g hg => (World.ownsRow.lt HWR6.out.own g hg).2)
  have HQ6 : Hid (∀ b off, q6 = some ⟨b, off, none⟩ → F ≠ [] → b < w6.heap.size) := hid (fun b off e hne => by
    rcases HR6.out with h | ⟨b', o', e', h, _⟩
    · exact absurd h hne
    · rw [e] at e'; cases e'; exact h)
  clear RD hx hq7 hb27 hr8 GT hr7 hb7 hs7 HR6 HWR6 HS36 a0 a1 a2 a3 a4 a5 a6 a7 a8 a9
  go_wp2_with fail
  (with_reducible refine HGT.out.mono ?_)
  rintro e w8 ⟨qd, qm, ql, qs, kd, km, kl, ks, rfl, hod, hom, hol, hos, ⟨z8, c8, hr8⟩, hm8⟩
  have hsz := HSZ.out
  have hRW : ∀ b off, a = some ⟨b, off, none⟩ → bs ≠ [] → b < W2.heap.size := fun b off e hne => by
    rcases HROW.out with h | ⟨b', o', e', h, _⟩
    · exact absurd h hne
    · rw [e] at e'; cases e'; exact h
  have hr8b := HR8.out.mutN hm8 (by omega) (fun b off e hne => by have := hRW b off e hne; omega)
  have hb28 := HB27.out.trans (hm8.below HB27.out.size (fun k e => by rw [e]; omega))
  have hw8 : WrIs w8 w3.heap.size v4 F := HWR7.out.mutN hm8 (by omega) (HWR7.out.own.mutN hm8 (fun g hg e => by
    have := HV4.out g hg
    omega))
  have hr68 := HR67.out.mutT hm8 (fun b off e hne => by have := HQ6.out b off e hne; omega)
  have hz8 : w7.heap.size < w8.heap.size := by have := hm8.size; simp at this; omega
  have GT2 := cmdGetR_any HX hr8b
  simp only [hl] at GT2
  have HGT2 := hid GT2
  have HR8B := hid hr8
  have HB28 := hid hb28
  have HW8 := hid hw8
  have HR68 := hid hr68
  have HY8 : Hid (OwnB w8 (w7.heap.size + 1) (.slice qd A'.data.length kd) A'.data ∧ OwnP w8 (w7.heap.size + 1) (.slice qm A'.v.ms.length km) A'.v.ms ∧ OwnLL w8 (w7.heap.size + 1) (.slice ql A'.v.ls.length kl) A'.v.ls ∧ OwnP w8 (w7.heap.size + 1) (.slice qs A'.v.ds.length ks) A'.v.ds) := hid ⟨hod.mono (by simp), hom.mono2 (by simp), hol.mono (by simp), hos.mono2 (by simp)⟩
  have HZ8 := hid hz8
  clear hsz hr8b hb28 hw8 hr68 hz8 hr8 hm8 HGT hod hom hol hos GT2 HR8 HWR7 HR67 HB27
  go_wp2_with fail
  (with_reducible refine HGT2.out.mono ?_)
  rintro e w9 ⟨rd, rm, rl, rs, jd, jm, jl, js, rfl, pod, pom, pol, pos, ⟨z9, c9, hr9⟩, hm9⟩
  have hsz := HSZ.out
  have hz8 := HZ8.out
  have hr7b := HR8B.out.mutN hm9 (by omega) (fun b off e hne => by have := HR8B.out.far b off e hne; omega)
  have hb29 := HB28.out.trans (hm9.below HB28.out.size (fun k e => by rw [e]; omega))
  have hw9 : WrIs w9 w3.heap.size v4 F := HW8.out.mutN hm9 (by omega) (HW8.out.own.mutN hm9 (fun g hg e => by
    have := HV4.out g hg
    omega))
  have hr69 := HR68.out.mutT hm9 (fun b off e hne => by have := HQ6.out b off e hne; omega)
  have hlt : ∀ k, (fun k => k = w7.heap.size) k → k < w7.heap.size + 1 := fun k e => by simp only at e; omega
  have hk1 : CmdR w9 qd qm ql qs A' := cmdR_read HX.out HBY.out (HY8.out.1.mutT hm9 hlt) (HY8.out.2.1.mutT hm9 hlt) (HY8.out.2.2.1.mutT hm9 hlt) (HY8.out.2.2.2.mutT hm9 hlt)
  have hk2 : CmdR w9 rd rm rl rs A' := cmdR_read HX.out HBY.out pod pom pol pos
  have HK1 := hid hk1
  have HK2 := hid hk2
  have HR7B := hid hr7b
  have HR9 := hid hr9
  have HB29 := hid hb29
  have HW9 := hid hw9
  have HR69 := hid hr69
  clear hsz hz8 hr7b hb29 hw9 hr69 hlt hk1 hk2 hr9 hm9 pod pom pol pos HGT2 HR8B HB28 HW8 HR68 HY8 HZ8 HSZ HV4 HQ6 hRW
  go_wp2_with fail
  refine wp_named (R := fun W => Box10 W w9.heap.size (.int .i64 A'.kind) (.int .u16 A'.fr.1) (.int .u32 A'.fr.2) (.int .u64 A'.num) (.int .u64 A'.vw) (.slice qd A'.data.length kd) (.int .u64 A'.v.id) (.slice qm A'.v.ms.length km) (.slice ql A'.v.ls.length kl) (.slice qs A'.v.ds.length ks) ∧ Box10 W (w9.heap.size + 1) (.int .i64 A'.kind) (.int .u16 A'.fr.1) (.int .u32 A'.fr.2) (.int .u64 A'.num) (.int .u64 A'.vw) (.slice rd A'.data.length jd) (.int .u64 A'.v.id) (.slice rm A'.v.ms.length jm) (.slice rl A'.v.ls.length jl) (.slice rs A'.v.ds.length js) ∧ Below w9.heap.size w9 W) ?_ ?_
  · exact ⟨(Box10.made w9 _ _ _ _ _ _ _ _ _ _ _ rfl).ext ((Below.refl _ _).alloc (Nat.le_refl _) _) (by simp), Box10.made _ _ _ _ _ _ _ _ _ _ _ _ (by simp), ((Below.refl _ _).alloc (Nat.le_refl _) _).alloc (by simp) _⟩
  rintro wx ⟨x9, x10, hb9x⟩
  obtain ⟨B9, E⟩ := S9
  have HR7X := hid (HR7B.out.ext hb9x)
  have HRA := hid (HR9.out.ext hb9x)
  have HWX := hid (HW9.out.ext hb9x)
  have HR6X := hid (HR69.out.ext hb9x)
  have HB2X := hid (HB29.out.trans (hb9x.mono HB29.out.size))
  have hk1 := HK1.out.ext hb9x
  have hk2 := HK2.out.ext hb9x
  obtain ⟨NB, hNB⟩ : ∃ N, B9.length = N := ⟨_, rfl⟩
  have HS : Hid (∀ W, Below wx.heap.size wx W → (W.cell? ⟨w9.heap.size, 0, none⟩ = some (.int .i64 A'.kind) ∧ W.cell? ⟨w9.heap.size, 1, none⟩ = some (.int .u16 A'.fr.1) ∧ W.cell? ⟨w9.heap.size, 2, none⟩ = some (.int .u32 A'.fr.2) ∧ W.cell? ⟨w9.heap.size, 3, none⟩ = some (.int .u64 A'.num) ∧ W.cell? ⟨w9.heap.size, 4, none⟩ = some (.int .u64 A'.vw) ∧ W.cell? ⟨w9.heap.size, 5, none⟩ = some (.slice qd A'.data.length kd) ∧ W.cell? ⟨w9.heap.size, 6, none⟩ = some (.int .u64 A'.v.id) ∧ W.cell? ⟨w9.heap.size, 7, none⟩ = some (.slice qm A'.v.ms.length km) ∧ W.cell? ⟨w9.heap.size, 8, none⟩ = some (.slice ql A'.v.ls.length kl) ∧ W.cell? ⟨w9.heap.size, 9, none⟩ = some (.slice qs A'.v.ds.length ks) ∧ W.cell? ⟨w9.heap.size + 1, 0, none⟩ = some (.int .i64 A'.kind) ∧ W.cell? ⟨w9.heap.size + 1, 1, none⟩ = some (.int .u16 A'.fr.1) ∧ W.cell? ⟨w9.heap.size + 1, 2, none⟩ = some (.int .u32 A'.fr.2) ∧ W.cell? ⟨w9.heap.size + 1, 3, none⟩ = some (.int .u64 A'.num) ∧ W.cell? ⟨w9.heap.size + 1, 4, none⟩ = some (.int .u64 A'.vw) ∧ W.cell? ⟨w9.heap.size + 1, 5, none⟩ = some (.slice rd A'.data.length jd) ∧ W.cell? ⟨w9.heap.size + 1, 6, none⟩ = some (.int .u64 A'.v.id) ∧ W.cell? ⟨w9.heap.size + 1, 7, none⟩ = some (.slice rm A'.v.ms.length jm) ∧ W.cell? ⟨w9.heap.size + 1, 8, none⟩ = some (.slice rl A'.v.ls.length jl) ∧ W.cell? ⟨w9.heap.size + 1, 9, none⟩ = some (.slice rs A'.v.ds.length js) ∧ W.cell? ⟨w7.heap.size, 0, none⟩ = some (.slice z9 NB c9) ∧ W.cell? ⟨w7.heap.size, 1, none⟩ = some (.int .i64 E))) := hid fun W h => by
    have := HRA.out.c0
    simp only at this
    rw [hNB] at this
    exact ⟨cell_toB (x9.c0) h, cell_toB (x9.c1) h, cell_toB (x9.c2) h, cell_toB (x9.c3) h, cell_toB (x9.c4) h, cell_toB (x9.c5) h, cell_toB (x9.c6) h, cell_toB (x9.c7) h, cell_toB (x9.c8) h, cell_toB (x9.c9) h, cell_toB (x10.c0) h, cell_toB (x10.c1) h, cell_toB (x10.c2) h, cell_toB (x10.c3) h, cell_toB (x10.c4) h, cell_toB (x10.c5) h, cell_toB (x10.c6) h, cell_toB (x10.c7) h, cell_toB (x10.c8) h, cell_toB (x10.c9) h, cell_toB this h, cell_toB (HRA.out.c1) h⟩
  have SR : Hid (∀ W, Below wx.heap.size wx W → Calls Try.prog 24 #[.agg #[.int .i64 A'.kind, .int .u16 A'.fr.1, .int .u32 A'.fr.2, .int .u64 A'.num, .int .u64 A'.vw, .slice qd A'.data.length kd, .int .u64 A'.v.id, .slice qm A'.v.ms.length km, .slice ql A'.v.ls.length kl, .slice qs A'.v.ds.length ks], .agg #[.int .i64 A'.kind, .int .u16 A'.fr.1, .int .u32 A'.fr.2, .int .u64 A'.num, .int .u64 A'.vw, .slice rd A'.data.length jd, .int .u64 A'.v.id, .slice rm A'.v.ms.length jm, .slice rl A'.v.ls.length jl, .slice rs A'.v.ds.length js]] W fun e w' => e = .returned (.bool true) ∧ Below wx.heap.size wx w') := hid fun W h => relB h (cmdSameR_is (dc := kd) (cm := km) (cl := kl) (cd := ks) (ec := jd) (em := jm) (el := jl) (ed := js) (hid (sameC_self A')) (hk1.ext h) (hk2.ext h))
  have DN : Hid (∀ W, Below wx.heap.size wx W → Calls Try.prog 27 #[.pointer (some ⟨w3.heap.size, 0, none⟩)] W fun e w' => ∃ v', e = .returned v' ∧ OwnB w' W.heap.size v' F ∧ Below W.heap.size W w') := hid fun W h => wDone_any (HWX.out.ext h) (by rw [HNF.out]; omega)
  have ER : Hid (∀ W, Below wx.heap.size wx W → Calls Try.prog 35 #[.pointer (some ⟨s7, 0, none⟩)] W fun e w' => e = .returned (.int .i64 E) ∧ W = w') := hid fun W h => rErr_any (HR7X.out.ext h)
  have LF : Hid (∀ W, Below wx.heap.size wx W → Calls Try.prog 34 #[.pointer (some ⟨s7, 0, none⟩)] W fun e w' => e = .returned (.int .i64 NB) ∧ W = w') := hid fun W h => by
    have := rLeft_any (HR7X.out.ext h)
    simp only at this
    rw [hNB] at this; exact this
  have AX : Hid (∀ W, Below wx.heap.size wx W → Calls Try.prog 25 #[] W fun e w' => e = .returned (.bool true) ∧ Below wx.heap.size wx w') := hid fun W h => relB h (awakeC_any W)
  have H0 : Below wx.heap.size wx wx.drew := (Below.refl _ _).drew
  clear hNB hk1 hk2 x9 x10 hb9x HK1 HK2 HR7B HR9 HB29 HW9 HR69
  by_cases hE : E = 0
  · have t1 : ((E : Int) != 0) = false := by rw [hE]; rfl
    clear hE

    refine wp_region_held_drew (S := fun W => W.cell? ⟨w9.heap.size, 0, none⟩ = some (.int .i64 A'.kind) ∧ W.cell? ⟨w9.heap.size, 1, none⟩ = some (.int .u16 A'.fr.1) ∧ W.cell? ⟨w9.heap.size, 2, none⟩ = some (.int .u32 A'.fr.2) ∧ W.cell? ⟨w9.heap.size, 3, none⟩ = some (.int .u64 A'.num) ∧ W.cell? ⟨w9.heap.size, 4, none⟩ = some (.int .u64 A'.vw) ∧ W.cell? ⟨w9.heap.size, 5, none⟩ = some (.slice qd A'.data.length kd) ∧ W.cell? ⟨w9.heap.size, 6, none⟩ = some (.int .u64 A'.v.id) ∧ W.cell? ⟨w9.heap.size, 7, none⟩ = some (.slice qm A'.v.ms.length km) ∧ W.cell? ⟨w9.heap.size, 8, none⟩ = some (.slice ql A'.v.ls.length kl) ∧ W.cell? ⟨w9.heap.size, 9, none⟩ = some (.slice qs A'.v.ds.length ks) ∧ W.cell? ⟨w9.heap.size + 1, 0, none⟩ = some (.int .i64 A'.kind) ∧ W.cell? ⟨w9.heap.size + 1, 1, none⟩ = some (.int .u16 A'.fr.1) ∧ W.cell? ⟨w9.heap.size + 1, 2, none⟩ = some (.int .u32 A'.fr.2) ∧ W.cell? ⟨w9.heap.size + 1, 3, none⟩ = some (.int .u64 A'.num) ∧ W.cell? ⟨w9.heap.size + 1, 4, none⟩ = some (.int .u64 A'.vw) ∧ W.cell? ⟨w9.heap.size + 1, 5, none⟩ = some (.slice rd A'.data.length jd) ∧ W.cell? ⟨w9.heap.size + 1, 6, none⟩ = some (.int .u64 A'.v.id) ∧ W.cell? ⟨w9.heap.size + 1, 7, none⟩ = some (.slice rm A'.v.ms.length jm) ∧ W.cell? ⟨w9.heap.size + 1, 8, none⟩ = some (.slice rl A'.v.ls.length jl) ∧ W.cell? ⟨w9.heap.size + 1, 9, none⟩ = some (.slice rs A'.v.ds.length js) ∧ W.cell? ⟨w7.heap.size, 0, none⟩ = some (.slice z9 NB c9) ∧ W.cell? ⟨w7.heap.size, 1, none⟩ = some (.int .i64 E)) (by kernel_rfl) (HS.out _ H0) (fun hHeld => ?_)
    refine wpAnyH_take (i := 0) (oi := _) (v := .pointer (some ⟨w3.heap.size, 0, none⟩)) rfl (by kernel_rfl) (by kernel_rfl) (by kernel_rfl) (fun _ _ _ h => h) (Or.inl ⟨by rfl, ?_⟩) (by assumption) ?_
    · intro W hSw
      try dsimp only at hSw
      go_simp
    try simp only [Act.put, List.getElem_toArray, List.getElem_cons_succ, List.getElem_cons_zero, List.setIfInBounds_toArray, List.set_cons_zero, List.set_cons_succ]
    refine wpAnyH_take (i := 2) (oi := _) (v := .slice q6 NF k6) rfl (by kernel_rfl) (by kernel_rfl) (by kernel_rfl) (fun _ _ _ h => h) (Or.inl ⟨by rfl, ?_⟩) (by assumption) ?_
    · intro W hSw
      try dsimp only at hSw
      go_simp
    try simp only [Act.put, List.getElem_toArray, List.getElem_cons_succ, List.getElem_cons_zero, List.setIfInBounds_toArray, List.set_cons_zero, List.set_cons_succ]
    refine wpAnyH_ready (rs := [1]) (by kernel_rfl) (by simp) ?_
    refine AllReadyH.cons (o := _) rfl (fun K hK => ?_) AllReadyH.nil
    go_simp
    refine (DN.out _ H0).mono ?_
    rintro e wa ⟨va, rfl, howna, hba⟩
    obtain ⟨qa, ka, ea, hra, -⟩ := howna.row
    rw [HNF.out] at ea
    subst ea
    have ha := H0.trans (hba.mono H0.size)
    have SB := hid (sameB_is (ca := ka) (cb := k6) (hid (decide_eq_true (rfl : F = F))) HNF HNF (by omega) (by omega) hra (HR6X.out.ext ha))
    clear howna hba hra
    refine hK.out _ _ (HS.out _ (ha)) (fun hHeld => ?_)
    clear hK K
    try simp only [Act.put, List.getElem_toArray, List.getElem_cons_succ, List.getElem_cons_zero, List.setIfInBounds_toArray, List.set_cons_zero, List.set_cons_succ]
    refine wpAnyH_ready (rs := [3]) (by kernel_rfl) (by simp) ?_
    refine AllReadyH.cons (o := _) rfl (fun K hK => ?_) AllReadyH.nil
    go_simp
    (with_reducible refine SB.out.mono ?_)
    rintro e wb ⟨rfl, hbb⟩
    have hb := ha.trans (hbb.mono ha.size)
    clear SB hbb
    refine hK.out _ _ (HS.out _ (hb)) (fun hHeld => ?_)
    clear hK K
    try simp only [Act.put, List.getElem_toArray, List.getElem_cons_succ, List.getElem_cons_zero, List.setIfInBounds_toArray, List.set_cons_zero, List.set_cons_succ]
    refine wpAnyH_take (i := 4) (oi := _) (v := .bool true) rfl (by kernel_rfl) (by kernel_rfl) (by kernel_rfl) (fun _ _ _ h => h) (Or.inl ⟨by rfl, ?_⟩) (by assumption) ?_
    · intro W hSw
      try dsimp only at hSw
      go_simp
    try simp only [Act.put, List.getElem_toArray, List.getElem_cons_succ, List.getElem_cons_zero, List.setIfInBounds_toArray, List.set_cons_zero, List.set_cons_succ]
    refine wpAnyH_take (i := 5) (oi := _) (v := .agg #[.int .i64 A'.kind, .int .u16 A'.fr.1, .int .u32 A'.fr.2, .int .u64 A'.num, .int .u64 A'.vw, .slice qd A'.data.length kd, .int .u64 A'.v.id, .slice qm A'.v.ms.length km, .slice ql A'.v.ls.length kl, .slice qs A'.v.ds.length ks]) rfl (by kernel_rfl) (by kernel_rfl) (by kernel_rfl) (fun _ _ _ h => h) (Or.inl ⟨by rfl, ?_⟩) (by assumption) ?_
    · intro W hSw
      try dsimp only at hSw
      go_simp
    try simp only [Act.put, List.getElem_toArray, List.getElem_cons_succ, List.getElem_cons_zero, List.setIfInBounds_toArray, List.set_cons_zero, List.set_cons_succ]
    refine wpAnyH_take (i := 6) (oi := _) (v := .agg #[.int .i64 A'.kind, .int .u16 A'.fr.1, .int .u32 A'.fr.2, .int .u64 A'.num, .int .u64 A'.vw, .slice rd A'.data.length jd, .int .u64 A'.v.id, .slice rm A'.v.ms.length jm, .slice rl A'.v.ls.length jl, .slice rs A'.v.ds.length js]) rfl (by kernel_rfl) (by kernel_rfl) (by kernel_rfl) (fun _ _ _ h => h) (Or.inl ⟨by rfl, ?_⟩) (by assumption) ?_
    · intro W hSw
      try dsimp only at hSw
      go_simp
    try simp only [Act.put, List.getElem_toArray, List.getElem_cons_succ, List.getElem_cons_zero, List.setIfInBounds_toArray, List.set_cons_zero, List.set_cons_succ]
    refine wpAnyH_ready (rs := [7]) (by kernel_rfl) (by simp) ?_
    refine AllReadyH.cons (o := _) rfl (fun K hK => ?_) AllReadyH.nil
    go_simp
    (with_reducible refine (SR.out _ hb).mono ?_)
    rintro e wc ⟨rfl, hc⟩
    refine hK.out _ _ (HS.out _ (hc)) (fun hHeld => ?_)
    clear hK K
    try simp only [Act.put, List.getElem_toArray, List.getElem_cons_succ, List.getElem_cons_zero, List.setIfInBounds_toArray, List.set_cons_zero, List.set_cons_succ]
    refine wpAnyH_take (i := 8) (oi := _) (v := .bool true) rfl (by kernel_rfl) (by kernel_rfl) (by kernel_rfl) (fun _ _ _ h => h) (Or.inl ⟨by rfl, ?_⟩) (by assumption) ?_
    · intro W hSw
      try dsimp only at hSw
      go_simp
    try simp only [Act.put, List.getElem_toArray, List.getElem_cons_succ, List.getElem_cons_zero, List.setIfInBounds_toArray, List.set_cons_zero, List.set_cons_succ]
    refine wpAnyH_take (i := 9) (oi := _) (v := .bool true) rfl (by kernel_rfl) (by kernel_rfl) (by kernel_rfl) (fun _ _ _ h => h) (Or.inl ⟨by rfl, ?_⟩) (by assumption) ?_
    · intro W hSw
      try dsimp only at hSw
      go_simp
    try simp only [Act.put, List.getElem_toArray, List.getElem_cons_succ, List.getElem_cons_zero, List.setIfInBounds_toArray, List.set_cons_zero, List.set_cons_succ]
    refine wpAnyH_take (i := 10) (oi := _) (v := .pointer (some ⟨s7, 0, none⟩)) rfl (by kernel_rfl) (by kernel_rfl) (by kernel_rfl) (fun _ _ _ h => h) (Or.inl ⟨by rfl, ?_⟩) (by assumption) ?_
    · intro W hSw
      try dsimp only at hSw
      go_simp
    try simp only [Act.put, List.getElem_toArray, List.getElem_cons_succ, List.getElem_cons_zero, List.setIfInBounds_toArray, List.set_cons_zero, List.set_cons_succ]
    refine wpAnyH_take (i := 12) (oi := _) (v := .pointer (some ⟨w7.heap.size, 0, none⟩)) rfl (by kernel_rfl) (by kernel_rfl) (by kernel_rfl) (fun _ _ _ h => h) (Or.inl ⟨by rfl, ?_⟩) (by assumption) ?_
    · intro W hSw
      try dsimp only at hSw
      go_simp
    try simp only [Act.put, List.getElem_toArray, List.getElem_cons_succ, List.getElem_cons_zero, List.setIfInBounds_toArray, List.set_cons_zero, List.set_cons_succ]
    refine wpAnyH_take (i := 13) (oi := _) (v := .pointer (some ⟨w7.heap.size, 0, none⟩)) rfl (by kernel_rfl) (by kernel_rfl) (by kernel_rfl) (fun _ _ _ h => h) (Or.inl ⟨by rfl, ?_⟩) (by assumption) ?_
    · intro W hSw
      try dsimp only at hSw
      go_simp
    try simp only [Act.put, List.getElem_toArray, List.getElem_cons_succ, List.getElem_cons_zero, List.setIfInBounds_toArray, List.set_cons_zero, List.set_cons_succ]
    refine wpAnyH_take (i := 14) (oi := _) (v := .pointer (some ⟨w7.heap.size, 1, none⟩)) rfl (by kernel_rfl) (by kernel_rfl) (by kernel_rfl) (fun _ _ _ h => h) (Or.inl ⟨by rfl, ?_⟩) (by assumption) ?_
    · intro W hSw
      try dsimp only at hSw
      go_simp
    try simp only [Act.put, List.getElem_toArray, List.getElem_cons_succ, List.getElem_cons_zero, List.setIfInBounds_toArray, List.set_cons_zero, List.set_cons_succ]
    refine wpAnyH_take (i := 15) (oi := _) (v := .int .i64 E) rfl (by kernel_rfl) (by kernel_rfl) (by kernel_rfl) (fun _ _ _ h => h) (Or.inl ⟨by rfl, ?_⟩) (by assumption) ?_
    · intro W hSw
      try dsimp only at hSw
      go_simp
    try simp only [Act.put, List.getElem_toArray, List.getElem_cons_succ, List.getElem_cons_zero, List.setIfInBounds_toArray, List.set_cons_zero, List.set_cons_succ]
    refine wpAnyH_ready (rs := [11]) (by kernel_rfl) (by simp) ?_
    refine AllReadyH.cons (o := _) rfl (fun K hK => ?_) AllReadyH.nil
    go_simp
    (with_reducible refine (ER.out _ hc).mono ?_)
    rintro e wd ⟨rfl, rfl⟩
    refine hK.out _ _ (HS.out _ (hc)) (fun hHeld => ?_)
    clear hK K
    try simp only [Act.put, List.getElem_toArray, List.getElem_cons_succ, List.getElem_cons_zero, List.setIfInBounds_toArray, List.set_cons_zero, List.set_cons_succ]
    refine wpAnyH_take (i := 16) (oi := _) (v := .bool true) rfl (by kernel_rfl) (by kernel_rfl) (by kernel_rfl) (fun _ _ _ h => h) (Or.inl ⟨by rfl, ?_⟩) (by assumption) ?_
    · intro W hSw
      try dsimp only at hSw
      go_simp
    try simp only [Act.put, List.getElem_toArray, List.getElem_cons_succ, List.getElem_cons_zero, List.setIfInBounds_toArray, List.set_cons_zero, List.set_cons_succ]
    refine wpAnyH_take (i := 17) (oi := _) (v := .bool true) rfl (by kernel_rfl) (by kernel_rfl) (by kernel_rfl) (fun _ _ _ h => h) (Or.inl ⟨by rfl, ?_⟩) (by assumption) ?_
    · intro W hSw
      try dsimp only at hSw
      go_simp
    try simp only [Act.put, List.getElem_toArray, List.getElem_cons_succ, List.getElem_cons_zero, List.setIfInBounds_toArray, List.set_cons_zero, List.set_cons_succ]
    refine wpAnyH_take (i := 18) (oi := _) (v := .bool true) rfl (by kernel_rfl) (by kernel_rfl) (by kernel_rfl) (fun _ _ _ h => h) (Or.inl ⟨by rfl, ?_⟩) (by assumption) ?_
    · intro W hSw
      try dsimp only at hSw
      go_simp
    try simp only [Act.put, List.getElem_toArray, List.getElem_cons_succ, List.getElem_cons_zero, List.setIfInBounds_toArray, List.set_cons_zero, List.set_cons_succ]
    refine wpAnyH_take (i := 19) (oi := _) (v := .pointer (some ⟨w7.heap.size, 0, none⟩)) rfl (by kernel_rfl) (by kernel_rfl) (by kernel_rfl) (fun _ _ _ h => h) (Or.inl ⟨by rfl, ?_⟩) (by assumption) ?_
    · intro W hSw
      try dsimp only at hSw
      go_simp
    try simp only [Act.put, List.getElem_toArray, List.getElem_cons_succ, List.getElem_cons_zero, List.setIfInBounds_toArray, List.set_cons_zero, List.set_cons_succ]
    refine wpAnyH_take (i := 20) (oi := _) (v := .pointer (some ⟨w7.heap.size, 0, none⟩)) rfl (by kernel_rfl) (by kernel_rfl) (by kernel_rfl) (fun _ _ _ h => h) (Or.inl ⟨by rfl, ?_⟩) (by assumption) ?_
    · intro W hSw
      try dsimp only at hSw
      go_simp
    try simp only [Act.put, List.getElem_toArray, List.getElem_cons_succ, List.getElem_cons_zero, List.setIfInBounds_toArray, List.set_cons_zero, List.set_cons_succ]
    refine wpAnyH_take (i := 21) (oi := _) (v := .pointer (some ⟨w7.heap.size, 1, none⟩)) rfl (by kernel_rfl) (by kernel_rfl) (by kernel_rfl) (fun _ _ _ h => h) (Or.inl ⟨by rfl, ?_⟩) (by assumption) ?_
    · intro W hSw
      try dsimp only at hSw
      go_simp
    try simp only [Act.put, List.getElem_toArray, List.getElem_cons_succ, List.getElem_cons_zero, List.setIfInBounds_toArray, List.set_cons_zero, List.set_cons_succ]
    refine wpAnyH_take (i := 22) (oi := _) (v := .int .i64 E) rfl (by kernel_rfl) (by kernel_rfl) (by kernel_rfl) (fun _ _ _ h => h) (Or.inl ⟨by rfl, ?_⟩) (by assumption) ?_
    · intro W hSw
      try dsimp only at hSw
      go_simp
    try simp only [Act.put, List.getElem_toArray, List.getElem_cons_succ, List.getElem_cons_zero, List.setIfInBounds_toArray, List.set_cons_zero, List.set_cons_succ]
    refine wpAnyH_take (i := 23) (oi := _) (v := .bool false) rfl (by kernel_rfl) (by kernel_rfl) (by kernel_rfl) (fun _ _ _ h => h) (Or.inl ⟨by rfl, ?_⟩) (by assumption) ?_
    · intro W hSw
      try dsimp only at hSw
      go_simp
    try simp only [Act.put, List.getElem_toArray, List.getElem_cons_succ, List.getElem_cons_zero, List.setIfInBounds_toArray, List.set_cons_zero, List.set_cons_succ]
    refine wpAnyH_take (i := 24) (oi := _) (v := .bool false) rfl (by kernel_rfl) (by kernel_rfl) (by kernel_rfl) (fun _ _ _ h => h) (Or.inl ⟨by rfl, ?_⟩) (by assumption) ?_
    · intro W hSw
      try dsimp only at hSw
      go_simp
    try simp only [Act.put, List.getElem_toArray, List.getElem_cons_succ, List.getElem_cons_zero, List.setIfInBounds_toArray, List.set_cons_zero, List.set_cons_succ]
    refine wpAnyH_take (i := 25) (oi := _) (v := .pointer (some ⟨s7, 0, none⟩)) rfl (by kernel_rfl) (by kernel_rfl) (by kernel_rfl) (fun _ _ _ h => h) (Or.inl ⟨by rfl, ?_⟩) (by assumption) ?_
    · intro W hSw
      try dsimp only at hSw
      go_simp
    try simp only [Act.put, List.getElem_toArray, List.getElem_cons_succ, List.getElem_cons_zero, List.setIfInBounds_toArray, List.set_cons_zero, List.set_cons_succ]
    refine wpAnyH_take (i := 27) (oi := _) (v := .pointer (some ⟨w7.heap.size, 0, none⟩)) rfl (by kernel_rfl) (by kernel_rfl) (by kernel_rfl) (fun _ _ _ h => h) (Or.inl ⟨by rfl, ?_⟩) (by assumption) ?_
    · intro W hSw
      try dsimp only at hSw
      go_simp
    try simp only [Act.put, List.getElem_toArray, List.getElem_cons_succ, List.getElem_cons_zero, List.setIfInBounds_toArray, List.set_cons_zero, List.set_cons_succ]
    refine wpAnyH_take (i := 28) (oi := _) (v := .pointer (some ⟨w7.heap.size, 0, none⟩)) rfl (by kernel_rfl) (by kernel_rfl) (by kernel_rfl) (fun _ _ _ h => h) (Or.inl ⟨by rfl, ?_⟩) (by assumption) ?_
    · intro W hSw
      try dsimp only at hSw
      go_simp
    try simp only [Act.put, List.getElem_toArray, List.getElem_cons_succ, List.getElem_cons_zero, List.setIfInBounds_toArray, List.set_cons_zero, List.set_cons_succ]
    refine wpAnyH_take (i := 29) (oi := _) (v := .pointer (some ⟨w7.heap.size, 0, none⟩)) rfl (by kernel_rfl) (by kernel_rfl) (by kernel_rfl) (fun _ _ _ h => h) (Or.inl ⟨by rfl, ?_⟩) (by assumption) ?_
    · intro W hSw
      try dsimp only at hSw
      go_simp
    try simp only [Act.put, List.getElem_toArray, List.getElem_cons_succ, List.getElem_cons_zero, List.setIfInBounds_toArray, List.set_cons_zero, List.set_cons_succ]
    refine wpAnyH_take (i := 30) (oi := _) (v := .slice z9 NB c9) rfl (by kernel_rfl) (by kernel_rfl) (by kernel_rfl) (fun _ _ _ h => h) (Or.inl ⟨by rfl, ?_⟩) (by assumption) ?_
    · intro W hSw
      try dsimp only at hSw
      go_simp
    try simp only [Act.put, List.getElem_toArray, List.getElem_cons_succ, List.getElem_cons_zero, List.setIfInBounds_toArray, List.set_cons_zero, List.set_cons_succ]
    refine wpAnyH_take (i := 31) (oi := _) (v := .int .i64 NB) rfl (by kernel_rfl) (by kernel_rfl) (by kernel_rfl) (fun _ _ _ h => h) (Or.inl ⟨by rfl, ?_⟩) (by assumption) ?_
    · intro W hSw
      try dsimp only at hSw
      go_simp
    try simp only [Act.put, List.getElem_toArray, List.getElem_cons_succ, List.getElem_cons_zero, List.setIfInBounds_toArray, List.set_cons_zero, List.set_cons_succ]
    refine wpAnyH_ready (rs := [26]) (by kernel_rfl) (by simp) ?_
    refine AllReadyH.cons (o := _) rfl (fun K hK => ?_) AllReadyH.nil
    go_simp
    (with_reducible refine (LF.out _ hc).mono ?_)
    rintro e we ⟨rfl, rfl⟩
    refine hK.out _ _ (HS.out _ (hc)) (fun hHeld => ?_)
    clear hK K
    try simp only [Act.put, List.getElem_toArray, List.getElem_cons_succ, List.getElem_cons_zero, List.setIfInBounds_toArray, List.set_cons_zero, List.set_cons_succ]
    refine wpAnyH_take (i := 32) (oi := _) (v := .bool true) rfl (by kernel_rfl) (by kernel_rfl) (by kernel_rfl) (fun _ _ _ h => h) (Or.inl ⟨by rfl, ?_⟩) (by assumption) ?_
    · intro W hSw
      try dsimp only at hSw
      go_simp
    try simp only [Act.put, List.getElem_toArray, List.getElem_cons_succ, List.getElem_cons_zero, List.setIfInBounds_toArray, List.set_cons_zero, List.set_cons_succ]
    refine wpAnyH_take (i := 33) (oi := _) (v := .bool true) rfl (by kernel_rfl) (by kernel_rfl) (by kernel_rfl) (fun _ _ _ h => h) (Or.inl ⟨by rfl, ?_⟩) (by assumption) ?_
    · intro W hSw
      try dsimp only at hSw
      go_simp
    try simp only [Act.put, List.getElem_toArray, List.getElem_cons_succ, List.getElem_cons_zero, List.setIfInBounds_toArray, List.set_cons_zero, List.set_cons_succ]
    refine wpAnyH_take (i := 34) (oi := _) (v := .bool true) rfl (by kernel_rfl) (by kernel_rfl) (by kernel_rfl) (fun _ _ _ h => h) (Or.inl ⟨by rfl, ?_⟩) (by assumption) ?_
    · intro W hSw
      try dsimp only at hSw
      go_simp
    try simp only [Act.put, List.getElem_toArray, List.getElem_cons_succ, List.getElem_cons_zero, List.setIfInBounds_toArray, List.set_cons_zero, List.set_cons_succ]
    refine wpAnyH_take (i := 35) (oi := _) (v := .bool true) rfl (by kernel_rfl) (by kernel_rfl) (by kernel_rfl) (fun _ _ _ h => h) (Or.inl ⟨by rfl, ?_⟩) (by assumption) ?_
    · intro W hSw
      try dsimp only at hSw
      go_simp
    try simp only [Act.put, List.getElem_toArray, List.getElem_cons_succ, List.getElem_cons_zero, List.setIfInBounds_toArray, List.set_cons_zero, List.set_cons_succ]
    refine wpAnyH_ready (rs := [36]) (by kernel_rfl) (by simp) ?_
    refine AllReadyH.cons (o := _) rfl (fun K hK => ?_) AllReadyH.nil
    go_simp
    (with_reducible refine (AX.out _ hc).mono ?_)
    rintro e wf ⟨rfl, hf⟩
    refine hK.out _ _ (HS.out _ (hf)) (fun hHeld => ?_)
    clear hK K
    try simp only [Act.put, List.getElem_toArray, List.getElem_cons_succ, List.getElem_cons_zero, List.setIfInBounds_toArray, List.set_cons_zero, List.set_cons_succ]
    refine wpAnyH_take (i := 37) (oi := _) (v := .bool true) rfl (by kernel_rfl) (by kernel_rfl) (by kernel_rfl) (fun _ _ _ h => h) (Or.inl ⟨by rfl, ?_⟩) (by assumption) ?_
    · intro W hSw
      try dsimp only at hSw
      go_simp
    try simp only [Act.put, List.getElem_toArray, List.getElem_cons_succ, List.getElem_cons_zero, List.setIfInBounds_toArray, List.set_cons_zero, List.set_cons_succ]
    refine wpAnyH_ready (rs := [38]) (by kernel_rfl) (by simp) ?_
    refine AllReadyH.cons (o := _) rfl (fun K hK => ?_) AllReadyH.nil
    go_simp
    refine hK.out _ _ (HS.out _ (hf)) (fun hHeld => ?_)
    clear hK K
    try simp only [Act.put, List.getElem_toArray, List.getElem_cons_succ, List.getElem_cons_zero, List.setIfInBounds_toArray, List.set_cons_zero, List.set_cons_succ]
    refine wpAnyH_done (by kernel_rfl) ?_ _
    go_wp2
    go_ret
    exact ⟨rfl, HB2.out.trans ((HB2X.out.trans (hf.mono HB2X.out.size)).mono HB2.out.size)⟩
  · have t1 : ((E : Int) != 0) = true := by simp; omega
    clear hE
    refine wp_region_held_drew (S := fun W => W.cell? ⟨w9.heap.size, 0, none⟩ = some (.int .i64 A'.kind) ∧ W.cell? ⟨w9.heap.size, 1, none⟩ = some (.int .u16 A'.fr.1) ∧ W.cell? ⟨w9.heap.size, 2, none⟩ = some (.int .u32 A'.fr.2) ∧ W.cell? ⟨w9.heap.size, 3, none⟩ = some (.int .u64 A'.num) ∧ W.cell? ⟨w9.heap.size, 4, none⟩ = some (.int .u64 A'.vw) ∧ W.cell? ⟨w9.heap.size, 5, none⟩ = some (.slice qd A'.data.length kd) ∧ W.cell? ⟨w9.heap.size, 6, none⟩ = some (.int .u64 A'.v.id) ∧ W.cell? ⟨w9.heap.size, 7, none⟩ = some (.slice qm A'.v.ms.length km) ∧ W.cell? ⟨w9.heap.size, 8, none⟩ = some (.slice ql A'.v.ls.length kl) ∧ W.cell? ⟨w9.heap.size, 9, none⟩ = some (.slice qs A'.v.ds.length ks) ∧ W.cell? ⟨w9.heap.size + 1, 0, none⟩ = some (.int .i64 A'.kind) ∧ W.cell? ⟨w9.heap.size + 1, 1, none⟩ = some (.int .u16 A'.fr.1) ∧ W.cell? ⟨w9.heap.size + 1, 2, none⟩ = some (.int .u32 A'.fr.2) ∧ W.cell? ⟨w9.heap.size + 1, 3, none⟩ = some (.int .u64 A'.num) ∧ W.cell? ⟨w9.heap.size + 1, 4, none⟩ = some (.int .u64 A'.vw) ∧ W.cell? ⟨w9.heap.size + 1, 5, none⟩ = some (.slice rd A'.data.length jd) ∧ W.cell? ⟨w9.heap.size + 1, 6, none⟩ = some (.int .u64 A'.v.id) ∧ W.cell? ⟨w9.heap.size + 1, 7, none⟩ = some (.slice rm A'.v.ms.length jm) ∧ W.cell? ⟨w9.heap.size + 1, 8, none⟩ = some (.slice rl A'.v.ls.length jl) ∧ W.cell? ⟨w9.heap.size + 1, 9, none⟩ = some (.slice rs A'.v.ds.length js) ∧ W.cell? ⟨w7.heap.size, 0, none⟩ = some (.slice z9 NB c9) ∧ W.cell? ⟨w7.heap.size, 1, none⟩ = some (.int .i64 E)) (by kernel_rfl) (HS.out _ H0) (fun hHeld => ?_)
    refine wpAnyH_take (i := 0) (oi := _) (v := .pointer (some ⟨w3.heap.size, 0, none⟩)) rfl (by kernel_rfl) (by kernel_rfl) (by kernel_rfl) (fun _ _ _ h => h) (Or.inl ⟨by rfl, ?_⟩) (by assumption) ?_
    · intro W hSw
      try dsimp only at hSw
      go_simp
    try simp only [Act.put, List.getElem_toArray, List.getElem_cons_succ, List.getElem_cons_zero, List.setIfInBounds_toArray, List.set_cons_zero, List.set_cons_succ]
    refine wpAnyH_take (i := 2) (oi := _) (v := .slice q6 NF k6) rfl (by kernel_rfl) (by kernel_rfl) (by kernel_rfl) (fun _ _ _ h => h) (Or.inl ⟨by rfl, ?_⟩) (by assumption) ?_
    · intro W hSw
      try dsimp only at hSw
      go_simp
    try simp only [Act.put, List.getElem_toArray, List.getElem_cons_succ, List.getElem_cons_zero, List.setIfInBounds_toArray, List.set_cons_zero, List.set_cons_succ]
    refine wpAnyH_ready (rs := [1]) (by kernel_rfl) (by simp) ?_
    refine AllReadyH.cons (o := _) rfl (fun K hK => ?_) AllReadyH.nil
    go_simp
    refine (DN.out _ H0).mono ?_
    rintro e wa ⟨va, rfl, howna, hba⟩
    obtain ⟨qa, ka, ea, hra, -⟩ := howna.row
    rw [HNF.out] at ea
    subst ea
    have ha := H0.trans (hba.mono H0.size)
    have SB := hid (sameB_is (ca := ka) (cb := k6) (hid (decide_eq_true (rfl : F = F))) HNF HNF (by omega) (by omega) hra (HR6X.out.ext ha))
    clear howna hba hra
    refine hK.out _ _ (HS.out _ (ha)) (fun hHeld => ?_)
    clear hK K
    try simp only [Act.put, List.getElem_toArray, List.getElem_cons_succ, List.getElem_cons_zero, List.setIfInBounds_toArray, List.set_cons_zero, List.set_cons_succ]
    refine wpAnyH_ready (rs := [3]) (by kernel_rfl) (by simp) ?_
    refine AllReadyH.cons (o := _) rfl (fun K hK => ?_) AllReadyH.nil
    go_simp
    (with_reducible refine SB.out.mono ?_)
    rintro e wb ⟨rfl, hbb⟩
    have hb := ha.trans (hbb.mono ha.size)
    clear SB hbb
    refine hK.out _ _ (HS.out _ (hb)) (fun hHeld => ?_)
    clear hK K
    try simp only [Act.put, List.getElem_toArray, List.getElem_cons_succ, List.getElem_cons_zero, List.setIfInBounds_toArray, List.set_cons_zero, List.set_cons_succ]
    refine wpAnyH_take (i := 4) (oi := _) (v := .bool true) rfl (by kernel_rfl) (by kernel_rfl) (by kernel_rfl) (fun _ _ _ h => h) (Or.inl ⟨by rfl, ?_⟩) (by assumption) ?_
    · intro W hSw
      try dsimp only at hSw
      go_simp
    try simp only [Act.put, List.getElem_toArray, List.getElem_cons_succ, List.getElem_cons_zero, List.setIfInBounds_toArray, List.set_cons_zero, List.set_cons_succ]
    refine wpAnyH_take (i := 5) (oi := _) (v := .agg #[.int .i64 A'.kind, .int .u16 A'.fr.1, .int .u32 A'.fr.2, .int .u64 A'.num, .int .u64 A'.vw, .slice qd A'.data.length kd, .int .u64 A'.v.id, .slice qm A'.v.ms.length km, .slice ql A'.v.ls.length kl, .slice qs A'.v.ds.length ks]) rfl (by kernel_rfl) (by kernel_rfl) (by kernel_rfl) (fun _ _ _ h => h) (Or.inl ⟨by rfl, ?_⟩) (by assumption) ?_
    · intro W hSw
      try dsimp only at hSw
      go_simp
    try simp only [Act.put, List.getElem_toArray, List.getElem_cons_succ, List.getElem_cons_zero, List.setIfInBounds_toArray, List.set_cons_zero, List.set_cons_succ]
    refine wpAnyH_take (i := 6) (oi := _) (v := .agg #[.int .i64 A'.kind, .int .u16 A'.fr.1, .int .u32 A'.fr.2, .int .u64 A'.num, .int .u64 A'.vw, .slice rd A'.data.length jd, .int .u64 A'.v.id, .slice rm A'.v.ms.length jm, .slice rl A'.v.ls.length jl, .slice rs A'.v.ds.length js]) rfl (by kernel_rfl) (by kernel_rfl) (by kernel_rfl) (fun _ _ _ h => h) (Or.inl ⟨by rfl, ?_⟩) (by assumption) ?_
    · intro W hSw
      try dsimp only at hSw
      go_simp
    try simp only [Act.put, List.getElem_toArray, List.getElem_cons_succ, List.getElem_cons_zero, List.setIfInBounds_toArray, List.set_cons_zero, List.set_cons_succ]
    refine wpAnyH_ready (rs := [7]) (by kernel_rfl) (by simp) ?_
    refine AllReadyH.cons (o := _) rfl (fun K hK => ?_) AllReadyH.nil
    go_simp
    (with_reducible refine (SR.out _ hb).mono ?_)
    rintro e wc ⟨rfl, hc⟩
    refine hK.out _ _ (HS.out _ (hc)) (fun hHeld => ?_)
    clear hK K
    try simp only [Act.put, List.getElem_toArray, List.getElem_cons_succ, List.getElem_cons_zero, List.setIfInBounds_toArray, List.set_cons_zero, List.set_cons_succ]
    refine wpAnyH_take (i := 8) (oi := _) (v := .bool true) rfl (by kernel_rfl) (by kernel_rfl) (by kernel_rfl) (fun _ _ _ h => h) (Or.inl ⟨by rfl, ?_⟩) (by assumption) ?_
    · intro W hSw
      try dsimp only at hSw
      go_simp
    try simp only [Act.put, List.getElem_toArray, List.getElem_cons_succ, List.getElem_cons_zero, List.setIfInBounds_toArray, List.set_cons_zero, List.set_cons_succ]
    refine wpAnyH_take (i := 9) (oi := _) (v := .bool true) rfl (by kernel_rfl) (by kernel_rfl) (by kernel_rfl) (fun _ _ _ h => h) (Or.inl ⟨by rfl, ?_⟩) (by assumption) ?_
    · intro W hSw
      try dsimp only at hSw
      go_simp
    try simp only [Act.put, List.getElem_toArray, List.getElem_cons_succ, List.getElem_cons_zero, List.setIfInBounds_toArray, List.set_cons_zero, List.set_cons_succ]
    refine wpAnyH_take (i := 10) (oi := _) (v := .pointer (some ⟨s7, 0, none⟩)) rfl (by kernel_rfl) (by kernel_rfl) (by kernel_rfl) (fun _ _ _ h => h) (Or.inl ⟨by rfl, ?_⟩) (by assumption) ?_
    · intro W hSw
      try dsimp only at hSw
      go_simp
    try simp only [Act.put, List.getElem_toArray, List.getElem_cons_succ, List.getElem_cons_zero, List.setIfInBounds_toArray, List.set_cons_zero, List.set_cons_succ]
    refine wpAnyH_take (i := 12) (oi := _) (v := .pointer (some ⟨w7.heap.size, 0, none⟩)) rfl (by kernel_rfl) (by kernel_rfl) (by kernel_rfl) (fun _ _ _ h => h) (Or.inl ⟨by rfl, ?_⟩) (by assumption) ?_
    · intro W hSw
      try dsimp only at hSw
      go_simp
    try simp only [Act.put, List.getElem_toArray, List.getElem_cons_succ, List.getElem_cons_zero, List.setIfInBounds_toArray, List.set_cons_zero, List.set_cons_succ]
    refine wpAnyH_take (i := 13) (oi := _) (v := .pointer (some ⟨w7.heap.size, 0, none⟩)) rfl (by kernel_rfl) (by kernel_rfl) (by kernel_rfl) (fun _ _ _ h => h) (Or.inl ⟨by rfl, ?_⟩) (by assumption) ?_
    · intro W hSw
      try dsimp only at hSw
      go_simp
    try simp only [Act.put, List.getElem_toArray, List.getElem_cons_succ, List.getElem_cons_zero, List.setIfInBounds_toArray, List.set_cons_zero, List.set_cons_succ]
    refine wpAnyH_take (i := 14) (oi := _) (v := .pointer (some ⟨w7.heap.size, 1, none⟩)) rfl (by kernel_rfl) (by kernel_rfl) (by kernel_rfl) (fun _ _ _ h => h) (Or.inl ⟨by rfl, ?_⟩) (by assumption) ?_
    · intro W hSw
      try dsimp only at hSw
      go_simp
    try simp only [Act.put, List.getElem_toArray, List.getElem_cons_succ, List.getElem_cons_zero, List.setIfInBounds_toArray, List.set_cons_zero, List.set_cons_succ]
    refine wpAnyH_take (i := 15) (oi := _) (v := .int .i64 E) rfl (by kernel_rfl) (by kernel_rfl) (by kernel_rfl) (fun _ _ _ h => h) (Or.inl ⟨by rfl, ?_⟩) (by assumption) ?_
    · intro W hSw
      try dsimp only at hSw
      go_simp
    try simp only [Act.put, List.getElem_toArray, List.getElem_cons_succ, List.getElem_cons_zero, List.setIfInBounds_toArray, List.set_cons_zero, List.set_cons_succ]
    refine wpAnyH_ready (rs := [11]) (by kernel_rfl) (by simp) ?_
    refine AllReadyH.cons (o := _) rfl (fun K hK => ?_) AllReadyH.nil
    go_simp
    (with_reducible refine (ER.out _ hc).mono ?_)
    rintro e wd ⟨rfl, rfl⟩
    refine hK.out _ _ (HS.out _ (hc)) (fun hHeld => ?_)
    clear hK K
    try simp only [Act.put, List.getElem_toArray, List.getElem_cons_succ, List.getElem_cons_zero, List.setIfInBounds_toArray, List.set_cons_zero, List.set_cons_succ]
    refine wpAnyH_take (i := 16) (oi := _) (v := .bool true) rfl (by kernel_rfl) (by kernel_rfl) (by kernel_rfl) (fun _ _ _ h => h) (Or.inl ⟨by rfl, ?_⟩) (by assumption) ?_
    · intro W hSw
      try dsimp only at hSw
      go_simp
    try simp only [Act.put, List.getElem_toArray, List.getElem_cons_succ, List.getElem_cons_zero, List.setIfInBounds_toArray, List.set_cons_zero, List.set_cons_succ]
    refine wpAnyH_take (i := 17) (oi := _) (v := .bool true) rfl (by kernel_rfl) (by kernel_rfl) (by kernel_rfl) (fun _ _ _ h => h) (Or.inl ⟨by rfl, ?_⟩) (by assumption) ?_
    · intro W hSw
      try dsimp only at hSw
      go_simp
    try simp only [Act.put, List.getElem_toArray, List.getElem_cons_succ, List.getElem_cons_zero, List.setIfInBounds_toArray, List.set_cons_zero, List.set_cons_succ]
    refine wpAnyH_take (i := 18) (oi := _) (v := .bool true) rfl (by kernel_rfl) (by kernel_rfl) (by kernel_rfl) (fun _ _ _ h => h) (Or.inl ⟨by rfl, ?_⟩) (by assumption) ?_
    · intro W hSw
      try dsimp only at hSw
      go_simp
    try simp only [Act.put, List.getElem_toArray, List.getElem_cons_succ, List.getElem_cons_zero, List.setIfInBounds_toArray, List.set_cons_zero, List.set_cons_succ]
    refine wpAnyH_take (i := 19) (oi := _) (v := .pointer (some ⟨w7.heap.size, 0, none⟩)) rfl (by kernel_rfl) (by kernel_rfl) (by kernel_rfl) (fun _ _ _ h => h) (Or.inl ⟨by rfl, ?_⟩) (by assumption) ?_
    · intro W hSw
      try dsimp only at hSw
      go_simp
    try simp only [Act.put, List.getElem_toArray, List.getElem_cons_succ, List.getElem_cons_zero, List.setIfInBounds_toArray, List.set_cons_zero, List.set_cons_succ]
    refine wpAnyH_take (i := 20) (oi := _) (v := .pointer (some ⟨w7.heap.size, 0, none⟩)) rfl (by kernel_rfl) (by kernel_rfl) (by kernel_rfl) (fun _ _ _ h => h) (Or.inl ⟨by rfl, ?_⟩) (by assumption) ?_
    · intro W hSw
      try dsimp only at hSw
      go_simp
    try simp only [Act.put, List.getElem_toArray, List.getElem_cons_succ, List.getElem_cons_zero, List.setIfInBounds_toArray, List.set_cons_zero, List.set_cons_succ]
    refine wpAnyH_take (i := 21) (oi := _) (v := .pointer (some ⟨w7.heap.size, 1, none⟩)) rfl (by kernel_rfl) (by kernel_rfl) (by kernel_rfl) (fun _ _ _ h => h) (Or.inl ⟨by rfl, ?_⟩) (by assumption) ?_
    · intro W hSw
      try dsimp only at hSw
      go_simp
    try simp only [Act.put, List.getElem_toArray, List.getElem_cons_succ, List.getElem_cons_zero, List.setIfInBounds_toArray, List.set_cons_zero, List.set_cons_succ]
    refine wpAnyH_take (i := 22) (oi := _) (v := .int .i64 E) rfl (by kernel_rfl) (by kernel_rfl) (by kernel_rfl) (fun _ _ _ h => h) (Or.inl ⟨by rfl, ?_⟩) (by assumption) ?_
    · intro W hSw
      try dsimp only at hSw
      go_simp
    try simp only [Act.put, List.getElem_toArray, List.getElem_cons_succ, List.getElem_cons_zero, List.setIfInBounds_toArray, List.set_cons_zero, List.set_cons_succ]
    refine wpAnyH_take (i := 23) (oi := _) (v := .bool true) rfl (by kernel_rfl) (by kernel_rfl) (by kernel_rfl) (fun _ _ _ h => h) (Or.inl ⟨by rfl, ?_⟩) (by assumption) ?_
    · intro W hSw
      try dsimp only at hSw
      go_simp
    try simp only [Act.put, List.getElem_toArray, List.getElem_cons_succ, List.getElem_cons_zero, List.setIfInBounds_toArray, List.set_cons_zero, List.set_cons_succ]
    refine wpAnyH_take (i := 24) (oi := _) (v := .bool true) rfl (by kernel_rfl) (by kernel_rfl) (by kernel_rfl) (fun _ _ _ h => h) (Or.inl ⟨by rfl, ?_⟩) (by assumption) ?_
    · intro W hSw
      try dsimp only at hSw
      go_simp
    try simp only [Act.put, List.getElem_toArray, List.getElem_cons_succ, List.getElem_cons_zero, List.setIfInBounds_toArray, List.set_cons_zero, List.set_cons_succ]
    refine wpAnyH_take (i := 25) (oi := _) (v := undef) rfl (by kernel_rfl) (by kernel_rfl) (by kernel_rfl) (fun _ _ _ h => h) (Or.inr ⟨by rfl, rfl⟩) (by assumption) ?_
    try simp only [Act.put, List.getElem_toArray, List.getElem_cons_succ, List.getElem_cons_zero, List.setIfInBounds_toArray, List.set_cons_zero, List.set_cons_succ]
    refine wpAnyH_take (i := 26) (oi := _) (v := undef) rfl (by kernel_rfl) (by kernel_rfl) (by kernel_rfl) (fun _ _ _ h => h) (Or.inr ⟨by rfl, rfl⟩) (by assumption) ?_
    try simp only [Act.put, List.getElem_toArray, List.getElem_cons_succ, List.getElem_cons_zero, List.setIfInBounds_toArray, List.set_cons_zero, List.set_cons_succ]
    refine wpAnyH_take (i := 27) (oi := _) (v := undef) rfl (by kernel_rfl) (by kernel_rfl) (by kernel_rfl) (fun _ _ _ h => h) (Or.inr ⟨by rfl, rfl⟩) (by assumption) ?_
    try simp only [Act.put, List.getElem_toArray, List.getElem_cons_succ, List.getElem_cons_zero, List.setIfInBounds_toArray, List.set_cons_zero, List.set_cons_succ]
    refine wpAnyH_take (i := 28) (oi := _) (v := undef) rfl (by kernel_rfl) (by kernel_rfl) (by kernel_rfl) (fun _ _ _ h => h) (Or.inr ⟨by rfl, rfl⟩) (by assumption) ?_
    try simp only [Act.put, List.getElem_toArray, List.getElem_cons_succ, List.getElem_cons_zero, List.setIfInBounds_toArray, List.set_cons_zero, List.set_cons_succ]
    refine wpAnyH_take (i := 29) (oi := _) (v := undef) rfl (by kernel_rfl) (by kernel_rfl) (by kernel_rfl) (fun _ _ _ h => h) (Or.inr ⟨by rfl, rfl⟩) (by assumption) ?_
    try simp only [Act.put, List.getElem_toArray, List.getElem_cons_succ, List.getElem_cons_zero, List.setIfInBounds_toArray, List.set_cons_zero, List.set_cons_succ]
    refine wpAnyH_take (i := 30) (oi := _) (v := undef) rfl (by kernel_rfl) (by kernel_rfl) (by kernel_rfl) (fun _ _ _ h => h) (Or.inr ⟨by rfl, rfl⟩) (by assumption) ?_
    try simp only [Act.put, List.getElem_toArray, List.getElem_cons_succ, List.getElem_cons_zero, List.setIfInBounds_toArray, List.set_cons_zero, List.set_cons_succ]
    refine wpAnyH_take (i := 31) (oi := _) (v := undef) rfl (by kernel_rfl) (by kernel_rfl) (by kernel_rfl) (fun _ _ _ h => h) (Or.inr ⟨by rfl, rfl⟩) (by assumption) ?_
    try simp only [Act.put, List.getElem_toArray, List.getElem_cons_succ, List.getElem_cons_zero, List.setIfInBounds_toArray, List.set_cons_zero, List.set_cons_succ]
    refine wpAnyH_take (i := 32) (oi := _) (v := undef) rfl (by kernel_rfl) (by kernel_rfl) (by kernel_rfl) (fun _ _ _ h => h) (Or.inr ⟨by rfl, rfl⟩) (by assumption) ?_
    try simp only [Act.put, List.getElem_toArray, List.getElem_cons_succ, List.getElem_cons_zero, List.setIfInBounds_toArray, List.set_cons_zero, List.set_cons_succ]
    refine wpAnyH_take (i := 33) (oi := _) (v := .bool true) rfl (by kernel_rfl) (by kernel_rfl) (by kernel_rfl) (fun _ _ _ h => h) (Or.inl ⟨by rfl, ?_⟩) (by assumption) ?_
    · intro W hSw
      try dsimp only at hSw
      go_simp
    try simp only [Act.put, List.getElem_toArray, List.getElem_cons_succ, List.getElem_cons_zero, List.setIfInBounds_toArray, List.set_cons_zero, List.set_cons_succ]
    refine wpAnyH_take (i := 34) (oi := _) (v := .bool true) rfl (by kernel_rfl) (by kernel_rfl) (by kernel_rfl) (fun _ _ _ h => h) (Or.inl ⟨by rfl, ?_⟩) (by assumption) ?_
    · intro W hSw
      try dsimp only at hSw
      go_simp
    try simp only [Act.put, List.getElem_toArray, List.getElem_cons_succ, List.getElem_cons_zero, List.setIfInBounds_toArray, List.set_cons_zero, List.set_cons_succ]
    refine wpAnyH_take (i := 35) (oi := _) (v := .bool true) rfl (by kernel_rfl) (by kernel_rfl) (by kernel_rfl) (fun _ _ _ h => h) (Or.inl ⟨by rfl, ?_⟩) (by assumption) ?_
    · intro W hSw
      try dsimp only at hSw
      go_simp
    try simp only [Act.put, List.getElem_toArray, List.getElem_cons_succ, List.getElem_cons_zero, List.setIfInBounds_toArray, List.set_cons_zero, List.set_cons_succ]
    refine wpAnyH_ready (rs := [36]) (by kernel_rfl) (by simp) ?_
    refine AllReadyH.cons (o := _) rfl (fun K hK => ?_) AllReadyH.nil
    go_simp
    (with_reducible refine (AX.out _ hc).mono ?_)
    rintro e wf ⟨rfl, hf⟩
    refine hK.out _ _ (HS.out _ (hf)) (fun hHeld => ?_)
    clear hK K
    try simp only [Act.put, List.getElem_toArray, List.getElem_cons_succ, List.getElem_cons_zero, List.setIfInBounds_toArray, List.set_cons_zero, List.set_cons_succ]
    refine wpAnyH_take (i := 37) (oi := _) (v := .bool true) rfl (by kernel_rfl) (by kernel_rfl) (by kernel_rfl) (fun _ _ _ h => h) (Or.inl ⟨by rfl, ?_⟩) (by assumption) ?_
    · intro W hSw
      try dsimp only at hSw
      go_simp
    try simp only [Act.put, List.getElem_toArray, List.getElem_cons_succ, List.getElem_cons_zero, List.setIfInBounds_toArray, List.set_cons_zero, List.set_cons_succ]
    refine wpAnyH_ready (rs := [38]) (by kernel_rfl) (by simp) ?_
    refine AllReadyH.cons (o := _) rfl (fun K hK => ?_) AllReadyH.nil
    go_simp
    refine hK.out _ _ (HS.out _ (hf)) (fun hHeld => ?_)
    clear hK K
    try simp only [Act.put, List.getElem_toArray, List.getElem_cons_succ, List.getElem_cons_zero, List.setIfInBounds_toArray, List.set_cons_zero, List.set_cons_succ]
    refine wpAnyH_done (by kernel_rfl) ?_ _
    go_wp2
    go_ret
    exact ⟨rfl, HB2.out.trans ((HB2X.out.trans (hf.mono HB2X.out.size)).mono HB2.out.size)⟩
end Go.Proofs.Yteodaakdjnjhmaa
