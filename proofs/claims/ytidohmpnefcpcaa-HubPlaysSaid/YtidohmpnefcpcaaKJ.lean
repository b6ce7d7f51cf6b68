/- Parts of the proof: KJ. -/
import Derived.Test.YtidohmpnefcpcaaK12
namespace Go.Proofs.Ytidohmpnefcpcaa
open Go.RowKit
/-! ### hub: Out, the walk -/
/-- append of an element at an operation of a region that draws -/
theorem step_appendE {w : World} {o : Oper} {a : Go.Act} {K : Go.Act → World → Prop} {Q : Exit → Go.Act → World → Prop} {y : Nat → Option Bool} {s x : Operand} {base k bytes : Nat} {T E : TypeId} {i0 : TypeInfo} {z v : Value} {xs : List (List Value)} {el : List Value} {b c : Nat} (hw : Region.wanted o y = true)
    (ht : Try.prog.underlying T = some (.slice E)) (hi : Try.prog.info? E = some i0) (hz0 : i0.zero = some z) (hz1 : i0.size = k) (hz2 : i0.bytes = bytes) (hzs : z.cells.size = k) (hk : 0 < k) (hbt : bytes ≤ 1000)
    (hown : OwnK w base E k v xs) (hel : el.length = k) (h1 : ∀ u ∈ el, u.oneCell' = true) (hc : ∀ j u, el[j]? = some u → w.cell? ⟨b, j, none⟩ = some u) (hl : xs.length + 1 ≤ 1000000) (hbase : base ≤ w.heap.size)
    (ho : o.op = .call { callee := .builtin .append, args := #[s, x], argTypes := #[T, T] }) (hs : a.eval s = v) (hx : a.eval x = .slice (some ⟨b, 0, none⟩) 1 c)
    (h : ∀ v' w', OwnK w' base E k v' (xs ++ [el]) → Mut (fun g => v.ownBlock = some g) w w' → (∀ g, v'.ownBlock = some g → v.ownBlock = some g ∨ w.heap.size ≤ g) → K (a.put o.dst v') w') : if Region.wanted o y = true then Oper.wp Try.prog o a w K Q else K (a.put o.dst undef) w := by
  rw [if_pos hw]
  obtain ⟨v', w', hr, h2, h3, h4, -⟩ := hown.append (c := c) T o.type i0 z bytes ht hi hz0 hz1 hz2 hzs hk hel h1 hc hl hbt hbase
  exact Lib.wp_append_run w s x T T ho _ _ hs hx v' w' hr (h v' w' h2 h3 h4)
theorem cells7_new (W : World) (t : TypeId) (x0 x1 x2 x3 x4 x5 x6 : Value) : ∀ j u, [x0, x1, x2, x3, x4, x5, x6][j]? = some u → (W.alloc (.cells #[x0, x1, x2, x3, x4, x5, x6] t)).cell? ⟨W.heap.size, j, none⟩ = some u := fun j u hj => by
  match j, hj with
  | 0, hj => simp at hj; subst hj; simp
  | 1, hj => simp at hj; subst hj; simp
  | 2, hj => simp at hj; subst hj; simp
  | 3, hj => simp at hj; subst hj; simp
  | 4, hj => simp at hj; subst hj; simp
  | 5, hj => simp at hj; subst hj; simp
  | 6, hj => simp at hj; subst hj; simp
  | j + 7, hj => simp at hj
theorem els7 {k f1 f2 t1 t2 q : Int} {a : Option Addr} {n c : Nat} : ∀ u ∈ [Value.int .i64 k, .int .u16 f1, .int .u32 f2, .int .u16 t1, .int .u32 t2, .int .u64 q, .slice a n c], u.oneCell' = true := fun u hu => by
  simp at hu
  rcases hu with rfl | rfl | rfl | rfl | rfl | rfl | rfl <;> rfl
theorem ItemAt.none (w : World) (N : Nat → Prop) : ItemAt w N (.slice none 0 0) [] := ⟨_, _, rfl, .inl rfl, fun x h => (by cases h), fun b off e => (by cases e)⟩
theorem dueD_base (d : SndD) : (dueD d).base = d.base ∧ (dueD d).wait = d.wait := dueE_base _ _ _
theorem LFit.outF {B : Nat} {d : LnkD} (h : LFit B d) : LFit B (outD d) := by
  have e := dueD_base d.snd
  refine ⟨?_, h.uh, h.hh, fun b hb => h.tl b ?_⟩
  · show (dueD d.snd).base + (dueD d.snd).wait.length ≤ B
    rw [e.1, e.2]; exact h.bw
  · rw [← e.2]; exact hb
/-- what Out leaves -/
structure OutR (w w' : World) (N : Nat → Prop) (h r : Nat) (sf : Pid) (L L' : List HubX) (pk : List PackD) (v : Value) (xs : List (List Value)) : Prop where
  hub : HubR w w' N N h r sf L L'
  row : OwnK w' w.heap.size 41 7 v xs
  els : ElsAt w' (fun b => N b ∨ v.ownBlock = some b) xs (pk.map packC)
set_option maxRecDepth 100000 in
set_option maxHeartbeats 12800000 in
theorem hout_any {w : World} {N : Nat → Prop} {h r B : Nat} {sf : Pid} {L : List HubX} (H : HubIs w N h r sf L) (hN : ∀ b, N b → b < w.heap.size) (hF : ∀ x ∈ L, LFit B x.d) (hB : B ≤ 900000) :
    Calls Try.prog 12 #[.pointer (some ⟨h, 0, none⟩)] w fun e w' => ∃ v, e = .returned v ∧ ∃ L' xs, OutR w w' N h r sf L L' (outR sf (hubD L)).1 v xs ∧ hubD L' = (outR sf (hubD L)).2 := by
  have CP := hid (hpeers_any H)
  have HH := hid H
  have HN0 := hid hN
  have HF0 := hid hF
  obtain ⟨ps, hps⟩ : ∃ ps, peersR (hubD L) = ps := ⟨_, rfl⟩
  have HPS : Hid (ps.length ≤ 48 ∧ ∀ p ∈ ps, p ∈ L.map (·.p)) := hid (by
    have e : (hubD L).map (·.1) = L.map (·.p) := by simp [hubD]
    rw [← hps]
    unfold peersR
    rw [e]
    exact ⟨by rw [sortL_length]; have := H.lim; simp; omega, fun p hp => mem_sortL.1 hp⟩)
  have HOG : Hid (outR sf (hubD L) = outGo sf ps (hubD L)) := hid (by unfold outR; rw [hps])
  rw [hps] at CP
  clear H hN hF hps
  go_enter Try.func12, Try.ntmps12
  go_wp2_with fail
  refine CP.out.mono ?_
  rintro e w1 ⟨pv, rfl, hpo, hb1⟩
  obtain ⟨pa, pc, rfl, hprow, hpb⟩ := hpo.row
  obtain ⟨m, hm⟩ : ∃ m, ps.length = m := ⟨_, rfl⟩
  rw [hm]
  have HM := hid hm
  have HB1 := hid hb1
  have HROW := hid hprow
  have HPB : Hid (∀ b off, pa = some ⟨b, off, none⟩ → w.heap.size ≤ b) := hid hpb
  have HI0 : Hid (OutI w1 w1 N h r B sf L L (.slice none 0 0) [] []) := hid ⟨OwnK.nil _ _ _ _, ElsAt.nil _ _, (HH.out.ext hb1).less (fun b e => .inl (HH.out.fp b e)) (fun b e => e), Mut.refl _ _, fun _ e => e, HF0.out, rfl, HH.out.fp, fun b e => Nat.lt_of_lt_of_le (HN0.out b e) hb1.size⟩
  clear hpo hprow hpb hm hb1 CP
  go_wp2_with fail
  go_loopw [3, 12] (fun v i wr => ∃ (k : Nat) (xs : List (List Value)) (Lk : List HubX) (pk : List PackD), i = .int .i64 k ∧ k ≤ m ∧ Hid (OutI w1 wr N h r B sf L Lk v xs pk) ∧ Hid (outGo sf ps (hubD L) = (pk ++ (outGo sf (ps.drop k) (hubD Lk)).1, (outGo sf (ps.drop k) (hubD Lk)).2)) ∧ Hid (xs.length ≤ 17 * k)) (fun _ i _ => m - (intOf i).toNat)
  case atStart => exact ⟨0, [], L, [], rfl, Nat.zero_le _, HI0, hid (by simp), hid (by simp)⟩
  case round =>
    obtain ⟨k, xs, Lk, pk, rfl, hkm, HI, HG, HXL⟩ := hrel
    rename World => wo
    by_cases hlt : k < m
    · have t1' : decide ((k : Int) < (m : Int)) = true := decide_eq_true (by omega)
      have t2' : decide (k < m) = true := decide_eq_true hlt
      have hprw : PidRow wo pa ps := HROW.out.mut HI.out.mt fun b off e _ e2 => by
        have h1 := HPB.out b off e
        have h2 := HN0.out b (HH.out.fp b e2)
        omega
      obtain ⟨pb, po, x, y, e, hx, d0, d1⟩ := hprw.at (Below.refl _ _) rfl (show k < ps.length by rw [HM.out]; exact hlt)
      subst e
      have hkl : k < ps.length := by rw [HM.out]; exact hlt
      have hin : (x, y) ∈ Lk.map (·.p) := by
        rw [HI.out.ks, hx]
        exact HPS.out.2 _ (List.getElem_mem _)
      rcases lookX (x, y) Lk with ⟨e1, e2⟩ | ⟨A, z, C, e1, e2, e3, e4⟩
      · exact absurd hin e2
      have hdrop : ps.drop k = (x, y) :: ps.drop (k + 1) := by rw [List.drop_eq_getElem_cons hkl, ← hx]
      subst e1
      have HG1 : Hid (outGo sf (ps.drop k) (hubD (A ++ z :: C)) = (packs sf (x, y) z.d ++ (outGo sf (ps.drop (k + 1)) (hubD (A ++ ⟨z.p, z.k, outD z.d⟩ :: C))).1, (outGo sf (ps.drop (k + 1)) (hubD (A ++ ⟨z.p, z.k, outD z.d⟩ :: C))).2)) := hid (by rw [hdrop, outGo_step (k := z.k) e2 e3])
      obtain ⟨ML, hML⟩ : ∃ ML, ((A ++ z :: C).map fun x => (x.p, x.k.lb)) = ML := ⟨_, rfl⟩
      rw [hML] at e4
      have hlk : ∀ W, MapIs W r pidV ptrV ML → (Instr.lookup 72 (.map (some r)) (.agg #[.int .u16 x, .int .u32 y]) false).run Try.prog W = .ok (.pointer (some ⟨z.k.lb, 0, none⟩)) W := fun W hM => by
        have := hM.lookup_no keyPid Try.underlying72 (zeroLk W) (x, y)
        rw [e4] at this
        exact this
      obtain ⟨W1, hW1⟩ : ∃ W1, wo.alloc (.cells #[.int .u16 x, .int .u32 y] 30) = W1 := ⟨_, rfl⟩
      have hbw1 : Below wo.heap.size wo W1 := by rw [← hW1]; exact (Below.refl _ _).alloc (Nat.le_refl _) _
      have hzw1 : wo.heap.size < W1.heap.size := by rw [← hW1]; simp
      have b0 : W1.drew.cell? ⟨wo.heap.size, 0, none⟩ = some (.int .u16 x) := by rw [← hW1]; simp
      have b1 : W1.drew.cell? ⟨wo.heap.size, 1, none⟩ = some (.int .u32 y) := by rw [← hW1]; simp
      have I1 := HI.out.ext hbw1.drew
      have c2 := I1.hub.c2
      have hmp : MapIs W1.drew r pidV ptrV ML := by rw [← hML]; exact I1.hub.map
      have hzl := I1.hub.lnk z (by simp)
      have CO0 := lowes_any hzl
      obtain ⟨q, hq⟩ : ∃ q, z.d.owes = q := ⟨_, rfl⟩
      rw [hq] at CO0
      have CO := hid CO0
      have HQ := hid hq
      have HI1 := hid I1
      have HZL := hid hzl
      have HNB : Hid (∀ g, u3.ownBlock = some g → g < wo.heap.size) := hid fun g e => (HI.out.row.blk e).2
      have HZ1 := hid hzw1
      have HKM : Hid (k < m) := hid hlt
      have hw1r : w1.heap.size ≤ wo.heap.size := HI.out.mt.size
      have HWR := hid hw1r
      clear hprw hx hkl hin hdrop e2 e3 e4 hbw1 hzw1 I1 hzl CO0 hq hlt hkm hw1r hML
      go_upto_region 5 with fail
      go_region_held3 (fun W => MapIs W r pidV ptrV ML ∧ W.cell? ⟨h, 2, none⟩ = some (.map (some r)) ∧ W.cell? ⟨wo.heap.size, 0, none⟩ = some (.int .u16 x) ∧ W.cell? ⟨wo.heap.size, 1, none⟩ = some (.int .u32 y)) (first | exact ⟨hmp, c2, b0, b1⟩) (fail)
      clear hlk hmp c2 d0 d1
      go_wp2_with fail
      refine CO.out.mono ?_
      rintro e w6 ⟨rfl, hl6, hm6⟩
      have hlbz : z.k.lb < w1.heap.size := HI1.out.lt _ (HI1.out.nl _ (HI1.out.fq _ (.inr (.inr ⟨z, by simp, .inl rfl⟩))))
      have hne6 : ¬ (wo.heap.size = z.k.lb) := fun e => by have := HWR.out; omega
      have g0 := (hm6.cell (p := ⟨wo.heap.size, 0, none⟩) (by exact World.block_lt_of_cell? _ _ b0) (by exact hne6)).trans b0
      have g1 := (hm6.cell (p := ⟨wo.heap.size, 1, none⟩) (by exact World.block_lt_of_cell? _ _ b1) (by exact hne6)).trans b1
      have hfz : LFit B z.d := HI1.out.fit z (by simp)
      have hI6 := HI1.out.turn (hm6.mono fun b _ e => .inl e) hl6 ⟨hfz.bw, hfz.uh, hfz.hh, hfz.tl⟩
      obtain ⟨D0, hD0⟩ : ∃ D0 : LnkD, { z.d with owes := false } = D0 := ⟨_, rfl⟩
      rw [hD0] at hI6 hl6
      have HD0 := hid hD0
      have HI6 := hid hI6
      have HL6 := hid hl6
      have HFZ := hid hfz
      have HW6 : Hid (W1.drew.heap.size ≤ w6.heap.size) := hid hm6.size
      have HG0 : Hid (w6.cell? ⟨wo.heap.size, 0, none⟩ = some (.int .u16 x) ∧ w6.cell? ⟨wo.heap.size, 1, none⟩ = some (.int .u32 y)) := hid ⟨g0, g1⟩
      clear hI6 hl6 hm6 hlbz hne6 hfz b0 b1 CO hD0
      go_upto_if 23 with fail
      go_cut [3] (fun v wx => ∃ xs' : List (List Value), Hid (OutI w1 wx N h r B sf L (A ++ ⟨z.p, z.k, D0⟩ :: C) v xs' (pk ++ ackP sf (x, y) z.d)) ∧ Hid (xs'.length ≤ 17 * k + 1) ∧ Hid (wx.cell? ⟨wo.heap.size, 0, none⟩ = some (.int .u16 x) ∧ wx.cell? ⟨wo.heap.size, 1, none⟩ = some (.int .u32 y)) ∧ Hid (∀ g, v.ownBlock = some g → g ≠ wo.heap.size))
      case first =>
        cases q with
        | false =>
          go_wp2_with fail
          go_meet
          refine ⟨xs, hid ?_, hid (by have := HXL.out; omega), HG0, hid fun g e => by have := HNB.out g e; omega⟩
          have e1 : ackP sf (x, y) z.d = [] := by unfold ackP; rw [HQ.out]; rfl
          rw [e1, List.append_nil]
          exact HI6.out
        | true =>
          have CU0 := lupto_any (HL6.out.ext (Below.refl _ _).drew)
          obtain ⟨ut, hut⟩ : ∃ ut, D0.upto = ut := ⟨_, rfl⟩
          rw [hut] at CU0
          have CU := hid CU0
          have HUT := hid hut
          have hh0 := HI6.out.hub.c0
          have hh1 := HI6.out.hub.c1
          have hhl := HI6.out.hub.lt
          have HS0 : Hid (∀ W, Mut (fun g => u3.ownBlock = some g) w6 W → W.cell? ⟨h, 0, none⟩ = some (.int .u16 sf.1) ∧ W.cell? ⟨h, 1, none⟩ = some (.int .u32 sf.2) ∧ W.cell? ⟨wo.heap.size, 0, none⟩ = some (.int .u16 x) ∧ W.cell? ⟨wo.heap.size, 1, none⟩ = some (.int .u32 y)) := hid fun W hm => by
            have n1 : ¬ (u3.ownBlock = some h) := fun e => by
              have := (HI6.out.row.blk e).1
              have := HI6.out.lt h (HI6.out.nl h (.inl rfl))
              omega
            have n2 : ¬ (u3.ownBlock = some wo.heap.size) := fun e => by have := HNB.out _ e; omega
            have hlw := World.block_lt_of_cell? _ _ HG0.out.1
            exact ⟨(hm.cell (by exact hhl) n1).trans hh0, (hm.cell (by exact hhl) n1).trans hh1, (hm.cell (by exact hlw) n2).trans HG0.out.1, (hm.cell (by exact hlw) n2).trans HG0.out.2⟩
          have HM0 : Hid (Mut (fun g => u3.ownBlock = some g) w6 w6.drew) := hid (Mut.of_below (Below.refl _ _).drew)
          have HXX : Hid (xs.length + 1 ≤ 1000000) := hid (by have := HXL.out; have := HKM.out; have := HM.out; have := HPS.out.1; omega)
          have HBS : Hid (w1.heap.size ≤ w6.heap.size) := hid HI6.out.mt.size
          obtain ⟨i0, hi, hz0, hz1, hz2⟩ := info_parts infoPack
          clear CU0 hut hh0 hh1 hhl g0 g1
          go_upto_region 7 with fail
          go_region_held3 (fun W => Mut (fun g => u3.ownBlock = some g) w6 W ∧ W.cell? ⟨h, 0, none⟩ = some (.int .u16 sf.1) ∧ W.cell? ⟨h, 1, none⟩ = some (.int .u32 sf.2) ∧ W.cell? ⟨wo.heap.size, 0, none⟩ = some (.int .u16 x) ∧ W.cell? ⟨wo.heap.size, 1, none⟩ = some (.int .u32 y)) (first | exact ⟨HM0.out, HS0.out _ HM0.out⟩ | exact ⟨‹_›, HS0.out _ ‹_›⟩ | exact ⟨Mut.trans ‹_› (Mut.of_below ((Below.refl _ _).alloc (Nat.le_refl _) _)), HS0.out _ (Mut.trans ‹_› (Mut.of_below ((Below.refl _ _).alloc (Nat.le_refl _) _)))⟩) (first
            | (go_at_call 34; refine CU.out.mono ?_; rintro e w7 ⟨rfl, hb7⟩; have hbw7 : Below w6.heap.size w6 w7 := (Below.refl _ _).drew.trans hb7; have hmw7 : Mut (fun g => u3.ownBlock = some g) w6 w7 := Mut.of_below hbw7)
            | (refine step_appendE (base := w1.heap.size) (b := w7.heap.size) (el := [.int .i64 3, .int .u16 sf.1, .int .u32 sf.2, .int .u16 x, .int .u32 y, .int .u64 ut, .slice none 0 0]) (by rfl) Try.underlying35 hi hz0 hz1 hz2 rfl (by decide) (by decide) (HI6.out.row.ext (hbw7.alloc hbw7.size _)) rfl els7 (cells7_new _ _ _ _ _ _ _ _ _) HXX.out (Nat.le_trans HBS.out (hbw7.alloc hbw7.size _).size) rfl rfl rfl ?_; intro v4 w8 hown8 hm8 hn8; have hmw8 : Mut (fun g => u3.ownBlock = some g) w6 w8 := (hmw7.trans (Mut.of_below ((Below.refl _ _).alloc (Nat.le_refl _) _))).trans ⟨hm8.os, hm8.tape, hm8.output, hm8.size, hm8.block⟩))
          go_wp2_with fail
          go_meet
          obtain ⟨-, -, -, x0, x1⟩ := ‹Mut (fun g => u3.ownBlock = some g) w6 w8 ∧ _›
          have hz7 : w7.heap.size ≤ (w7.alloc (.cells #[.int .i64 3, .int .u16 sf.1, .int .u32 sf.2, .int .u16 x, .int .u32 y, .int .u64 ut, .slice none 0 0] 41)).heap.size := ((Below.refl _ _).alloc (Nat.le_refl _) _).size
          have hm78 : Mut (fun g => u3.ownBlock = some g) w7 w8 := (Mut.of_below ((Below.refl _ _).alloc (Nat.le_refl _) _)).trans ⟨hm8.os, hm8.tape, hm8.output, hm8.size, hm8.block⟩
          have happ := HI6.out.app (k := ⟨3, sf, (x, y), ut, []⟩) (ut := .slice none 0 0) hbw7 (ItemAt.none _ _) hm78 (fun g e => (hn8 g e).imp id fun e => Nat.le_trans hz7 e) hown8
          have e1 : ackP sf (x, y) z.d = [⟨3, sf, (x, y), ut, []⟩] := by unfold ackP; rw [HQ.out, ← HUT.out, ← HD0.out]; rfl
          refine ⟨_, hid (by rw [e1]; exact happ), hid (by have := HXL.out; simp; omega), hid ⟨x0, x1⟩, hid fun g e => ?_⟩
          rcases hn8 g e with e | e
          · have := HNB.out g e; omega
          · have h1 := HW6.out
            have h2 := HZ1.out
            have h3 := hbw7.size
            have h4 : W1.drew.heap.size = W1.heap.size := rfl
            omega
      case rest =>
        obtain ⟨xs1, HIX, HX1, HPC, HNW⟩ := hcut
        rename World => wx
        clear HI6 HL6 HG0 g0 g1 HQ
        have hzx : LnkIs wx (fun b => N b ∨ w1.heap.size ≤ b) z.k D0 := HIX.out.hub.lnk ⟨z.p, z.k, D0⟩ (by simp)
        have z0 := hzx.box.c0
        obtain ⟨us, hs2⟩ := hzx.snd
        have hs1 := hs2.less (N' := fun b => N b ∨ u3.ownBlock = some b) (.inl (HIX.out.nl _ (HIX.out.fq _ (.inr (.inr ⟨⟨z.p, z.k, D0⟩, by simp, .inr (.inl rfl)⟩))))) (fun g e => .inl (HIX.out.nl _ (HIX.out.fq _ (.inr (.inr ⟨⟨z.p, z.k, D0⟩, by simp, .inr (.inr (.inr e))⟩))))) (fun b e => e.elim (fun e => .inl (.inl e)) fun e => .inl (.inr (HIX.out.row.blk e).1))
        have hds : D0.snd = z.d.snd := by rw [← HD0.out]
        have CD := hid (wdue_any hs1 (by rw [hds]; have := HFZ.out.bw; omega) (fun b e => e.elim (fun e => Nat.lt_of_lt_of_le (HIX.out.lt b e) HIX.out.mt.size) fun e => (HIX.out.row.blk e).2) (fun b e => by rw [hds] at e; have := HFZ.out.tl b e; omega))
        have HS2 := hid hs2
        have HZX := hid hzx
        have HDS := hid hds
        clear hs1 hs2 hzx hds
        go_upto_region 8 with fail
        go_wp2_with fail
        refine CD.out.mono ?_
        rintro e w7 ⟨dv, xd, rfl, hD⟩
        obtain ⟨da, dc, hde, -⟩ := hD.row.sli
        obtain ⟨nd, hnd⟩ : ∃ nd, xd.length = nd := ⟨_, rfl⟩
        rw [hnd] at hde
        subst hde
        obtain ⟨its, hits⟩ : ∃ its, dueI D0.snd = its := ⟨_, rfl⟩
        have hel := hD.els
        rw [hits] at hel
        have hnl : its.length = nd := by have := hel.1; rw [List.length_map, hnd] at this; exact this.symm
        have hnd16 : nd ≤ 16 := by rw [← hnl, ← hits]; exact dueI_len _
        have hbw : (dueD D0.snd).base = D0.snd.base ∧ (dueD D0.snd).wait = D0.snd.wait := dueE_base _ _ _
        have hdj := HS2.out.join hD.is hD.mt hbw.2
        have hfs : ∀ b, b = z.k.sb → fpL z.k b := fun b e => .inr (.inl e)
        have hl7 := HZX.out.sent (hD.mt.mono fun b _ e => (show fpS z.k.sb z.k.wv b from .inl e)) (fun b e => e) (fun b e => .inl e) hdj (fun g e => .inl e)
        have hod : { D0 with snd := dueD D0.snd } = outD z.d := by rw [← HD0.out]; rfl
        have hfx := HFZ.out
        have hf7 : LFit B (outD z.d) := hfx.outF
        have hI7 : OutI w1 w7 N h r B sf L (A ++ ⟨z.p, z.k, outD z.d⟩ :: C) u3 xs1 (pk ++ ackP sf (x, y) z.d) := by
          have := HIX.out.turn (z := ⟨z.p, z.k, D0⟩) (d := outD z.d) (hD.mt.mono fun b _ e => hfs b e) (by rw [← hod]; exact hl7) hf7
          exact this
        have hsbl : z.k.sb < w1.heap.size := HIX.out.lt _ (HIX.out.nl _ (HIX.out.fq _ (.inr (.inr ⟨⟨z.p, z.k, D0⟩, by simp, hfs _ rfl⟩))))
        have hnsb : ¬ (wo.heap.size = z.k.sb) := fun e => by have := HWR.out; omega
        have HPC7 : Hid (w7.cell? ⟨wo.heap.size, 0, none⟩ = some (.int .u16 x) ∧ w7.cell? ⟨wo.heap.size, 1, none⟩ = some (.int .u32 y)) := hid ⟨(hD.mt.cell (p := ⟨wo.heap.size, 0, none⟩) (by exact World.block_lt_of_cell? _ _ HPC.out.1) (by exact hnsb)).trans HPC.out.1, (hD.mt.cell (p := ⟨wo.heap.size, 1, none⟩) (by exact World.block_lt_of_cell? _ _ HPC.out.2) (by exact hnsb)).trans HPC.out.2⟩
        have HROWD := hid hD.row
        have HELD : Hid (ElsAt w7 (fun b => N b ∨ u3.ownBlock = some b ∨ w7.heap.size ≤ b) xd (its.map itemC)) := hid (hel.grow fun b e => by
          rcases e with e | e | e
          · exact .inl (.inl (.inl e))
          · exact .inl (.inl (.inr e))
          · exact .inr e)
        have HI7 := hid hI7
        have HNL := hid hnl
        have HND := hid hnd
        have HN16 : Hid (nd ≤ 16) := hid hnd16
        have HITS : Hid (its = dueI z.d.snd) := hid (by rw [← hits, HDS.out])
        have HXW : Hid (∀ g, u3.ownBlock = some g → g < wx.heap.size) := hid fun g e => (HIX.out.row.blk e).2
        have HZ7 : Hid (wx.heap.size ≤ w7.heap.size) := hid hD.mt.size
        have HWL : Hid (wo.heap.size < w7.heap.size) := hid (World.block_lt_of_cell? _ _ HPC7.out.1)
        clear hel hnl hnd16 hbw hdj hfs hl7 hod hfx hf7 hI7 hsbl hnsb hD hits hnd z0 HZX HS2 HPC CD
        obtain ⟨vo, hvo⟩ : ∃ vo, vo = u3 := ⟨_, rfl⟩
        subst hvo
        go_wp2_with fail
        go_loopw [3, 41] (fun v i wi => ∃ (j : Nat) (xs2 : List (List Value)), i = .int .i64 j ∧ j ≤ nd ∧ Hid (OutI w1 wi N h r B sf L (A ++ ⟨z.p, z.k, outD z.d⟩ :: C) v xs2 ((pk ++ ackP sf (x, y) z.d) ++ (its.take j).map (dueP sf (x, y)))) ∧ Hid (Mut (fun b => vo.ownBlock = some b) w7 wi) ∧ Hid (∀ g, v.ownBlock = some g → vo.ownBlock = some g ∨ w7.heap.size ≤ g) ∧ Hid (xs2.length ≤ 17 * k + 1 + j)) (fun _ i _ => nd - (intOf i).toNat)
        case atStart => exact ⟨0, xs1, rfl, Nat.zero_le _, hid (by simpa using HI7.out), hid (Mut.refl _ _), hid (fun g e => .inl e), hid (by have := HX1.out; omega)⟩
        case round =>
          obtain ⟨j, xs2, rfl, hjn, HJ, HMJ, HNJ, HXJ⟩ := hrel
          rename World => wi
          by_cases hlt : j < nd
          · have s1' : decide ((j : Int) < (nd : Int)) = true := decide_eq_true (by omega)
            have s2' : decide (j < nd) = true := decide_eq_true hlt
            obtain ⟨bj, hbj⟩ : ∃ bj, its[j]'(by rw [HNL.out]; exact hlt) = bj := ⟨_, rfl⟩
            have hjl : j < its.length := by rw [HNL.out]; exact hlt
            have HTK : Hid (its.take (j + 1) = its.take j ++ [bj]) := hid (by rw [List.take_succ_eq_append_getElem hjl, hbj])
            have helw := HELD.out.mut HMJ.out fun b _ e => .inr (.inl e)
            obtain ⟨u, hu1, hu2⟩ := helw.2 j (by rw [List.length_map]; exact hjl)
            rw [List.getElem_map, hbj] at hu1 hu2
            have hu2' : ItemAt wi (fun b => N b ∨ vo.ownBlock = some b ∨ w7.heap.size ≤ b) u bj.2 := hu2
            have hu1' : xd[j]? = some [.int .u64 bj.1, u] := hu1
            have hrd := HROWD.out.mut HMJ.out fun g e e2 => by have h1 := (HROWD.out.blk e).1; have h2 := HXW.out g e2; omega
            obtain ⟨gd, cd, ed, -, -, hcd⟩ := hrd.at hu1'
            injection ed with ed1 ed2 ed3
            subst ed1
            obtain ⟨ua, uc, rfl, -, -, -⟩ := id hu2'
            obtain ⟨un, hun⟩ : ∃ un, bj.2.length = un := ⟨_, rfl⟩
            rw [hun] at hcd hu2'
            have r0 := hcd 0 _ rfl
            have r1 := hcd 1 _ rfl
            rw [Nat.add_zero] at r0
            obtain ⟨q, bt⟩ := bj
            have HU2 : Hid (ItemAt wi (fun b => N b ∨ u3.ownBlock = some b) (.slice ua un uc) bt) := hid (hu2'.grow fun b e => by
              rcases e with e | e
              · exact .inl (.inl e)
              · exact .inl (.inr (HNJ.out b e)))
            obtain ⟨Wb, hWb⟩ : ∃ Wb, wi.alloc (.cells #[.int .u64 (q : Int), .slice ua un uc] 85) = Wb := ⟨_, rfl⟩
            have hbwb : Below wi.heap.size wi Wb := by rw [← hWb]; exact (Below.refl _ _).alloc (Nat.le_refl _) _
            have hzwb : wi.heap.size < Wb.heap.size := by rw [← hWb]; simp
            have y0 : Wb.drew.cell? ⟨wi.heap.size, 0, none⟩ = some (.int .u64 q) := by rw [← hWb]; simp
            have y1 : Wb.drew.cell? ⟨wi.heap.size, 1, none⟩ = some (.slice ua un uc) := by rw [← hWb]; simp
            have hIb := HJ.out.ext hbwb.drew
            have hh0 := hIb.hub.c0
            have hh1 := hIb.hub.c1
            have hhl := hIb.hub.lt
            have hnwo : ∀ g, vo.ownBlock = some g → g ≠ wo.heap.size := HNW.out
            have hpc : wi.cell? ⟨wo.heap.size, 0, none⟩ = some (.int .u16 x) ∧ wi.cell? ⟨wo.heap.size, 1, none⟩ = some (.int .u32 y) := ⟨(HMJ.out.cell (p := ⟨wo.heap.size, 0, none⟩) (by exact HWL.out) (fun e => hnwo _ e rfl)).trans HPC7.out.1, (HMJ.out.cell (p := ⟨wo.heap.size, 1, none⟩) (by exact HWL.out) (fun e => hnwo _ e rfl)).trans HPC7.out.2⟩
            have hpb0 := cell_toB hpc.1 hbwb.drew
            have hpb1 := cell_toB hpc.2 hbwb.drew
            have HS0 : Hid (∀ W, Mut (fun g => u3.ownBlock = some g) Wb.drew W → W.cell? ⟨h, 0, none⟩ = some (.int .u16 sf.1) ∧ W.cell? ⟨h, 1, none⟩ = some (.int .u32 sf.2) ∧ W.cell? ⟨wo.heap.size, 0, none⟩ = some (.int .u16 x) ∧ W.cell? ⟨wo.heap.size, 1, none⟩ = some (.int .u32 y) ∧ W.cell? ⟨wi.heap.size, 0, none⟩ = some (.int .u64 q) ∧ W.cell? ⟨wi.heap.size, 1, none⟩ = some (.slice ua un uc)) := hid fun W hm => by
              have n1 : ¬ (u3.ownBlock = some h) := fun e => by
                have := (HJ.out.row.blk e).1
                have := HJ.out.lt h (HJ.out.nl h (.inl rfl))
                omega
              have n2 : ¬ (u3.ownBlock = some wo.heap.size) := fun e => by
                rcases HNJ.out _ e with e | e
                · exact hnwo _ e rfl
                · have := HWL.out; omega
              have n3 : ¬ (u3.ownBlock = some wi.heap.size) := fun e => by have := (HJ.out.row.blk e).2; omega
              have l2 := World.block_lt_of_cell? _ _ hpb0
              have l3 := World.block_lt_of_cell? _ _ y0
              exact ⟨(hm.cell (by exact hhl) n1).trans hh0, (hm.cell (by exact hhl) n1).trans hh1, (hm.cell (by exact l2) n2).trans hpb0, (hm.cell (by exact l2) n2).trans hpb1, (hm.cell (by exact l3) n3).trans y0, (hm.cell (by exact l3) n3).trans y1⟩
            have HM0 : Hid (Mut (fun g => u3.ownBlock = some g) Wb.drew Wb.drew) := hid (Mut.refl _ _)
            have HXX : Hid (xs2.length + 1 ≤ 1000000) := hid (by have := HXJ.out; have := HKM.out; have := HM.out; have := HPS.out.1; have := HN16.out; omega)
            have HIB := hid hIb
            have HBW : Hid (Below wi.heap.size wi Wb.drew) := hid hbwb.drew
            have HJN : Hid (j < nd) := hid hlt
            have HN16' := HN16.out
            obtain ⟨i0, hi, hz0, hz1, hz2⟩ := info_parts infoPack
            clear hbj hjl helw hu1 hu2 hu1' hu2' hrd hcd ed2 ed3 hun hbwb hzwb hIb hh0 hh1 hhl hnwo hpc hpb0 hpb1 y0 y1 hlt hjn
            go_upto_region 11 with fail
            clear hWb r0 r1
            go_region_held3 (fun W => Mut (fun g => u3.ownBlock = some g) Wb.drew W ∧ W.cell? ⟨h, 0, none⟩ = some (.int .u16 sf.1) ∧ W.cell? ⟨h, 1, none⟩ = some (.int .u32 sf.2) ∧ W.cell? ⟨wo.heap.size, 0, none⟩ = some (.int .u16 x) ∧ W.cell? ⟨wo.heap.size, 1, none⟩ = some (.int .u32 y) ∧ W.cell? ⟨wi.heap.size, 0, none⟩ = some (.int .u64 q) ∧ W.cell? ⟨wi.heap.size, 1, none⟩ = some (.slice ua un uc)) (first | exact ⟨HM0.out, HS0.out _ HM0.out⟩ | exact ⟨‹_›, HS0.out _ ‹_›⟩ | exact ⟨Mut.of_below ((Below.refl _ _).alloc (Nat.le_refl _) _), HS0.out _ (Mut.of_below ((Below.refl _ _).alloc (Nat.le_refl _) _))⟩) (first
              | (refine step_appendE (base := w1.heap.size) (b := Wb.heap.size) (el := [.int .i64 2, .int .u16 sf.1, .int .u32 sf.2, .int .u16 x, .int .u32 y, .int .u64 q, .slice ua un uc]) (by rfl) Try.underlying35 hi hz0 hz1 hz2 rfl (by decide) (by decide) (HIB.out.row.ext ((Below.refl _ _).alloc (Nat.le_refl _) _)) rfl els7 (cells7_new Wb.drew _ _ _ _ _ _ _ _) HXX.out (Nat.le_trans HIB.out.mt.size ((Below.refl _ _).alloc (Nat.le_refl _) _).size) rfl rfl rfl ?_; intro v4 w8 hown8 hm8 hn8; have hmw8 : Mut (fun g => u3.ownBlock = some g) Wb.drew w8 := (Mut.of_below ((Below.refl _ _).alloc (Nat.le_refl _) _)).trans ⟨hm8.os, hm8.tape, hm8.output, hm8.size, hm8.block⟩))
            go_wp2_with fail
            have hn9 : ∀ g, v4.ownBlock = some g → u3.ownBlock = some g ∨ Wb.drew.heap.size ≤ g := fun g e => (hn8 g e).imp id fun e => Nat.le_trans (by simp) e
            have happ := HJ.out.app (k := dueP sf (x, y) (q, bt)) (ut := .slice ua un uc) HBW.out (HU2.out.ext1 HBW.out) hmw8 hn9 hown8
            have hwi : Mut (fun g => u3.ownBlock = some g) wi w8 := (Mut.of_below HBW.out).trans hmw8
            have h7i := HMJ.out.size
            have hbz := HBW.out.size
            have hjn1 := HJN.out
            refine ⟨⟨j + 1, _, by go_num, by omega, hid (by rw [HTK.out, List.map_append, ← List.append_assoc]; exact happ), hid (HMJ.out.transG hwi fun i hi e => ?_), hid fun g e => ?_, hid (by have := HXJ.out; simp; omega)⟩, ?_⟩
            · rcases HNJ.out i e with e | e
              · exact e
              · omega
            · rcases hn9 g e with e | e
              · exact HNJ.out g e
              · exact .inr (by omega)
            · simp [intOf]; omega
          · have hjn2 : j = nd := by omega
            have s1' : decide ((j : Int) < (nd : Int)) = false := decide_eq_false (by omega)
            have s2' : decide (j < nd) = false := decide_eq_false hlt
            have HJJ := hid hjn2
            have hkm1 := HKM.out
            have hms : m ≤ 48 := by have := HPS.out.1; have := HM.out; omega
            clear hjn2 hlt hjn
            go_wp2_with fail
            have e3 : outGo sf ps (hubD L) = ((pk ++ packs sf (x, y) z.d) ++ (outGo sf (ps.drop (k + 1)) (hubD (A ++ ⟨z.p, z.k, outD z.d⟩ :: C))).1, (outGo sf (ps.drop (k + 1)) (hubD (A ++ ⟨z.p, z.k, outD z.d⟩ :: C))).2) := by
              rw [HG.out, HG1.out, List.append_assoc]
            have e4 : (pk ++ ackP sf (x, y) z.d) ++ (its.take j).map (dueP sf (x, y)) = pk ++ packs sf (x, y) z.d := by
              rw [HJJ.out, ← HNL.out, List.take_length, HITS.out, List.append_assoc]; rfl
            refine ⟨⟨k + 1, xs2, A ++ ⟨z.p, z.k, outD z.d⟩ :: C, pk ++ packs sf (x, y) z.d, by go_num, by omega, hid (by rw [← e4]; exact HJ.out), hid e3, hid (by have := HXJ.out; have := HN16.out; have := HJJ.out; omega)⟩, ?_⟩
            simp [intOf]; omega
    · have hkm2 : k = m := by omega
      have t1' : decide ((k : Int) < (m : Int)) = false := decide_eq_false (by omega)
      have t2' : decide (k < m) = false := decide_eq_false hlt
      have HKK := hid hkm2
      clear hkm2 hlt hkm
      go_wp2_with fail
      go_ret
      have hz := HB1.out.size
      have he := HG.out
      rw [List.drop_eq_nil_of_le (by rw [HM.out, HKK.out]; exact Nat.le_refl _)] at he
      simp only [outGo, List.append_nil] at he
      rw [HOG.out, he]
      have I := HI.out
      refine ⟨_, rfl, Lk, xs, ⟨⟨I.hub.less (fun b e => I.nl b (I.fq b e)) (fun b e => .inl (.inl e)), fun _ e => e, fun _ e => .inl e, fun b e => Nat.lt_of_lt_of_le (I.lt b e) I.mt.size, (Mut.of_below HB1.out).trans I.mt, fun b e => .inl (I.fq b e)⟩, I.row.mono hz, I.els⟩, rfl⟩
end Go.Proofs.Ytidohmpnefcpcaa

