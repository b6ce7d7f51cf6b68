/- Parts of the proof: X98 X99 ShelfL X100 X101. -/
import Derived.Deep.LoopGhost
import Derived.WalkMore
import Derived.Test.YtbpfhclcjedkcaaGLayoutFirsts5
namespace Go.Proofs.Ytbpfhclcjedkcaa
open Go.RowKit
/-! ### layout: join -/
theorem PidRow.mutN {G : Nat → Prop} {w w' : World} {a : Option Addr} {xs : List Pid} (h : PidRow w a xs) (hm : Mut G w w') (hG : ∀ b off, a = some ⟨b, off, none⟩ → ¬ G b) : PidRow w' a xs :=
  h.mutT hm (fun b off e _ => hG b off e)
theorem lens_total (ls : LL) (l : List Pid) (h : l ∈ ls) : l.length ≤ total ls := by
  induction ls with
  | nil => cases h
  | cons x r ih =>
    rw [total_cons]
    rcases List.mem_cons.1 h with rfl | h
    · omega
    · have := ih h; omega
theorem total_erase : ∀ {ls : LL} {k : Nat} (h : k < ls.length), total (ls.eraseIdx k) + ls[k].length = total ls
  | x :: r, 0, _ => by rw [total_cons]; simp; omega
  | x :: r, k + 1, h => by
    have ih := total_erase (ls := r) (k := k) (by simpa using h)
    simp only [List.eraseIdx_cons_succ, total_cons, List.getElem_cons_succ]
    omega
set_option maxRecDepth 100000 in
set_option maxHeartbeats 6400000 in
theorem join_any {w : World} {base g cap k : Nat} {cs : List Sl} {ls : LL} {N : Nat} (hN : Hid (ls.length = N)) (h : LLs w base (.slice (some ⟨g, 0, none⟩) N cap) cs ls) (hbase : base ≤ w.heap.size) (hk : k < N) (h2 : 2 ≤ N) (hl : total ls ≤ 1000000) (hNl : N ≤ 1000000) (hm : cap ≤ 9223372036854775807) :
    Calls Try.prog 243 #[.slice (some ⟨g, 0, none⟩) N cap, .int .i64 k] w fun e w' => ∃ v' cs', e = .returned v' ∧ LLs w' base v' cs' (joinL ls k) ∧ Keeps w (.slice (some ⟨g, 0, none⟩) N cap) cs w' v' cs' := by
  have hN' := hN.out
  subst hN'
  obtain ⟨g', cap', s, e0, hcap, hbg, hgw, hcs, hcell, hfr, hown, hsg⟩ := h.get hk
  cases e0
  have hgd : ls.getD k [] = ls[k] := by simp [List.getD, hk]
  have htot := total_erase hk
  obtain ⟨l, hl'⟩ : ∃ l, ls[k] = l := ⟨_, rfl⟩
  rw [hl'] at hown hgd htot
  obtain ⟨a, c, he, he2, hrow, hlc, hblk⟩ := hown.sl
  rw [he] at hcell
  have hsa : ∀ b off, a = some ⟨b, off, none⟩ → b ≠ g := by
    intro b off e eb
    refine hsg ?_
    have : encS s = .slice a l.length c := he
    rw [← own_encS, this, e, eb]; rfl
  obtain ⟨n, hn⟩ : ∃ n, l.length = n := ⟨_, rfl⟩
  rw [hn] at hcell
  obtain ⟨z, hz⟩ : ∃ z, (k : Int) + 1 = z := ⟨_, rfl⟩
  have hw1 : IntKind.i64.wrap ((k : Int) + 1) = z := by rw [IntKind.wrap_i64] <;> omega
  have C1 := delete_any (z := z) hz.symm h hk hcap hm
  obtain ⟨D, hD⟩ : ∃ D, ls.eraseIdx k = D := ⟨_, rfl⟩
  obtain ⟨M, hM⟩ : ∃ M, D.length = M := ⟨_, rfl⟩
  have hDl : D.length = ls.length - 1 := by rw [← hD, List.length_eraseIdx]; simp [hk]
  rw [hD, hM] at C1
  rw [hD] at htot
  have h0D : 0 < D.length := by omega
  obtain ⟨j, hj, hfew⟩ := fewL_some h0D
  have C1 := hid C1
  have HROW := hid hrow
  have HL := hid hl'
  have HLN := hid hn
  have HGD := hid hgd
  have HD := hid hD
  have HM := hid hM
  have HJ := hid hj
  have HF := hid hfew
  have HTOT := hid (And.intro htot hl)
  have HZ0 := hid (And.intro hgw hbg)
  have HSA := hid hsa
  have HDL := hid hDl
  have hD6 : D.length ≤ 70368744177664 := by omega
  have HD6 := hid hD6
  clear hrow hl' hn hgd hD hM hj hfew htot hl hbg hsa hDl h0D he he2 hown hblk hsg hcs hfr hlc hD6 hcap hz
  go_enter Try.func243, Try.ntmps243
  go_wp2_with fail
  (with_reducible refine C1.out.mono ?_)
  rintro e w2 ⟨rfl, hs2, hm2⟩
  have hr2 : LeafRow w2 (some ⟨g, 0, none⟩) D := by
    obtain ⟨x, y, e, hr⟩ := (show LLs w2 base (.slice (some ⟨g, 0, none⟩) D.length cap) (cs.eraseIdx k) D by rw [HM.out]; exact hs2).row
    cases e; exact hr
  have C2 := fewest_any (c := cap) HD6.out hr2
  rw [HM.out, HF.out] at C2
  have hrow2 := HROW.out.mutN hm2 (fun b off e hb => HSA.out b off e hb)
  obtain ⟨g', cap', s2, e0, hcap2, hbg2, hgw2, hcs2, hcell2, hfr2, hown2, hsg2⟩ := (show LLs w2 base (.slice (some ⟨g, 0, none⟩) D.length cap) (cs.eraseIdx k) D by rw [HM.out]; exact hs2).get HJ.out
  cases e0
  obtain ⟨y, hy⟩ : ∃ y, D[j]'HJ.out = y := ⟨_, rfl⟩
  rw [hy] at hown2
  have hyl : y.length ≤ total D := by rw [← hy]; exact lens_total D _ (List.getElem_mem HJ.out)
  obtain ⟨a2, c2, he2, he22, hrow22, hlc2, hblk2⟩ := hown2.sl
  rw [he2] at hcell2
  obtain ⟨m2, hm22⟩ : ∃ m2, y.length = m2 := ⟨_, rfl⟩
  rw [hm22] at hcell2 he2
  rw [he2] at hown2
  have C2 := hid C2
  have HS2 := hid hs2
  have HM2 := hid hm2
  have HY := hid hy
  have HYL := hid (And.intro hm22 hyl)
  have HCS2 := hid hcs2
  have HE2 := hid he2
  have HB2 : Hid (base ≤ w2.heap.size) := hid (by have := hm2.size; omega)
  have HG2 := hid (And.intro hgw2 hbg2)
  have HSG2 := hid hsg2
  have HOWN2 := hid hown2
  have HROW2 := hid hrow2
  have HFR2 := hid hfr2
  have HCELL2 := hid hcell2
  have HLL : Hid (y.length + n ≤ 1099511627776) := hid (by have := HTOT.out; have := HLN.out; omega)
  clear hs2 hm2 hy hyl hm22 hcs2 he2 hgw2 hbg2 hsg2 hown2 hrow2 hfr2 hr2 hblk2 hrow22 hlc2 hcap2 C1 he22
  go_wp2_with fail
  (with_reducible refine C2.out.mono ?_)
  rintro e w3 ⟨rfl, rfl⟩
  clear C2
  have hcell3 := HCELL2.out
  have hjM : j < M := by rw [← HM.out]; exact HJ.out
  go_wp2_with (at_builtin; refine wpList_appendPat HOWN2.out HROW2.out HLN HLL.out HB2.out rfl rfl (by simp [Act.eval, Act.put]; try rfl) rfl ?_; intro v6 w6 hown6 hg6 hat6; obtain ⟨a6, c6, e6, e6s, hr6, hl6, hblk6⟩ := hown6.sl; obtain ⟨m6, hm6⟩ : ∃ m6, (y ++ l).length = m6 := ⟨_, rfl⟩; rw [hm6] at e6 e6s; subst e6; have hmS := grown_mutS hg6; have hne6 : ¬ (Value.slice a2 m2 c2).ownBlock = some g := (fun e => HSG2.out (by rw [← own_encS, HE2.out]; exact e)); have hcc : w6.cell? ⟨g, j, none⟩ = some (.slice a2 m2 c2) := (hmS.cell (p := ⟨g, j, none⟩) HG2.out.1 hne6).trans HCELL2.out; have hff : w6.frozen? ⟨g, j, none⟩ = false := (hmS.frozen (p := ⟨g, j, none⟩) HG2.out.1 hne6).trans HFR2.out; have HOWN6 := hid hown6; have HMS := hid hmS; have HAT := hid hat6; have HE6 := hid e6s; clear hown6 hmS hat6 hg6 hr6 hl6 hblk6 hne6 e6s hm6 hcell3)
  go_ret
  have hput := (show LLs w2 base (.slice (some ⟨g, 0, none⟩) D.length cap) (cs.eraseIdx k) D by rw [HM.out]; exact HS2.out).put (s' := (a6, m6, c6)) (l' := y ++ l) HJ.out HCS2.out (w1 := w6) (HMS.out.mono fun b _ e => by rw [← own_encS, HE2.out]; exact e) HOWN6.out (fun q hq => by
    have hq : (Value.slice a6 m6 c6).ownBlock = some q := by rw [← hq]; exact own_encS (a6, m6, c6)
    rcases HAT.out with e | e
    · exact .inl (by rw [← own_encS, HE2.out, ← e]; exact hq)
    · refine .inr ?_
      rw [hq] at e; cases e; exact Nat.le_refl _)
  rw [HM.out] at hput
  have hs2m : s2 ∈ cs := List.mem_of_mem_eraseIdx (List.mem_of_getElem? HCS2.out)
  have hs2b : ∀ b, (Value.slice a2 m2 c2).ownBlock = some b → blkS s2 = some b := fun b e => by rw [← own_encS, HE2.out]; exact e
  refine ⟨_, (cs.eraseIdx k).set j (a6, m6, c6), rfl, ?_, ?_, ?_⟩
  · unfold joinL
    rw [HD.out, HF.out, Int.toNat_natCast, HGD.out]
    have : D.getD j [] = y := by rw [← HY.out]; simp [List.getD, HJ.out]
    rw [this]
    exact hput
  · exact ((HM2.out.mono fun b _ e => .inl (by have e : b = g := e; rw [e]; rfl)).trans (HMS.out.mono fun b _ e => .inr ⟨s2, hs2m, hs2b b e⟩)).trans (mut1.mono fun b _ e => .inl (by have e : b = g := e; rw [e]; rfl))
  · rintro b (hb | ⟨s', hs', hb⟩)
    · exact .inl (.inl hb)
    · rcases List.mem_or_eq_of_mem_set hs' with hs' | rfl
      · exact .inl (.inr ⟨s', List.mem_of_mem_eraseIdx hs', hb⟩)
      · have hb : (Value.slice a6 m6 c6).ownBlock = some b := by rw [← hb]; exact own_encS (a6, m6, c6)
        rcases HAT.out with e | e
        · exact .inl (.inr ⟨s2, hs2m, hs2b b (by rw [← e]; exact hb)⟩)
        · rw [hb] at e; cases e; exact .inr HM2.out.size
end Go.Proofs.Ytbpfhclcjedkcaa

namespace Go.Proofs.Ytbpfhclcjedkcaa
open Go.RowKit
/-! ### layout: fit -/
theorem fitN_part {b : Bnd} {n : Nat} {ls : LL} {i : Nat} (h : greatL b ls = (i : Int)) : fitN b (n + 1) ls = fitN b n (partL ls i) := by
  show (if 0 ≤ greatL b ls then _ else _) = _
  rw [h, if_pos (by omega), Int.toNat_natCast]
theorem fitN_join {b : Bnd} {n : Nat} {ls : LL} {i : Nat} (hg : greatL b ls < 0) (h : smallL b ls = (i : Int)) : fitN b (n + 1) ls = fitN b n (joinL ls i) := by
  show (if 0 ≤ greatL b ls then _ else if 0 ≤ smallL b ls then _ else _) = _
  rw [if_neg (by omega), h, if_pos (by omega), Int.toNat_natCast]
theorem fitN_stop {b : Bnd} {n : Nat} {ls : LL} (hg : greatL b ls < 0) (h : smallL b ls < 0) : fitN b n ls = ls := by
  cases n with
  | zero => rfl
  | succ n =>
    show (if 0 ≤ greatL b ls then _ else if 0 ≤ smallL b ls then _ else _) = _
    rw [if_neg (by omega), if_neg (by omega)]
theorem perm_total {a b : LL} (h : a.flatten.Perm b.flatten) : total a = total b := by
  rw [← total_flat, ← total_flat]; exact h.length_eq
theorem getD_total (ls : LL) (i : Nat) : (ls.getD i []).length ≤ total ls := by
  by_cases h : i < ls.length
  · have : ls.getD i [] = ls[i] := by simp [List.getD, h]
    rw [this]; exact lens_total ls _ (List.getElem_mem h)
  · have : ls.getD i [] = [] := by simp [List.getD, List.getElem?_eq_none (by omega : ls.length ≤ i)]
    rw [this]; exact Nat.zero_le _
theorem great_ext {w0 : World} {U : ExtW w0} {b : Bnd} {a : Option Addr} {c n : Nat} {ls : LL} {G : Int} (hG : Hid (greatL b ls = G)) (hN : Hid (ls.length = n)) (hn : n ≤ 1000000) (hrow : LeafRow w0 a ls) :
    Calls Try.prog 171 #[.slice a n c, .agg #[.int .i64 b.least, .int .i64 b.most, .int .i64 b.tmo]] U.W fun e w' => e = .returned (.int .i64 G) ∧ ∃ U' : ExtW w0, w' = U'.W := by
  have hN := hN.out; subst hN
  refine (lgreat_any (b := b) (c := c) (by omega) (hrow.ext U.h)).mono ?_
  rintro e w' ⟨rfl, hb⟩
  exact ⟨by rw [hG.out], ⟨_, U.h.trans (hb.mono U.h.size)⟩, rfl⟩
theorem small_ext {w0 : World} {U : ExtW w0} {b : Bnd} {a : Option Addr} {c n : Nat} {ls : LL} {G : Int} (hG : Hid (smallL b ls = G)) (hN : Hid (ls.length = n)) (hn : n ≤ 1000000) (hrow : LeafRow w0 a ls) :
    Calls Try.prog 172 #[.slice a n c, .agg #[.int .i64 b.least, .int .i64 b.most, .int .i64 b.tmo]] U.W fun e w' => e = .returned (.int .i64 G) ∧ ∃ U' : ExtW w0, w' = U'.W := by
  have hN := hN.out; subst hN
  refine (lsmall_any (b := b) (c := c) (by omega) (hrow.ext U.h)).mono ?_
  rintro e w' ⟨rfl, hb⟩
  exact ⟨by rw [hG.out], ⟨_, U.h.trans (hb.mono U.h.size)⟩, rfl⟩
structure FitSt (b : Bnd) (W1 : World) (base : Nat) (v0 : Value) (cs0 : List Sl) (ls0 : LL) (n : Nat) (wr : World) (v : Value) (cs : List Sl) (ls : LL) : Prop where
  own : LLs wr base v cs ls
  full : Full ls
  tot : total ls ≤ 60
  ph : phi b ls ≤ n
  eq : fitN b 200 ls0 = fitN b n ls
  kp : Keeps W1 v0 cs0 wr v cs
theorem LLs.lit {w : World} {base : Nat} {v : Value} {cs : List Sl} {ls : LL} (h : LLs w base v cs ls) (h0 : 0 < ls.length) : ∃ g cap, v = .slice (some ⟨g, 0, none⟩) ls.length cap ∧ cap ≤ 9223372036854775807 := by
  rcases h.own.2 with ⟨-, hn⟩ | ⟨g, cap, cur, rfl, hb, hg, hnc, hcm, hcs, htake⟩
  · omega
  · exact ⟨g, cap, rfl, by unfold maxLen at hcm; omega⟩
set_option maxRecDepth 100000 in
set_option maxHeartbeats 6400000 in
theorem fit_any {w : World} {base : Nat} {b : Bnd} {a : Option Addr} {c : Nat} {cs : List Sl} {ls : LL} {N : Nat} (hN : Hid (ls.length = N)) (hb : bchk b = true) (h : LLs w base (.slice a N c) cs ls) (hf : Full ls) (ht : total ls ≤ 60) (hbase : base ≤ w.heap.size) :
    Calls Try.prog 218 #[.slice a N c, .agg #[.int .i64 b.least, .int .i64 b.most, .int .i64 b.tmo]] w fun e w' => ∃ v' cs', e = .returned v' ∧ LLs w' base v' cs' (fitV b ls) ∧ Keeps w (.slice a N c) cs w' v' cs' := by
  obtain ⟨W1, hW1⟩ : ∃ W1, w.alloc (.cells #[.int .i64 b.least, .int .i64 b.most, .int .i64 b.tmo] 117) = W1 := ⟨_, rfl⟩
  have hB1 : Below w.heap.size w W1 := by rw [← hW1]; exact (Below.refl _ _).alloc (Nat.le_refl _) _
  have hsz1 : w.heap.size < W1.heap.size := by rw [← hW1]; simp
  have hbx : BndBox W1 w.heap.size b := by rw [← hW1]; exact BndBox.made w
  have hno : ¬ inLL (.slice a N c) cs w.heap.size := fun e => by have := (h.inB e).2; omega
  have HNO := hid hno
  have HBX := hid hbx
  have HS : Hid (base ≤ W1.heap.size) := hid (by omega)
  have HSZ := hid hsz1
  have HBC := hid hb
  have HST : FitSt b W1 base (.slice a N c) cs ls 200 W1 (.slice a N c) cs ls := ⟨h.ext hB1, hf, ht, by have := phi_le (b := b) hf; omega, rfl, Keeps.refl _ _ _⟩
  have HB1 := hid hB1
  clear h hf ht hbase hbx hno hb hB1 hsz1
  go_enter Try.func218, Try.ntmps218
  go_wp2
  go_step3
  go_wp2
  go_step3
  go_wp2
  go_loopg [0] 200 (fun n v wr => ∃ cs' ls', FitSt b W1 base (.slice a N c) cs ls n wr v cs' ls')
  case atStart => exact ⟨cs, ls, HST⟩
  case round =>
    obtain ⟨cs', ls', S⟩ := hrel
    have hszr := S.kp.mt.size
    have hbr : base ≤ wr.heap.size := by have := HS.out; omega
    obtain ⟨a', c', hv, hrow⟩ := S.own.row
    obtain ⟨n', hn'⟩ : ∃ n', ls'.length = n' := ⟨_, rfl⟩
    have hl6 : n' ≤ 1000000 := by have := full_len S.full; have := S.tot; omega
    rw [hn'] at hv
    subst hv
    have z0 : wr.cell? ⟨w.heap.size, 0, none⟩ = some (.int .i64 b.least) := (S.kp.mt.cell (p := ⟨w.heap.size, 0, none⟩) HSZ.out HNO.out).trans HBX.out.c0
    have z1 : wr.cell? ⟨w.heap.size, 1, none⟩ = some (.int .i64 b.most) := (S.kp.mt.cell (p := ⟨w.heap.size, 1, none⟩) HSZ.out HNO.out).trans HBX.out.c1
    have z2 : wr.cell? ⟨w.heap.size, 2, none⟩ = some (.int .i64 b.tmo) := (S.kp.mt.cell (p := ⟨w.heap.size, 2, none⟩) HSZ.out HNO.out).trans HBX.out.c2
    have q0 := cell_extw z0
    have q1 := cell_extw z1
    have q2 := cell_extw z2
    have SH := hid S
    have HROW := hid hrow
    have HN' := hid hn'
    have HL6 := hid hl6
    have HBR := hid hbr
    obtain ⟨G, hG⟩ : ∃ G, greatL b ls' = G := ⟨_, rfl⟩
    obtain ⟨M, hM⟩ : ∃ M, smallL b ls' = M := ⟨_, rfl⟩
    have HG := hid hG
    have HM := hid hM
    clear hrow hn' hl6 hbr S z0 z1 z2 hszr hG hM
    by_cases hg0 : 0 ≤ G
    · obtain ⟨i, hi⟩ : ∃ i : Nat, G = (i : Int) := ⟨G.toNat, by omega⟩
      have hp := part_ok (b := b) HBC.out SH.out.full (by rw [HG.out]; exact hg0)
      rw [HG.out, hi, Int.toNat_natCast] at hp
      have hph := SH.out.ph
      obtain ⟨m, hm⟩ : ∃ m, gk = m + 1 := ⟨gk - 1, by omega⟩
      have t1 : decide ((0 : Int) ≤ G) = true := decide_eq_true hg0
      have t2 : decide (G ≥ 0) = true := decide_eq_true hg0
      have HP := hid hp
      have HI := hid hi
      have HMM := hid hm
      clear hp hi hg0 hph hm
      go_wp2
      refine wp_region_ext (Below.refl _ _) (by kernel_rfl) (by kernel_rfl) ?_
      repeat (go_big_quiet_step (first | (with_reducible exact great_ext HG HN' HL6.out HROW.out) | (with_reducible exact small_ext HM HN' HL6.out HROW.out)))
      refine wpQuiet_nil ?_
      rintro _ ⟨⟨w9, hb9⟩, rfl⟩
      have hown9 := SH.out.own.ext hb9
      obtain ⟨g, cap, he, hcap⟩ := SH.out.own.lit (by have := HP.out.2.2.2.1; omega)
      rw [HN'.out] at he
      have hlc := getD_total ls' i
      have C1 := hid (part_any (k := i) HN' (by rw [← he]; exact hown9) (by have := HBR.out; have := hb9.size; omega) (by have := HP.out.2.2.2.1; have := HN'.out; omega) (by have := SH.out.tot; omega) HL6.out)
      rw [← he, ← HI.out] at C1
      have HB9 := hid hb9
      clear hown9 he hlc hb9 hcap
      go_wp2_with fail
      (with_reducible refine C1.out.mono ?_)
      rintro e w2 ⟨v2, cs2, rfl, hs2, hk2⟩
      go_wp2
      go_roundg m
      case measure => have := HMM.out; omega
      case rel =>
        obtain ⟨p1, p2, p3, p4, p5⟩ := HP.out
        exact ⟨cs2, _, hs2, p2, by rw [perm_total p3]; exact SH.out.tot, by have := SH.out.ph; have := HMM.out; omega, by rw [SH.out.eq, HMM.out, fitN_part (HG.out.trans HI.out)], (SH.out.kp.ext HB9.out).trans hk2⟩
    have t1 : decide ((0 : Int) ≤ G) = false := decide_eq_false hg0
    have t2 : decide (G ≥ 0) = false := decide_eq_false hg0
    by_cases hm0 : 0 ≤ M
    · obtain ⟨i, hi⟩ : ∃ i : Nat, M = (i : Int) := ⟨M.toNat, by omega⟩
      have hp := join_ok (b := b) HBC.out SH.out.full (by rw [HM.out]; exact hm0)
      have h2 := small_two (b := b) (ls := ls') (by rw [HM.out]; exact hm0)
      rw [HM.out, hi, Int.toNat_natCast] at hp
      have hph := SH.out.ph
      obtain ⟨m, hm⟩ : ∃ m, gk = m + 1 := ⟨gk - 1, by omega⟩
      have t3 : decide ((0 : Int) ≤ M) = true := decide_eq_true hm0
      have t4 : decide (M ≥ 0) = true := decide_eq_true hm0
      have HP := hid hp
      have HI := hid hi
      have HMM := hid hm
      have HG0 := hid hg0
      have H2 := hid h2
      clear hp hi hg0 hph hm hm0 h2
      go_wp2
      refine wp_region_ext (Below.refl _ _) (by kernel_rfl) (by kernel_rfl) ?_
      repeat (go_big_quiet_step (first | (with_reducible exact great_ext HG HN' HL6.out HROW.out) | (with_reducible exact small_ext HM HN' HL6.out HROW.out)))
      refine wpQuiet_nil ?_
      rintro _ ⟨⟨w9, hb9⟩, rfl⟩
      have hown9 := SH.out.own.ext hb9
      obtain ⟨g, cap, he, hcap⟩ := SH.out.own.lit (by have := H2.out; omega)
      rw [HN'.out] at he
      have C1 := hid (join_any (k := i) HN' (by rw [← he]; exact hown9) (by have := HBR.out; have := hb9.size; omega) (by have := HP.out.2.2.2; have := HN'.out; omega) (by have := H2.out; have := HN'.out; omega) (by have := SH.out.tot; omega) HL6.out hcap)
      rw [← he, ← HI.out] at C1
      have HB9 := hid hb9
      clear hown9 he hb9 hcap
      go_wp2_with fail
      (with_reducible refine C1.out.mono ?_)
      rintro e w2 ⟨v2, cs2, rfl, hs2, hk2⟩
      go_wp2
      go_roundg m
      case measure => have := HMM.out; omega
      case rel =>
        obtain ⟨p1, p2, p3, p4⟩ := HP.out
        exact ⟨cs2, _, hs2, p2, by rw [perm_total p3]; exact SH.out.tot, by have := SH.out.ph; have := HMM.out; omega, by rw [SH.out.eq, HMM.out, fitN_join (by have := HG.out; have := HG0.out; omega) (HM.out.trans HI.out)], (SH.out.kp.ext HB9.out).trans hk2⟩
    · have t3 : decide ((0 : Int) ≤ M) = false := decide_eq_false hm0
      have t4 : decide (M ≥ 0) = false := decide_eq_false hm0
      have HG0 := hid hg0
      have HM0 := hid hm0
      clear hg0 hm0
      go_wp2
      refine wp_region_ext (Below.refl _ _) (by kernel_rfl) (by kernel_rfl) ?_
      repeat (go_big_quiet_step (first | (with_reducible exact great_ext HG HN' HL6.out HROW.out) | (with_reducible exact small_ext HM HN' HL6.out HROW.out)))
      refine wpQuiet_nil ?_
      rintro _ ⟨⟨w9, hb9⟩, rfl⟩
      have hown9 := SH.out.own.ext hb9
      have HB9 := hid hb9
      have HO9 := hid hown9
      clear hb9 hown9
      go_wp2
      try rw [Exit.noGoto_ret]
      go_ret
      refine ⟨_, cs', rfl, ?_, ?_⟩
      · have : fitV b ls = ls' := by
          unfold fitV
          rw [SH.out.eq, fitN_stop (by have := HG.out; have := HG0.out; omega) (by have := HM.out; have := HM0.out; omega)]
        rw [this]; exact HO9.out
      · have k1 := SH.out.kp.ext HB9.out
        refine ⟨(Mut.of_below HB1.out).trans k1.mt, fun q hq => (k1.blk q hq).imp id fun e => by have := HSZ.out; omega⟩
end Go.Proofs.Ytbpfhclcjedkcaa

/- The contract of the library at this program: the numbers, and a field a fact. Printed by the kit. -/
namespace Go.Proofs
open Go.Shelf
def Try.sortLeaf_ren : Go.Shelf.Ren := ⟨fun | 6 => 240 | 15 => 235 | 14 => 255 | 28 => 253 | 29 => 254 | 20 => 262 | 21 => 263 | 22 => 264 | 23 => 265 | 24 => 266 | 25 => 267 | 26 => 268 | 27 => 269 | 46 => 271 | 47 => 258 | 48 => 259 | 49 => 272 | 50 => 273 | 57 => 274 | n => n, fun | 22 => 31 | 24 => 30 | 25 => 271 | 3 => 3 | 39 => 142 | 0 => 0 | 53 => 24 | 55 => 29 | 4 => 4 | 46 => 275 | 45 => 274 | 50 => 224 | 5 => 5 | 9 => 9 | 66 => 283 | 70 => 285 | 76 => 292 | 77 => 293 | n => n, fun | n => n⟩
theorem Try.sortLeaf : Go.Proofs.SlLaysF.n6 Try.prog Try.sortLeaf_ren := {
  mixed := by kernel_rfl
  f6 := ⟨Try.f240.name, by decide, Try.func240.trans (congrArg some (by kernel_rfl))⟩
  f14 := ⟨Try.f255.name, by decide, Try.func255.trans (congrArg some (by kernel_rfl))⟩
  f15 := Try.func235.trans (congrArg some (by kernel_rfl))
  f20 := ⟨Try.f262.name, by decide, Try.func262.trans (congrArg some (by kernel_rfl))⟩
  f21 := ⟨Try.f263.name, by decide, Try.func263.trans (congrArg some (by kernel_rfl))⟩
  f22 := ⟨Try.f264.name, by decide, Try.func264.trans (congrArg some (by kernel_rfl))⟩
  f23 := ⟨Try.f265.name, by decide, Try.func265.trans (congrArg some (by kernel_rfl))⟩
  f24 := ⟨Try.f266.name, by decide, Try.func266.trans (congrArg some (by kernel_rfl))⟩
  f25 := ⟨Try.f267.name, by decide, Try.func267.trans (congrArg some (by kernel_rfl))⟩
  f26 := ⟨Try.f268.name, by decide, Try.func268.trans (congrArg some (by kernel_rfl))⟩
  f27 := ⟨Try.f269.name, by decide, Try.func269.trans (congrArg some (by kernel_rfl))⟩
  f28 := Try.func253.trans (congrArg some (by kernel_rfl))
  f29 := Try.func254.trans (congrArg some (by kernel_rfl))
  f46 := ⟨Try.f271.name, by decide, Try.func271.trans (congrArg some (by kernel_rfl))⟩
  f47 := Try.func258.trans (congrArg some (by kernel_rfl))
  f48 := Try.func259.trans (congrArg some (by kernel_rfl))
  f49 := ⟨Try.f272.name, by decide, Try.func272.trans (congrArg some (by kernel_rfl))⟩
  f50 := ⟨Try.f273.name, by decide, Try.func273.trans (congrArg some (by kernel_rfl))⟩
  f57 := ⟨Try.f274.name, by decide, Try.func274.trans (congrArg some (by kernel_rfl))⟩
  t0 := Try.underlying0
  a0 := Try.isAgg0
  z0 := Try.sizeOf0
  v0 := Try.zeroValue0
  t3 := Try.underlying3
  a3 := Try.isAgg3
  z3 := Try.sizeOf3
  v3 := Try.zeroValue3
  t4 := Try.underlying4
  a4 := Try.isAgg4
  z4 := Try.sizeOf4
  v4 := Try.zeroValue4
  t5 := Try.underlying5
  a5 := Try.isAgg5
  z5 := Try.sizeOf5
  v5 := Try.zeroValue5
  t9 := Try.underlying9
  a9 := Try.isAgg9
  z9 := Try.sizeOf9
  v9 := Try.zeroValue9
  t22 := Try.underlying31
  a22 := Try.isAgg31
  z22 := Try.sizeOf31
  v22 := Try.zeroValue31
  a24 := Try.isAgg30
  z24 := Try.sizeOf30
  t25 := Try.underlying271
  a25 := Try.isAgg271
  z25 := Try.sizeOf271
  v25 := Try.zeroValue271
  t39 := Try.underlying142
  a39 := Try.isAgg142
  z39 := Try.sizeOf142
  v39 := Try.zeroValue142
  t45 := Try.underlying274
  a45 := Try.isAgg274
  z45 := Try.sizeOf274
  v45 := Try.zeroValue274
  t46 := Try.underlying275
  a46 := Try.isAgg275
  z46 := Try.sizeOf275
  v46 := Try.zeroValue275
  t50 := Try.underlying224
  a50 := Try.isAgg224
  z50 := Try.sizeOf224
  v50 := Try.zeroValue224
  t53 := Try.underlying24
  a53 := Try.isAgg24
  z53 := Try.sizeOf24
  v53 := Try.zeroValue24
  t55 := Try.underlying29
  a55 := Try.isAgg29
  z55 := Try.sizeOf29
  v55 := Try.zeroValue29
  t66 := Try.underlying283
  a66 := Try.isAgg283
  z66 := Try.sizeOf283
  v66 := Try.zeroValue283
  t70 := Try.underlying285
  a70 := Try.isAgg285
  z70 := Try.sizeOf285
  v70 := Try.zeroValue285
  t76 := Try.underlying292
  a76 := Try.isAgg292
  z76 := Try.sizeOf292
  v76 := Try.zeroValue292
  t77 := Try.underlying293
  a77 := Try.isAgg293
  z77 := Try.sizeOf293
  v77 := Try.zeroValue293 }
end Go.Proofs

namespace Go.Proofs.Ytbpfhclcjedkcaa
open Go.RowKit
open Go.Sort (grow grow_grow grow_empty putRow putCells Holds SWO heap_grow_old mapBlock onCells)
/-! ### layout: leaves in the members' order -/
theorem Grew.drewN {w w' : World} (h : Grew w w') (n : Nat) : Grew w (w'.drewN n) := h.trans ⟨n, #[], by rw [grow_empty]⟩
set_option maxHeartbeats 400000 in
theorem index_grew (a : Option Addr) (c : Nat) (xs : List Pid) (id inc : Int) (w : World) (hn : xs.length ≤ 70368744177664) (hrow : PidRow w a xs) :
   Calls Try.prog 174 #[.slice a xs.length c, .agg #[.int .u16 id, .int .u32 inc]] w fun e w' => e = .returned (.int .i64 (atIx xs (id, inc))) ∧ Grew w w' := by
  go_enter Try.func174, Try.ntmps174
  go_wp2
  go_loopw [4, 8] (fun r i wr => r = .int .i64 0 ∧ ∃ k : Nat, k ≤ xs.length ∧ i = .int .i64 k ∧ Hid (atIx xs (id, inc) = atFrom (id, inc) (xs.drop k) k) ∧ Grew w wr ∧ wr.cell? ⟨w.heap.size, 0, none⟩ = some (.int .u16 id) ∧ wr.cell? ⟨w.heap.size, 1, none⟩ = some (.int .u32 inc)) (fun _ i _ => xs.length - (intOf i).toNat)
  case atStart => exact ⟨rfl, 0, Nat.zero_le _, rfl, rfl, (Grew.refl _).alloc _, by simp, by simp⟩
  case round =>
    obtain ⟨rfl, k, hk, rfl, ha, hb, c0, c1⟩ := hrel
    by_cases hlt : k < xs.length
    · obtain ⟨b, off, x, y, rfl, hx, d1, d2⟩ := hrow.at hb.below rfl hlt
      have HX := hid hx
      have HB := hid hb
      clear hx hrow hb
      have he := fun w => eql_pid id inc x y w
      go_wp2
      go_quiet (fail)
      all_goals go_wp2
      · have h := ‹id = x ∧ inc = y›
        go_ret
        exact ⟨ret_int (by rw [ha.out, atFrom_drop hlt, if_pos (by rw [← HX.out, h.1, h.2])]), HB.out.drewN _⟩
      · have h := ‹¬id = x ∨ ¬inc = y›
        go_roundw
        case rel => exact ⟨rfl, k + 1, by omega, by go_num, (ha.out.trans (by rw [atFrom_drop hlt, if_neg (by rw [← HX.out]; simp; omega)]) : _), HB.out.drewN _, by simpa using c0, by simpa using c1⟩
        case measure => simp [intOf]; omega
    · go_wp2
      go_ret
      exact ⟨ret_int (by rw [ha.out, atFrom_end (by omega)]), hb⟩
theorem atIx_bounds (ms : List Pid) (p : Pid) : -1 ≤ atIx ms p ∧ atIx ms p ≤ (ms.length : Int) := by
  have : ∀ (l : List Pid) (k : Nat), -1 ≤ atFrom p l k ∧ atFrom p l k ≤ ((k + l.length : Nat) : Int) := by
    intro l
    induction l with
    | nil => intro k; simp [atFrom] <;> omega
    | cons x r ih =>
      intro k
      unfold atFrom
      split
      · simp; omega
      · have := ih (k + 1)
        simp only [List.length_cons]
        omega
  have := this ms 0
  unfold atIx
  simpa using this
theorem PidRow.first {w : World} {a : Option Addr} {x y : Int} {r : List Pid} (h : PidRow w a ((x, y) :: r)) : ∃ b off, a = some ⟨b, off, none⟩ ∧ w.cell? ⟨b, off, none⟩ = some (.int .u16 x) ∧ w.cell? ⟨b, off + 1, none⟩ = some (.int .u32 y) := by
  obtain ⟨b, off, rfl, -, hc⟩ := h.get (by simp)
  have := hc 0 (by simp)
  exact ⟨b, off, rfl, by simpa using this.1, by simpa using this.2⟩
set_option maxRecDepth 100000 in
set_option maxHeartbeats 1600000 in
theorem ordCmp_any {ms : List Pid} {am : Option Addr} {cm g2 c d n k M : Nat} {a b : Option Addr} {l m : List Pid} {w : World} (hM : Hid (ms.length = M)) (hml : M ≤ 1000) (hm : PidRow w am ms) (h2 : w.cell? ⟨g2, 0, none⟩ = some (.slice am M cm)) (hl : PidRow w a l) (hn : l.length = n) (hl0 : l ≠ []) (hmr : PidRow w b m) (hk : m.length = k) (hm0 : m ≠ []) :
    Calls Try.prog 241 #[.slice a n c, .slice b k d, .pointer (some ⟨g2, 0, none⟩)] w fun e w' => e = .returned (.int .i64 (hdIx ms l - hdIx ms m)) ∧ Grew w w' := by
  cases l with
  | nil => exact absurd rfl hl0
  | cons p r =>
  cases m with
  | nil => exact absurd rfl hm0
  | cons q s =>
  obtain ⟨x, y⟩ := p
  obtain ⟨z, u⟩ := q
  obtain ⟨ba, oa, rfl, p1, p2⟩ := hl.first
  obtain ⟨bb, ob, rfl, p3, p4⟩ := hmr.first
  have f0 := cell_greww h2
  have f1 := cell_greww p1
  have f2 := cell_greww p2
  have f3 := cell_greww p3
  have f4 := cell_greww p4
  have t1 : decide (0 < n) = true := decide_eq_true (by rw [← hn]; simp)
  have t2 : decide ((0 : Int) < (n : Int)) = true := decide_eq_true (by rw [← hn]; simp)
  have t3 : decide (0 < k) = true := decide_eq_true (by rw [← hk]; simp)
  have t4 : decide ((0 : Int) < (k : Int)) = true := decide_eq_true (by rw [← hk]; simp)
  have t5 : 0 < n := by rw [← hn]; simp
  have t6 : 0 < k := by rw [← hk]; simp
  have e1 : hdIx ms ((x, y) :: r) = atIx ms (x, y) := rfl
  have e2 : hdIx ms ((z, u) :: s) = atIx ms (z, u) := rfl
  have b1 := atIx_bounds ms (x, y)
  have b2 := atIx_bounds ms (z, u)
  rw [hM.out] at b1 b2
  have n1 : ∀ U : GrewW w, Calls Try.prog 174 #[.slice am M cm, .agg #[.int .u16 x, .int .u32 y]] U.W fun e w' => e = .returned (.int .i64 (atIx ms (x, y))) ∧ ∃ U' : GrewW w, w' = U'.W := fun U => grew_of (by
    have := index_grew am cm ms x y U.W (by rw [hM.out]; omega) (hm.ext U.h.below)
    rw [hM.out] at this; exact this) rfl
  have n2 : ∀ U : GrewW w, Calls Try.prog 174 #[.slice am M cm, .agg #[.int .u16 z, .int .u32 u]] U.W fun e w' => e = .returned (.int .i64 (atIx ms (z, u))) ∧ ∃ U' : GrewW w, w' = U'.W := fun U => grew_of (by
    have := index_grew am cm ms z u U.W (by rw [hM.out]; omega) (hm.ext U.h.below)
    rw [hM.out] at this; exact this) rfl
  rw [e1, e2]
  clear e1 e2 hl hmr hn hk hl0 hm0 hm h2 p1 p2 p3 p4
  revert b1 b2 n1 n2
  generalize atIx ms (x, y) = A
  generalize atIx ms (z, u) = B
  intro b1 b2 n1 n2
  have hw : IntKind.i64.wrap (A - B) = A - B := by rw [IntKind.wrap_i64] <;> omega
  have N1 := hid n1
  have N2 := hid n2
  clear n1 n2 b1 b2 hml
  go_enter Try.func241, Try.ntmps241
  go_wp2
  refine wp_region_grew (w := w) (Grew.refl _) (by kernel_rfl) (by kernel_rfl) ?_
  repeat (go_big_quiet_step (first | (with_reducible exact N1.out _) | (with_reducible exact N2.out _)))
  refine wpQuiet_nil ?_
  rintro w9 ⟨⟨_, hb9⟩, rfl⟩
  go_wp2
  go_ret
  exact ⟨rfl, hb9⟩
/-! the sort of leaves -/
theorem take_putG {α : Type} [Inhabited α] (enc : α → Value) (cur : Array Value) (D : Array α) (n : Nat) (h : D.size ≤ cur.size) (hn : n ≤ D.size) : (putCells enc 0 D cur).toList.take n = (D.toList.take n).map enc := by
  apply List.ext_getElem?
  intro j
  by_cases hj : j < n
  · rw [List.getElem?_take_of_lt hj, Array.getElem?_toList, List.getElem?_map, List.getElem?_take_of_lt hj, Array.getElem?_toList]
    simp [putCells, show j < D.size by omega, show j < cur.size by omega]
  · rw [List.getElem?_take_eq_none (by omega), List.getElem?_eq_none (by simp; omega)]
theorem sortW_block {α : Type} [Inhabited α] {enc : α → Value} {g : Nat} {w : World} {q : Nat} {D : Array α} {os : Array Obj} {cur : Array Value} {e : TypeId} (hg : w.heap[g]? = some (.cells cur e (0, 0))) : (sortWorld enc w g 0 q D os).heap[g]? = some (.cells (putCells enc 0 D cur) e (0, 0)) := by
  have hlt : g < w.heap.size := (Array.getElem?_eq_some_iff.1 hg).1
  unfold sortWorld
  rw [heap_grow_old _ _ (by simpa [putRow, mapBlock, Go.Sort.ahead] using hlt)]
  simp [putRow, mapBlock, Go.Sort.ahead, Array.getElem?_modify, hg, onCells]
theorem sortW_mut {α : Type} [Inhabited α] {enc : α → Value} {g : Nat} {w : World} {q : Nat} {D : Array α} {os : Array Obj} : Mut (fun b => b = g) w (sortWorld enc w g 0 q D os) := by
  refine ⟨rfl, rfl, rfl, by simp [sortWorld, grow, putRow, mapBlock, Go.Sort.ahead], fun k hk hne => ?_⟩
  have : g ≠ k := fun e => hne e.symm
  unfold sortWorld
  rw [heap_grow_old _ _ (by simpa [putRow, mapBlock, Go.Sort.ahead] using hk)]
  simp [putRow, mapBlock, Go.Sort.ahead, Array.getElem?_modify, this]
theorem sortLeaf_any {W : World} {base gl g2 cap cm M : Nat} {am : Option Addr} {ms : List Pid} {cs : List Sl} {ls : LL} (h : LLs W base (.slice (some ⟨gl, 0, none⟩) ls.length cap) cs ls) (hfull : Full ls) (h0 : 0 < ls.length) (hl6 : ls.length ≤ 1000000)
    (hM : Hid (ms.length = M)) (hml : M ≤ 1000) (hm : PidRow W am ms) (hma : ∀ b off, am = some ⟨b, off, none⟩ → b ≠ gl) (h2 : W.cell? ⟨g2, 0, none⟩ = some (.slice am M cm)) (h2g : g2 ≠ gl)
    (hT : ∀ i j (hi : i < ls.length) (hj : j < ls.length), hdIx ms ls[i] = hdIx ms ls[j] → i = j) :
    Calls Try.prog 240 #[.slice (some ⟨gl, 0, none⟩) ls.length cap, .func (.func 241) #[] #[.pointer (some ⟨g2, 0, none⟩)]] W fun e w' => e = .returned (.tuple #[]) ∧ ∃ cs' ls', LLs w' base (.slice (some ⟨gl, 0, none⟩) ls.length cap) cs' ls' ∧ ls'.Perm ls ∧ ls'.Pairwise (fun a b => hdIx ms a ≤ hdIx ms b) ∧ Mut (fun b => b = gl) W w' ∧ ∀ s ∈ cs', s ∈ cs := by
  have hcl := h.len
  haveI : Inhabited (Fin ls.length) := ⟨⟨0, h0⟩⟩
  obtain ⟨enc, henc⟩ : ∃ enc : Fin ls.length → Value, enc = fun i => encS (cs[i.val]'(by rw [hcl]; exact i.isLt)) := ⟨_, rfl⟩
  obtain ⟨cf, hcf⟩ : ∃ cf : Fin ls.length → Fin ls.length → Int, cf = fun i j => hdIx ms ls[i] - hdIx ms ls[j] := ⟨_, rfl⟩
  have hone : OneCell enc := fun i => by rw [henc]; rfl
  have hlt : ∀ i j, ltOf cf i j = decide (hdIx ms ls[i] < hdIx ms ls[j]) := fun i j => by
    unfold ltOf; rw [hcf]; simp only [decide_eq_decide]; omega
  have hO : SWO (ltOf cf) := {
    irrefl := fun x => by rw [hlt]; simp
    trans := fun x y z h1 h2 => by rw [hlt] at *; simp at *; omega
    ntrans := fun x y z h1 h2 => by rw [hlt] at *; simp at *; omega }
  obtain ⟨d, hd⟩ : ∃ d : Array (Fin ls.length), d = (List.finRange ls.length).toArray := ⟨_, rfl⟩
  have hds : d.size = ls.length := by rw [hd]; simp
  have eg : ∀ args w, (callFunc 241 args).run Try.prog w = .ok (.enter 241 args) w := enters_of Try.func241 (by kernel_rfl) rfl
  have hcmp : CmpLays1 Try.prog 241 #[.pointer (some ⟨g2, 0, none⟩)] enc cf gl 0 d.size W := by
    intro m os dk _ x y
    have hmt : Mut (fun b => b = gl) W (sortWorld enc W gl 0 m dk os) := sortW_mut
    have hcx : x.val < cs.length := by rw [hcl]; exact x.isLt
    have hcy : y.val < cs.length := by rw [hcl]; exact y.isLt
    obtain ⟨s, s1, s2⟩ := h.el x.val x.isLt
    obtain ⟨t, t1, t2⟩ := h.el y.val y.isLt
    have es : cs[x.val] = s := by rw [List.getElem?_eq_getElem hcx] at s1; cases s1; rfl
    have et : cs[y.val] = t := by rw [List.getElem?_eq_getElem hcy] at t1; cases t1; rfl
    obtain ⟨a, c, e3, -, r3, -, -⟩ := s2.sl
    obtain ⟨b, c', e4, -, r4, -, -⟩ := t2.sl
    have far : ∀ (u : Sl) (a : Option Addr) (n c : Nat), u ∈ cs → encS u = .slice a n c → ∀ b off, a = some ⟨b, off, none⟩ → ¬ b = gl := by
      intro u a n c hu e b off ea eb
      refine h.out u hu b ?_ (by rw [eb]; rfl)
      rw [← own_encS, e, ea]; rfl
    have hx2 := r3.mutN hmt (far s _ _ _ (List.mem_of_getElem? s1) e3)
    have hy2 := r4.mutN hmt (far t _ _ _ (List.mem_of_getElem? t1) e4)
    have hm2 := hm.mutN hmt hma
    have hg2 := World.block_lt_of_cell? W _ h2
    have h22 := (hmt.cell (p := ⟨g2, 0, none⟩) hg2 h2g).trans h2
    have main := ordCmp_any (c := c) (d := c') hM hml hm2 h22 hx2 rfl (hfull _ (List.getElem_mem x.isLt)) hy2 rfl (hfull _ (List.getElem_mem y.isLt))
    have ea : (#[enc x, enc y] ++ #[.pointer (some ⟨g2, 0, none⟩)] : Array Value) = #[.slice a ls[x.val].length c, .slice b ls[y.val].length c', .pointer (some ⟨g2, 0, none⟩)] := by
      rw [henc]; simp only [es, et, e3, e4]; rfl
    rw [ea]
    refine main.mono ?_
    rintro e w' ⟨rfl, hb⟩
    exact ⟨by rw [hcf]; rfl, hb⟩
  have hH : Holds enc W gl 0 d := by
    intro j hj
    have hj' : j < ls.length := by omega
    obtain ⟨g', cap', s, e, -, -, -, h1, h2, h3, -, -⟩ := h.get hj'
    cases e
    have hjc : j < cs.length := by rw [hcl]; exact hj'
    have hs : cs[j] = s := by rw [List.getElem?_eq_getElem hjc] at h1; cases h1; rfl
    have hdj : d[j]! = ⟨j, hj'⟩ := by rw [getElem!_pos d j hj]; simp [hd]
    rw [Nat.zero_add, hdj, henc]
    simp only [hs]
    exact ⟨h2, h3⟩
  have hTT : ∀ x y, ltOf cf x y = false → ltOf cf y x = false → x = y := fun x y h1 h2 => by
    rw [hlt] at h1 h2
    simp at h1 h2
    exact Fin.ext (hT x.val y.val x.isLt y.isLt (Int.le_antisymm h2 h1))
  have hblk := (h.blk (g := gl) rfl).2
  have hcon := Any.slices_SortFunc_total Try.sortLeaf enc hone cf hO 241 #[.pointer (some ⟨g2, 0, none⟩)] gl 0 cap d W eg hcmp hH hblk (by omega) hTT
  change Calls Try.prog 240 _ _ _ at hcon
  rw [hds] at hcon
  refine hcon.mono ?_
  rintro e w' ⟨rfl, q, os, rfl⟩
  obtain ⟨σ, hσ⟩ : ∃ σ, d.toList.mergeSort (fun x y => !(ltOf cf) y x) = σ := ⟨_, rfl⟩
  rw [hσ]
  have hdl : d.toList = List.finRange ls.length := by rw [hd]
  have hperm : σ.Perm (List.finRange ls.length) := by rw [← hσ, hdl]; exact List.mergeSort_perm _ _
  have hpw : σ.Pairwise fun x y => hdIx ms ls[x] ≤ hdIx ms ls[y] := by
    have := List.pairwise_mergeSort (le := fun x y => !(ltOf cf) y x) (fun a b c h1 h2 => by rw [hlt] at *; simp at *; omega) (fun a b => by rw [hlt, hlt]; simp; omega) d.toList
    rw [hσ] at this
    refine this.imp ?_
    intro a b hab
    rw [hlt] at hab
    simpa using hab
  have hlen : σ.length = ls.length := by rw [hperm.length_eq]; simp
  have hne : σ.Pairwise fun x y => x ≠ y := hperm.nodup_iff.2 (List.nodup_finRange _)
  refine ⟨rfl, σ.map fun i => cs[i.val]'(by rw [hcl]; exact i.isLt), σ.map fun i => ls[i], ?_, ?_, ?_, sortW_mut, ?_⟩
  · have hmt : Mut (fun b => b = gl) W (sortWorld enc W gl 0 q σ.toArray os) := sortW_mut
    refine ⟨⟨by simp, ?_⟩, fun i hi => ?_, fun s hs => ?_, ?_⟩
    · rcases h.own.2 with ⟨e, -⟩ | ⟨g', cap', cur, e, hbb, hgg, hnc, hcm, hcs, htake⟩
      · cases e
      · cases e
        refine .inr ⟨gl, cap, _, by simp [hlen], hbb, sortW_block hgg, by simpa [hlen] using hnc, hcm, by simpa [putCells] using hcs, ?_⟩
        rw [take_putG enc cur σ.toArray _ (by simp [hlen]; omega) (by simp)]
        simp only [List.length_map]
        rw [List.take_of_length_le (by simp), henc, List.map_map]
        rfl
    · have hi' : i < σ.length := by simpa using hi
      obtain ⟨s, s1, s2⟩ := h.el σ[i].val σ[i].isLt
      have hcx : σ[i].val < cs.length := by rw [hcl]; exact σ[i].isLt
      refine ⟨s, by rw [List.getElem?_map, List.getElem?_eq_getElem hi', Option.map_some, ← s1, List.getElem?_eq_getElem hcx], ?_⟩
      simp only [List.getElem_map]
      exact s2.mutN hmt (fun g hg e => by
        rw [own_encS] at hg
        have e : g = gl := e
        exact h.out s (List.mem_of_getElem? s1) g hg (by rw [e]; rfl))
    · obtain ⟨i, -, rfl⟩ := List.mem_map.1 hs
      exact h.out _ (List.getElem_mem _)
    · rw [List.pairwise_map]
      refine hne.imp ?_
      intro i j hij g hg hg'
      have hci : i.val < cs.length := by rw [hcl]; exact i.isLt
      have hcj : j.val < cs.length := by rw [hcl]; exact j.isLt
      rcases Nat.lt_or_gt_of_ne (fun e => hij (Fin.ext e) : i.val ≠ j.val) with hlt | hlt
      · exact List.pairwise_iff_getElem.1 h.apart i.val j.val hci hcj hlt g hg hg'
      · exact List.pairwise_iff_getElem.1 h.apart j.val i.val hcj hci hlt g hg' hg
  · have : (List.finRange ls.length).map (fun i => ls[i]) = ls := by
      apply List.ext_getElem
      · simp
      · intro i h1 h2; simp
    exact (hperm.map _).trans (by rw [this])
  · rw [List.pairwise_map]; exact hpw
  · intro s hs
    obtain ⟨i, -, rfl⟩ := List.mem_map.1 hs
    exact List.getElem_mem _
/-! ordered -/
def mixL (ms : List Pid) (ls : LL) (k : Nat) : LL := (ls.take k).map (commonP ms) ++ ls.drop k
theorem mixL_len (ms : List Pid) (ls : LL) (k : Nat) : (mixL ms ls k).length = ls.length := by unfold mixL; simp; omega
theorem mixL_get {ms : List Pid} {ls : LL} {k : Nat} (h : k < ls.length) : (mixL ms ls k)[k]'(by rw [mixL_len]; exact h) = ls[k] := by
  unfold mixL
  rw [List.getElem_append_right (by simp; omega)]
  simp [show min k ls.length = k by omega]
theorem mixL_set {ms : List Pid} {ls : LL} {k : Nat} (h : k < ls.length) : (mixL ms ls k).set k (commonP ms ls[k]) = mixL ms ls (k + 1) := by
  unfold mixL
  rw [List.drop_eq_getElem_cons h]
  have hl : ((ls.take k).map (commonP ms)).length = k := by simp; omega
  have := set_mid ls[k] (commonP ms ls[k]) (ls.drop (k + 1)) ((ls.take k).map (commonP ms))
  rw [hl] at this
  rw [this, List.take_succ_eq_append_getElem h, List.map_append]
  simp only [List.map_cons, List.map_nil, List.append_assoc, List.cons_append, List.nil_append]
theorem common_n {ms l xs : List Pid} {am a : Option Addr} {cm c M n : Nat} {w : World} (hx : Hid (commonP ms l = xs)) (hM : Hid (ms.length = M)) (hml : M ≤ 1000) (hn : Hid (l.length = n)) (hnl : n ≤ 1000000) (hm : PidRow w am ms) (hl : PidRow w a l) :
    Calls Try.prog 239 #[.slice am M cm, .slice a n c] w fun e w' => ∃ v, e = .returned v ∧ OwnP w' w.heap.size v xs ∧ Below w.heap.size w w' := by
  have h1 := hM.out
  have h2 := hn.out
  subst h1; subst h2
  rw [← hx.out]
  exact common_any am cm ms a c l w (by omega) (by omega) hm hl
set_option maxRecDepth 100000 in
set_option maxHeartbeats 6400000 in
theorem ordered_any {w : World} {base g cap cm M N : Nat} {am : Option Addr} {ms : List Pid} {cs : List Sl} {ls : LL} (hp : Parts ms ls) (hN : Hid (ls.length = N)) (h : LLs w base (.slice (some ⟨g, 0, none⟩) N cap) cs ls) (hbase : base ≤ w.heap.size) (h0 : 0 < N)
    (hM : Hid (ms.length = M)) (hml : M ≤ 1000) (hm : PidRow w am ms) (hma : ∀ b off, am = some ⟨b, off, none⟩ → ¬ inLL (.slice (some ⟨g, 0, none⟩) N cap) cs b ∧ b < w.heap.size) :
    Calls Try.prog 217 #[.slice am M cm, .slice (some ⟨g, 0, none⟩) N cap] w fun e w' => ∃ cs', e = .returned (.slice (some ⟨g, 0, none⟩) N cap) ∧ LLs w' base (.slice (some ⟨g, 0, none⟩) N cap) cs' (ordR ms ls) ∧ Keeps w (.slice (some ⟨g, 0, none⟩) N cap) cs w' (.slice (some ⟨g, 0, none⟩) N cap) cs' := by
  obtain ⟨W1, hW1⟩ : ∃ W1, w.alloc (.cells #[.slice am M cm] 30) = W1 := ⟨_, rfl⟩
  have hB1 : Below w.heap.size w W1 := by rw [← hW1]; exact (Below.refl _ _).alloc (Nat.le_refl _) _
  have hsz1 : w.heap.size < W1.heap.size := by rw [← hW1]; simp
  have hbx : W1.cell? ⟨w.heap.size, 0, none⟩ = some (.slice am M cm) := by rw [← hW1]; simp
  have hno : ¬ inLL (.slice (some ⟨g, 0, none⟩) N cap) cs w.heap.size := fun e => by have := (h.inB e).2; omega
  have hN6 : N ≤ 1000 := by
    have := full_len hp.full
    have h2 := hp.perm.length_eq
    rw [total_flat] at h2
    have := hN.out; have := hM.out
    omega
  have hlens : ∀ l ∈ ls, l.length ≤ 1000 := fun l hl => by
    have := lens_total ls l hl
    have h2 := hp.perm.length_eq
    rw [total_flat] at h2
    have := hM.out
    omega
  have HS1 := hid (show LLs W1 base (.slice (some ⟨g, 0, none⟩) N cap) cs ls from h.ext hB1)
  have HM1 := hid (hm.ext hB1)
  have HMA : Hid (∀ b off, am = some ⟨b, off, none⟩ → ¬ inLL (.slice (some ⟨g, 0, none⟩) N cap) cs b) := hid fun b off e => (hma b off e).1
  have HMB : Hid (∀ b off, am = some ⟨b, off, none⟩ → b < W1.heap.size) := hid fun b off e => by have := (hma b off e).2; omega
  have HNO := hid hno
  have HBX := hid hbx
  have HS : Hid (base ≤ W1.heap.size) := hid (by omega)
  have HSZ := hid hsz1
  have HB1 := hid hB1
  have HP := hid hp
  have HLENS := hid hlens
  have HN6 := hid hN6
  have HML := hid hml
  clear h hp hm hma hbase hbx hno hB1 hsz1 hlens hml
  go_enter Try.func217, Try.ntmps217
  go_wp2
  go_loopw [9] (fun i wr => ∃ (k : Nat) (cs' : List Sl), i = .int .i64 k ∧ k ≤ N ∧ LLs wr base (.slice (some ⟨g, 0, none⟩) N cap) cs' (mixL ms ls k) ∧ Keeps W1 (.slice (some ⟨g, 0, none⟩) N cap) cs wr (.slice (some ⟨g, 0, none⟩) N cap) cs') (fun i _ => N - (intOf i).toNat)
  case atStart => exact ⟨0, cs, rfl, Nat.zero_le _, by simpa [mixL] using HS1.out, Keeps.refl _ _ _⟩
  case round =>
    obtain ⟨k, cs', rfl, hk, hown, hkp⟩ := hrel
    have hszr := hkp.mt.size
    have hmr : PidRow wr am ms := HM1.out.mutN hkp.mt (fun b off e => HMA.out b off e)
    have z0 : wr.cell? ⟨w.heap.size, 0, none⟩ = some (.slice am M cm) := (hkp.mt.cell (p := ⟨w.heap.size, 0, none⟩) HSZ.out HNO.out).trans HBX.out
    have hlm : (mixL ms ls k).length = N := by rw [mixL_len]; exact hN.out
    by_cases hlt : k < N
    · have hkl : k < ls.length := by rw [hN.out]; exact hlt
      have hkm : k < (mixL ms ls k).length := by rw [hlm]; exact hlt
      have hget := (show LLs wr base (.slice (some ⟨g, 0, none⟩) (mixL ms ls k).length cap) cs' (mixL ms ls k) by rw [hlm]; exact hown).get hkm
      obtain ⟨g', cap', s, e0, hcap, hbg, hgw, hcs, hcell, hfr, hownk, hsg⟩ := hget
      cases e0
      rw [mixL_get hkl] at hownk
      obtain ⟨l, hl⟩ : ∃ l, ls[k] = l := ⟨_, rfl⟩
      have hll := HLENS.out ls[k] (List.getElem_mem hkl)
      rw [hl] at hownk hll
      obtain ⟨a, c, he, he2, hrow, hlc, hblk⟩ := hownk.sl
      rw [he] at hcell
      obtain ⟨n, hn⟩ : ∃ n, l.length = n := ⟨_, rfl⟩
      obtain ⟨xs, hx⟩ : ∃ xs, commonP ms l = xs := ⟨_, rfl⟩
      rw [hn] at hcell hll
      have C1 := hid (common_n (cm := cm) (c := c) (hid hx) hM HML.out (hid hn) (by omega) hmr hrow)
      have HOWN := hid hown
      have HKP := hid hkp
      have HCS := hid hcs
      have HL := hid hl
      have HX := hid hx
      have HK := hid hkm
      have HLM := hid hlm
      have HKL := hid hkl
      have HGW := hid hgw
      have HSR : Hid (base ≤ wr.heap.size) := hid (by have := HS.out; omega)
      have HFR := hid hfr
      have HCELL := hid hcell
      clear hown hkp hcs hl hx hkm hlm hgw hbg hownk hsg he he2 hrow hlc hblk hn hmr hszr hll hcap
      go_wp2_with fail
      (with_reducible refine C1.out.mono ?_)
      rintro e w3 ⟨v3, rfl, hown3, hb3⟩
      obtain ⟨a3, c3, e3, e3s, -, -, hblk3⟩ := hown3.sl
      obtain ⟨n3, hn3⟩ : ∃ n3, xs.length = n3 := ⟨_, rfl⟩
      rw [hn3] at e3 e3s hblk3
      subst e3
      have hput := (show LLs wr base (.slice (some ⟨g, 0, none⟩) (mixL ms ls k).length cap) cs' (mixL ms ls k) by rw [HLM.out]; exact HOWN.out).put (s' := (a3, n3, c3)) (l' := xs) (w1 := w3) HK.out HCS.out (Mut.of_below hb3) (hown3.mono2 HSR.out) (fun q hq => .inr (hblk3 q hq).1)
      rw [HLM.out, ← HX.out, ← HL.out, mixL_set HKL.out] at hput
      have hcell3 : ∃ u, w3.cell? ⟨g, k, none⟩ = some u := ⟨_, (hb3.cell (by exact HGW.out)).trans HCELL.out⟩
      obtain ⟨u3, hu3⟩ := hcell3
      have hfr3 : w3.frozen? ⟨g, k, none⟩ = false := (hb3.frozen (by exact HGW.out)).trans HFR.out
      have hkp3 : Keeps W1 (.slice (some ⟨g, 0, none⟩) N cap) cs (w3.setCell ⟨g, k, none⟩ (.slice a3 n3 c3)) (.slice (some ⟨g, 0, none⟩) N cap) (cs'.set k (a3, n3, c3)) := by
        refine HKP.out.trans ⟨(Mut.of_below hb3).trans (mut1.mono fun b _ e => .inl (by have e : b = g := e; rw [e]; rfl)), ?_⟩
        rintro b (hb | ⟨s', hs', hb⟩)
        · exact .inl (.inl hb)
        · rcases List.mem_or_eq_of_mem_set hs' with hs' | rfl
          · exact .inl (.inr ⟨s', hs', hb⟩)
          · exact .inr (hblk3 b hb).1
      have HPUT := hid hput
      have HKP3 := hid hkp3
      clear hput hkp3 hown3 hb3 e3s hblk3 hn3 C1 z0 hfr hcell
      go_wp2
      go_roundw
      case rel => exact ⟨k + 1, _, by go_num, by omega, HPUT.out, HKP3.out⟩
      case measure => simp [intOf]; omega
    · have hkN : k = N := by omega
      subst hkN
      have hmap : mixL ms ls k = ls.map (commonP ms) := by unfold mixL; rw [← hN.out]; simp
      rw [hmap] at hown hlm
      have hfull : Full (ls.map (commonP ms)) := by
        intro c hc e
        obtain ⟨l, hl, rfl⟩ := List.mem_map.1 hc
        have := HP.out.head hl
        rw [e] at this; cases this
      have hT : ∀ i j (hi : i < (ls.map (commonP ms)).length) (hj : j < (ls.map (commonP ms)).length), hdIx ms (ls.map (commonP ms))[i] = hdIx ms (ls.map (commonP ms))[j] → i = j := by
        intro i j hi hj e
        have hi' : i < ls.length := by simpa using hi
        have hj' : j < ls.length := by simpa using hj
        rw [List.getElem_map, List.getElem_map, HP.out.hdIx (List.getElem_mem hi'), HP.out.hdIx (List.getElem_mem hj')] at e
        rcases Nat.lt_trichotomy i j with hlt | hlt | hlt
        · exact absurd (by omega) (List.pairwise_iff_getElem.1 HP.out.keys i j hi' hj' hlt)
        · exact hlt
        · exact absurd (by omega) (List.pairwise_iff_getElem.1 HP.out.keys j i hj' hi' hlt)
      have hgin : inLL (.slice (some ⟨g, 0, none⟩) k cap) cs g := .inl rfl
      have C1 := sortLeaf_any (cm := cm) (g2 := w.heap.size) (show LLs wr base (.slice (some ⟨g, 0, none⟩) (ls.map (commonP ms)).length cap) cs' (ls.map (commonP ms)) by rw [hlm]; exact hown) hfull (by rw [hlm]; exact h0) (by rw [hlm]; have := HN6.out; omega) hM HML.out hmr (fun b off e eb => HMA.out b off e (by rw [eb]; exact hgin)) z0 (fun e => HNO.out (by rw [e]; exact hgin)) hT
      rw [hlm] at C1
      have C1 := hid C1
      have HKP := hid hkp
      clear hown hkp hfull hT hmap hlm hszr hmr z0 hgin hk hlt
      go_wp2_with fail
      (with_reducible refine C1.out.mono ?_)
      rintro e w3 ⟨rfl, cs3, ls3, hs3, hp3, hpw3, hmt3, hsub3⟩
      have hord : ls3 = ordR ms ls := HP.out.ord_eq hp3 hpw3
      have HORD := hid hord
      have HS3 := hid hs3
      have HMT3 := hid hmt3
      have HSUB := hid hsub3
      clear hs3 hp3 hpw3 hmt3 hsub3 hord C1
      go_wp2
      go_ret
      refine ⟨cs3, rfl, by rw [← HORD.out]; exact HS3.out, ?_⟩
      have k2 : Keeps W1 (.slice (some ⟨g, 0, none⟩) k cap) cs w3 (.slice (some ⟨g, 0, none⟩) k cap) cs3 := by
        refine HKP.out.trans ⟨HMT3.out.mono fun b _ e => .inl (by rw [e]; rfl), ?_⟩
        rintro b (hb | ⟨s', hs', hb⟩)
        · exact .inl (.inl hb)
        · exact .inl (.inr ⟨s', HSUB.out s' hs', hb⟩)
      exact ⟨(Mut.of_below HB1.out).trans k2.mt, fun q hq => (k2.blk q hq).imp id fun e => by have := HSZ.out; omega⟩
end Go.Proofs.Ytbpfhclcjedkcaa

namespace Go.Proofs.Ytbpfhclcjedkcaa
open Go.RowKit
/-! ### layout: comers, may, leaders -/
def insAll : List (Int × Unit) → List Pid → List (Int × Unit)
  | S, [] => S
  | S, p :: r => insAll (ins p.1 () S) r
theorem insAll_drop {S : List (Int × Unit)} {xs : List Pid} {k : Nat} (h : k < xs.length) {x y : Int} (hx : (x, y) = xs[k]) : insAll S (xs.drop k) = insAll (ins x () S) (xs.drop (k + 1)) := by
  rw [List.drop_eq_getElem_cons h, ← hx]; rfl
def comeM : List (Int × Unit) → List Pid → Int
  | _, [] => 0
  | S, p :: r => if (look p.1 S).isSome = true then 9 else comeM (ins p.1 () S) r
theorem comeM_drop {S : List (Int × Unit)} {xs : List Pid} {k : Nat} (h : k < xs.length) {x y : Int} (hx : (x, y) = xs[k]) : comeM S (xs.drop k) = if (look x S).isSome = true then 9 else comeM (ins x () S) (xs.drop (k + 1)) := by
  rw [List.drop_eq_getElem_cons h, ← hx]; rfl
theorem keys_ins {S : List (Int × Unit)} {x p : Int} : p ∈ keys (ins x () S) ↔ p = x ∨ p ∈ keys S := by
  rw [← look_isSome, look_ins, ← look_isSome]
  by_cases h : p = x <;> simp [h]
theorem keys_insAll : ∀ {xs : List Pid} {S : List (Int × Unit)} {p : Int}, p ∈ keys (insAll S xs) ↔ p ∈ keys S ∨ p ∈ xs.map (·.1)
  | [], S, p => by simp [insAll]
  | q :: r, S, p => by
    unfold insAll
    rw [keys_insAll, keys_ins]
    simp only [List.map_cons, List.mem_cons]
    constructor
    · rintro ((h | h) | h)
      · exact .inr (.inl h)
      · exact .inl h
      · exact .inr (.inr h)
    · rintro (h | h | h)
      · exact .inl (.inr h)
      · exact .inl (.inl h)
      · exact .inr h
theorem comeM_eq : ∀ {come : List Pid} {S : List (Int × Unit)} {T : List Int}, (∀ x, x ∈ keys S ↔ x ∈ T) → comeM S come = if comeOk T come = true then 0 else 9
  | [], S, T, _ => by simp [comeM, comeOk]
  | p :: r, S, T, h => by
    unfold comeM comeOk
    by_cases hp : p.1 ∈ T
    · rw [if_pos (look_isSome.2 ((h _).2 hp)), if_pos hp, if_neg (by simp)]
    · rw [if_neg (fun e => hp ((h _).1 (look_isSome.1 e))), if_neg hp]
      refine comeM_eq fun x => ?_
      rw [keys_ins, h]
      simp only [List.mem_append, List.mem_singleton]
      exact or_comm
theorem comeM_is (stay come : List Pid) : comeM (insAll [] stay) come = if comeOk (stay.map (·.1)) come = true then 0 else 9 :=
  comeM_eq fun x => by rw [keys_insAll]; simp [keys]
set_option maxRecDepth 100000 in
set_option maxHeartbeats 1600000 in
theorem comers_any {a b : Option Addr} {c d n m : Nat} {xs ys : List Pid} {w : World} {R : Int} (hR : Hid ((if comeOk (xs.map (·.1)) ys = true then 0 else 9) = R)) (hn' : Hid (xs.length = n)) (hm' : Hid (ys.length = m)) (hn : n ≤ 70368744177664) (hm : m ≤ 70368744177664) (hx : PidRow w a xs) (hy : PidRow w b ys) :
    Calls Try.prog 215 #[.slice a n c, .slice b m d] w fun e w' => e = .returned (.int .i64 R) ∧ Below w.heap.size w w' := by
  have h1 := hn'.out
  have h2 := hm'.out
  subst h1; subst h2
  have hmm := @run_makeMap Try.prog
  have HC := hid ((comeM_is xs ys).trans hR.out)
  clear hR
  go_enter Try.func215, Try.ntmps215
  go_wp2
  go_loopw [15] (fun i wr => ∃ (k : Nat) (S : List (Int × Unit)), k ≤ xs.length ∧ i = .int .i64 k ∧ Hid (insAll [] xs = insAll S (xs.drop k)) ∧ Below w.heap.size w wr ∧ MapIs wr w.heap.size e16 eU S) (fun i _ => xs.length - (intOf i).toNat)
  case atStart => exact ⟨0, [], Nat.zero_le _, rfl, rfl, (Below.refl _ _).alloc (Nat.le_refl _) _, MapIs.made _⟩
  case round =>
    obtain ⟨k, S, hk, rfl, ha, hb, hM⟩ := hrel
    by_cases hlt : k < xs.length
    · obtain ⟨b', off, x, y, rfl, hx', d1, d2⟩ := hx.at hb rfl hlt
      have HD := hid (insAll_drop (S := S) hlt hx')
      clear hx' hx hy
      have hB1 : Below w.heap.size w (wr.alloc (.cells #[.int .u16 x, .int .u32 y] 26)) := hb.alloc hb.size _
      go_wp2_with (at_mapUpdate; refine wpList_mapUpdate_is key16_116 Try.underlying221 (hM.alloc _) x () rfl rfl rfl rfl rfl ?_; intro w2 hM2 hbut)
      go_roundw
      case rel => exact ⟨k + 1, _, by omega, by go_num, (ha.out.trans HD.out : _), hB1.trans (hbut.below (Nat.le_refl _)), hM2⟩
      case measure => simp [intOf]; omega
    · have ha2 := ha.out
      rw [List.drop_eq_nil_of_le (by omega)] at ha2
      have ha3 : insAll [] xs = S := ha2
      rw [ha3] at HC
      have HB := hid hb
      clear ha ha2 ha3 hb
      go_wp2
      go_loopw [4, 26] (fun r i wr => r = .int .i64 0 ∧ ∃ (k : Nat) (S' : List (Int × Unit)), k ≤ ys.length ∧ i = .int .i64 k ∧ Hid (comeM S ys = comeM S' (ys.drop k)) ∧ Below w.heap.size w wr ∧ MapIs wr w.heap.size e16 eU S') (fun _ i _ => ys.length - (intOf i).toNat)
      case atStart => exact ⟨rfl, 0, S, Nat.zero_le _, rfl, rfl, HB.out, hM⟩
      case round =>
        obtain ⟨rfl, k, S', hk, rfl, ha, hb, hM'⟩ := hrel
        by_cases hlt : k < ys.length
        · obtain ⟨b', off, x, y, rfl, hy', d1, d2⟩ := hy.at hb rfl hlt
          have HD := hid (comeM_drop (S := S') hlt hy')
          clear hy' hx hy hM
          rename World => wz
          have hB1 : Below w.heap.size w (wz.alloc (.cells #[.int .u16 x, .int .u32 y] 26)) := hb.alloc hb.size _
          have hB2 : Below w.heap.size w ((wz.alloc (.cells #[.int .u16 x, .int .u32 y] 26)).alloc (.cells #[] 222)) := hB1.alloc hB1.size _
          cases hs : (look x S').isSome
          · have HS := hid hs
            clear hs
            go_wp2_with (first
              | (at_lookup; refine wpList_lookup_is key16_116 Try.underlying221 (.agg #[]) zero106 (hM'.alloc _) x _ (look_unit _ _) HS rfl rfl rfl rfl ?_)
              | (at_mapUpdate; refine wpList_mapUpdate_is key16_116 Try.underlying221 ((hM'.alloc _).alloc _) x () rfl rfl rfl rfl rfl ?_; intro w2 hM2 hbut))
            go_roundw
            case rel => exact ⟨rfl, k + 1, _, by omega, by go_num, (ha.out.trans (by rw [HD.out, HS.out]; rfl) : _), hB2.trans (hbut.below (Nat.le_refl _)), hM2⟩
            case measure => simp [intOf]; omega
          · have HS := hid hs
            clear hs
            go_wp2_with (first
              | (at_lookup; refine wpList_lookup_is key16_116 Try.underlying221 (.agg #[]) zero106 (hM'.alloc _) x _ (look_unit _ _) HS rfl rfl rfl rfl ?_))
            go_ret
            exact ⟨ret_int (by rw [← HC.out, ha.out, HD.out, HS.out]; rfl), hB2⟩
        · have ha2 := ha.out
          rw [List.drop_eq_nil_of_le (by omega)] at ha2
          have HA := hid ha2
          clear ha2
          go_wp2
          go_ret
          exact ⟨ret_int (by rw [← HC.out, HA.out]; rfl), hb⟩
/-! may -/
def notMayFrom : List Pid → Nat → Int
  | [], _ => -1
  | p :: r, k => if mayB p = true then notMayFrom r (k + 1) else (k : Int)
theorem notMay_drop {xs : List Pid} {k : Nat} (h : k < xs.length) {x y : Int} (hx : (x, y) = xs[k]) : notMayFrom (xs.drop k) k = if mayB (x, y) = true then notMayFrom (xs.drop (k + 1)) (k + 1) else (k : Int) := by
  rw [List.drop_eq_getElem_cons h, ← hx]; rfl
theorem notMay_is : ∀ (xs : List Pid) (k : Nat), decide (0 ≤ notMayFrom xs k) = !mayAll xs
  | [], k => rfl
  | p :: r, k => by
    have ih := notMay_is r (k + 1)
    have e : mayAll (p :: r) = (mayB p && mayAll r) := rfl
    unfold notMayFrom
    rw [e]
    cases hp : mayB p
    · rw [if_neg (by simp)]; simp <;> omega
    · rw [if_pos rfl, ih]; simp
theorem notMay1_any {x y : Int} {w : World} {r : Bool} (h : Hid (mayB (x, y) = r)) :
    Calls Try.prog 214 #[.agg #[.int .u16 x, .int .u32 y]] w fun e w' => e = .returned (.bool (!r)) ∧ Below w.heap.size w w' := by
  have hB : Below w.heap.size w (w.alloc (.cells #[.int .u16 x, .int .u32 y] 26)) := (Below.refl _ _).alloc (Nat.le_refl _) _
  go_enter Try.func214, Try.ntmps214
  go_wp2_with (go_at_call 105; refine (may_is h).mono ?_; rintro e w1 ⟨rfl, hb1⟩)
  go_ret
  exact ⟨rfl, hB.trans (hb1.mono hB.size)⟩
set_option maxRecDepth 100000 in
set_option maxHeartbeats 800000 in
theorem ixMay_any {a : Option Addr} {c : Nat} {xs : List Pid} {w : World} (hn : xs.length ≤ 70368744177664) (hrow : PidRow w a xs) :
    Calls Try.prog 236 #[.slice a xs.length c, .func (.func 214) #[] #[]] w fun e w' => e = .returned (.int .i64 (notMayFrom xs 0)) ∧ Below w.heap.size w w' := by
  go_enter Try.func236, Try.ntmps236
  go_wp2
  go_loopw [4, 8] (fun r i wr => r = .int .i64 0 ∧ ∃ k : Nat, k ≤ xs.length ∧ i = .int .i64 k ∧ Hid (notMayFrom xs 0 = notMayFrom (xs.drop k) k) ∧ Below w.heap.size w wr) (fun _ i _ => xs.length - (intOf i).toNat)
  case atStart => exact ⟨rfl, 0, Nat.zero_le _, rfl, rfl, Below.refl _ _⟩
  case round =>
    obtain ⟨rfl, k, hk, rfl, ha, hb⟩ := hrel
    by_cases hlt : k < xs.length
    · obtain ⟨bb, off, x, y, rfl, hx, d1, d2⟩ := hrow.at hb rfl hlt
      have HD := hid (notMay_drop hlt hx)
      obtain ⟨r, hr⟩ : ∃ r, mayB (x, y) = r := ⟨_, rfl⟩
      have HR := hid hr
      clear hx hrow hr
      cases r
      case true =>
        go_wp2_with (go_at_call 214; (with_reducible refine (notMay1_any HR).mono ?_); rintro e w1 ⟨rfl, hb1⟩)
        go_roundw
        case rel => exact ⟨rfl, k + 1, by omega, by go_num, (ha.out.trans (by rw [HD.out, HR.out]; rfl) : _), hb.trans (hb1.mono hb.size)⟩
        case measure => simp [intOf]; omega
      case false =>
        go_wp2_with (go_at_call 214; (with_reducible refine (notMay1_any HR).mono ?_); rintro e w1 ⟨rfl, hb1⟩)
        go_ret
        exact ⟨ret_int (by rw [ha.out, HD.out, HR.out]; rfl), hb.trans (hb1.mono hb.size)⟩
    · have ha2 := ha.out
      rw [List.drop_eq_nil_of_le (by omega)] at ha2
      have HA := hid ha2
      clear ha2 ha
      go_wp2
      go_ret
      exact ⟨ret_int (by rw [HA.out]; rfl), hb⟩
theorem lmay_any {a : Option Addr} {c n : Nat} {xs : List Pid} {w : World} {r : Bool} (hr : Hid (mayAll xs = r)) (hN : Hid (xs.length = n)) (hn : n ≤ 70368744177664) (hrow : PidRow w a xs) :
    Calls Try.prog 164 #[.slice a n c] w fun e w' => e = .returned (.bool r) ∧ Below w.heap.size w w' := by
  have hN := hN.out
  subst hN
  have hz := notMay_is xs 0
  have C1 : Hid (Calls Try.prog 213 #[.slice a xs.length c, .func (.func 214) #[] #[]] w fun e w' => e = .returned (.bool (!r)) ∧ Below w.heap.size w w') := by
    have C0 := ixMay_any (c := c) hn hrow
    rw [hr.out] at hz
    obtain ⟨z, hzz⟩ : ∃ z, notMayFrom xs 0 = z := ⟨_, rfl⟩
    rw [hzz] at hz C0
    have t2 : decide (z ≥ 0) = !r := hz
    have C0 := hid C0
    clear hrow hr hzz
    show Calls _ _ _ _ _
    go_enter Try.func213, Try.ntmps213
    go_wp2_with (go_at_call 236; (with_reducible refine C0.out.mono ?_); rintro e w1 ⟨rfl, hb1⟩)
    go_ret
    exact ⟨ret_bool (by first | exact hz | rfl | simp), hb1⟩
  clear hz hr hrow
  cases r
  all_goals
    go_enter Try.func164, Try.ntmps164
    go_wp2_with (go_at_call 213; (with_reducible refine C1.out.mono ?_); rintro e w1 ⟨rfl, hb1⟩)
    go_ret
    exact ⟨rfl, hb1⟩
/-! leaders -/
theorem heads_take_succ {ls : LL} {k : Nat} (h : k < ls.length) {p : Pid} {r : List Pid} (hl : p :: r = ls[k]) : heads (ls.take (k + 1)) = heads (ls.take k) ++ [p] := by
  rw [heads_fm, heads_fm, List.take_succ_eq_append_getElem h, List.filterMap_append, ← hl]
  rfl
theorem keys_add1 {p : Pid} {L : List (Pid × Unit)} : keys (add1 p L) = if p ∈ keys L then keys L else keys L ++ [p] := by
  by_cases h : p ∈ keys L
  · rw [if_pos h, add1_of_mem h]
  · rw [if_neg h, add1_of_not h]; simp [keys]
theorem leadS_drop {ms S : List Pid} {k : Nat} (h : k < ms.length) {p : Pid} (hp : p = ms[k]) : leadS (ms.drop k) S = leadS (ms.drop (k + 1)) (leadStep S p) := by
  rw [List.drop_eq_getElem_cons h, ← hp]; rfl
theorem leaders_end {w w1 : World} {s r M cm : Nat} {am : Option Addr} {ms S : List Pid} {L : List (Pid × Unit)} (hS : SetIs w1 s r L) (hk : keys L = leadS ms S) (hn : (leadS ms S).Nodup) (hok : ∀ p ∈ leadS ms S, ok p) (hl : (leadS ms S).length ≤ 1000) :
    Calls Try.prog 244 #[.pointer (some ⟨s, 0, none⟩)] w1 fun e w' => ∃ v, e = .returned v ∧ OwnP w' w1.heap.size v (sortL (leadS ms S)) ∧ Below w1.heap.size w1 w' := by
  have h5 : (keys L).length = L.length := by simp [keys]
  rw [hk] at h5
  have := list_any s r L w1 hS (by rw [hk]; exact hn) (by rw [hk]; exact hok) (by omega)
  rw [hk] at this
  exact this
set_option maxRecDepth 100000 in
set_option maxHeartbeats 3200000 in
theorem leaders_any {w : World} {am al : Option Addr} {cm cl M N : Nat} {ms : List Pid} {ls : LL} (hM : Hid (ms.length = M)) (hml : M ≤ 1000) (hN : Hid (ls.length = N)) (hnl : N ≤ 1000) (hm : PidRow w am ms) (hl : LeafRow w al ls) (hfull : Full ls) (hhd : (heads ls).Nodup) (hsub : ∀ p ∈ heads ls, p ∈ ms) (hnd : ms.Nodup) (hok : ∀ p ∈ ms, ok p) :
    Calls Try.prog 219 #[.slice am M cm, .slice al N cl] w fun e w' => ∃ v, e = .returned v ∧ OwnP w' w.heap.size v (leadersL ms (heads ls)) ∧ Below w.heap.size w w' := by
  have h1 := hM.out
  have h2 := hN.out
  subst h1; subst h2
  obtain ⟨q1, q2, q3, q4⟩ := leadS_ok ms (fun _ h => h) hhd hsub
  have q5 : (leadS ms (heads ls)).length ≤ 1000 := by have := nodup_len q1 q2; omega
  have QQ := hid (And.intro q1 (And.intro (fun p hp => hok p (q2 p hp)) q5))
  have HHD := hid hhd
  have hgoal : commonP ms (sortL (leadS ms (heads ls))) = leadersL ms (heads ls) := by
    unfold commonP leadersL
    refine List.filter_congr fun x _ => ?_
    rw [decide_eq_decide]; exact mem_sortL
  have HGOAL := hid hgoal
  have hsl : (sortL (leadS ms (heads ls))).length ≤ 1000 := by rw [sortL_length]; exact q5
  have HSL := hid hsl
  have HFULL := hid hfull
  clear hM hN hfull hhd hsub hnd hok q1 q2 q3 q4 q5 hgoal hsl
  go_enter Try.func219, Try.ntmps219
  go_wp2_with (go_at_call 85; refine (new_any none 0 [] _ (by simp) (.inl rfl)).mono ?_; rintro e w1 ⟨s, r, rfl, hs, hr, hS1, hb1⟩)
  go_loopw [13] (fun i wr => ∃ (k : Nat) (L : List (Pid × Unit)), k ≤ ls.length ∧ i = .int .i64 k ∧ SetIs wr s r L ∧ Hid (keys L = heads (ls.take k)) ∧ Below w.heap.size w wr) (fun i _ => ls.length - (intOf i).toNat)
  case atStart => exact ⟨0, _, Nat.zero_le _, rfl, hS1, rfl, hb1⟩
  case round =>
    obtain ⟨k, L, hk, rfl, hS, hK, hb⟩ := hrel
    by_cases hlt : k < ls.length
    · obtain ⟨bb, off, ai, ci, l, rfl, hx, d1, d2⟩ := hl.at hb rfl hlt
      have hne : l ≠ [] := by rw [hx]; exact HFULL.out _ (List.getElem_mem hlt)
      cases l with
      | nil => exact absurd rfl hne
      | cons p r' =>
      obtain ⟨x, y⟩ := p
      obtain ⟨b2, o2, rfl, p1, p2⟩ := d2.first
      obtain ⟨n, hn⟩ : ∃ n, ((x, y) :: r' : List Pid).length = n := ⟨_, rfl⟩
      rw [hn] at d1
      have t1 : decide (0 < n) = true := decide_eq_true (by rw [← hn]; simp)
      have t2 : decide ((0 : Int) < (n : Int)) = true := decide_eq_true (by rw [← hn]; simp)
      have t3 : 0 < n := by rw [← hn]; simp
      have hsucc := heads_take_succ hlt hx
      have hnot : (x, y) ∉ keys L := by
        rw [hK.out]
        intro hm
        have hnd : (heads (ls.take (k + 1))).Nodup := by
          rw [heads_fm]
          have := HHD.out
          rw [heads_fm] at this
          exact this.sublist ((List.take_sublist _ _).filterMap _)
        rw [hsucc, List.nodup_append] at hnd
        exact hnd.2.2 _ hm _ (by simp) rfl
      have HK1 : Hid (keys (add1 (x, y) L) = heads (ls.take (k + 1))) := hid (by rw [keys_add1, if_neg hnot, hK.out, hsucc])
      clear hx hne hn hsucc hnot d2
      go_wp2_with (go_at_call 227; (with_reducible refine (add_any _ _ _ _ _ _ hS).mono ?_); rintro e w2 ⟨rfl, hS2, hm2⟩)
      go_roundw
      case rel => exact ⟨k + 1, _, by omega, by go_num, hS2, HK1, hb.trans (hm2.below hb.size (fun j e => by rw [e]; exact hr))⟩
      case measure => simp [intOf]; omega
    · have hK2 := hK.out
      rw [List.take_of_length_le (by omega)] at hK2
      have HK := hid hK2
      have HB := hid hb
      have HS := hid hS
      clear hK hK2 hb hS
      go_wp2
      go_loopw [25] (fun i wr => ∃ (k : Nat) (L : List (Pid × Unit)), k ≤ ms.length ∧ i = .int .i64 k ∧ SetIs wr s r L ∧ Hid (leadS ms (heads ls) = leadS (ms.drop k) (keys L)) ∧ Below w.heap.size w wr) (fun i _ => ms.length - (intOf i).toNat)
      case atStart => exact ⟨0, L, Nat.zero_le _, rfl, HS.out, hid (by rw [HK.out]; rfl), HB.out⟩
      case round =>
        obtain ⟨k, L', hk, rfl, hS, hK, hb⟩ := hrel
        have hlen : (keys L').length = L'.length := by simp [keys]
        by_cases hlt : k < ms.length
        · obtain ⟨bb, off, x, y, rfl, hx, d1, d2⟩ := hm.at hb rfl hlt
          have hd := leadS_drop (S := keys L') hlt hx
          rename World => wz
          have hB1 : Below w.heap.size w (wz.alloc (.cells #[.int .u16 x, .int .u32 y] 26)) := hb.alloc hb.size _
          have hS1' := hS.alloc (.cells #[.int .u16 x, .int .u32 y] 26)
          by_cases h3 : 3 ≤ L'.length
          · have u1 : decide ((L'.length : Int) ≥ 3) = true := decide_eq_true (by omega)
            have u2 : decide ((3 : Int) ≤ (L'.length : Int)) = true := decide_eq_true (by omega)
            have u3 : decide (3 ≤ L'.length) = true := decide_eq_true h3
            have hfin : keys L' = leadS ms (heads ls) := by rw [hK.out, leadS_full _ (by omega)]
            have C1 := hid (leaders_end (w := w) (cm := 0) (am := none) (M := 0) hS1' hfin QQ.out.1 QQ.out.2.1 QQ.out.2.2)
            have HM1 := hid (hm.ext hB1)
            have HB1 := hid hB1
            clear hx hd hK hfin hlen h3 hS hb hB1 hm
            go_wp2_with (first
              | (go_at_call 87; (with_reducible refine (len_any _ _ _ _ hS1').mono ?_); rintro e w2 ⟨rfl, rfl⟩)
              | (go_at_call 244; (with_reducible refine C1.out.mono ?_); rintro e w3 ⟨v3, rfl, hown3, hb3⟩; obtain ⟨a3, c3, rfl, hr3, -⟩ := hown3.row)
              | (go_at_call 239; refine (common_any _ _ ms _ _ _ _ (by omega) (by have := HSL.out; omega) (HM1.out.ext hb3) hr3).mono ?_; rintro e w4 ⟨v4, rfl, hown4, hb4⟩))
            go_ret
            have hB3 := HB1.out.trans (hb3.mono HB1.out.size)
            exact ⟨v4, rfl, by rw [HGOAL.out] at hown4; exact hown4.mono2 hB3.size, hB3.trans (hb4.mono hB3.size)⟩
          · have u1 : decide ((L'.length : Int) ≥ 3) = false := decide_eq_false (by omega)
            have u2 : decide ((3 : Int) ≤ (L'.length : Int)) = false := decide_eq_false (by omega)
            have u3 : decide (3 ≤ L'.length) = false := decide_eq_false h3
            have HK2 : Hid (leadS ms (heads ls) = leadS (ms.drop (k + 1)) (keys (add1 (x, y) L'))) := hid (by
              rw [hK.out, hd]
              unfold leadStep
              rw [if_neg (by omega), keys_add1])
            have HB1 := hid hB1
            clear hx hd hK hlen h3 hS hb hB1 hm
            go_wp2_with (first
              | (go_at_call 87; (with_reducible refine (len_any _ _ _ _ hS1').mono ?_); rintro e w2 ⟨rfl, rfl⟩)
              | (go_at_call 227; (with_reducible refine (add_any _ _ _ _ _ _ hS1').mono ?_); rintro e w3 ⟨rfl, hS3, hm3⟩))
            go_roundw
            case rel => exact ⟨k + 1, _, by omega, by go_num, hS3, HK2, HB1.out.trans (hm3.below HB1.out.size (fun j e => by rw [e]; exact hr))⟩
            case measure => simp [intOf]; omega
        · have hK2 := hK.out
          rw [List.drop_eq_nil_of_le (by omega)] at hK2
          have hfin : keys L' = leadS ms (heads ls) := hK2.symm
          have C1 := hid (leaders_end (w := w) (cm := 0) (am := none) (M := 0) hS hfin QQ.out.1 QQ.out.2.1 QQ.out.2.2)
          rename World => wz
          have HM1 := hid (hm.ext hb)
          have HB1 := hid hb
          clear hK hK2 hfin hS hb hm
          go_wp2_with (first
            | (go_at_call 244; (with_reducible refine C1.out.mono ?_); rintro e w3 ⟨v3, rfl, hown3, hb3⟩; obtain ⟨a3, c3, rfl, hr3, -⟩ := hown3.row)
            | (go_at_call 239; refine (common_any _ _ ms _ _ _ _ (by omega) (by have := HSL.out; omega) (HM1.out.ext hb3) hr3).mono ?_; rintro e w4 ⟨v4, rfl, hown4, hb4⟩))
          go_ret
          have hB3 := HB1.out.trans (hb3.mono HB1.out.size)
          exact ⟨v4, rfl, by rw [HGOAL.out] at hown4; exact hown4.mono2 hB3.size, hB3.trans (hb4.mono hB3.size)⟩
end Go.Proofs.Ytbpfhclcjedkcaa

