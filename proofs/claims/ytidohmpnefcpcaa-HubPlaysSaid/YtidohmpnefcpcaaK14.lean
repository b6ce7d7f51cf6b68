/- Parts of the proof: K14. -/
import Derived.Test.YtidohmpnefcpcaaK13
namespace Go.Proofs.Ytidohmpnefcpcaa
open Go.RowKit
/-! ### the reference's hub: Out -/
def rackP (sf : Pid) (y : RPeer) : List PackD := if y.k.owes = true then [⟨3, sf, y.p, y.k.upto, []⟩] else []
def routP (sf : Pid) (y : RPeer) : List PackD := rackP sf y ++ (rdueI y.s).map (dueP sf y.p)
def RoutY (y z : RPeer) : Prop := z.p = y.p ∧ z.s.items = y.s.items ∧ z.s.puts = y.s.puts ∧ z.s.told = rdueT y.s ∧ z.k = { y.k with owes := false }
/-- the peers, each one turned -/
def RoutL (L L' : List RPeer) : Prop := L'.length = L.length ∧ ∀ (i : Nat) (y : RPeer), L[i]? = some y → ∃ z : RPeer, L'[i]? = some z ∧ RoutY y z
theorem RoutL.snoc {L L' : List RPeer} {y z : RPeer} (h : RoutL L L') (hy : RoutY y z) : RoutL (L ++ [y]) (L' ++ [z]) := by
  refine ⟨by simp [h.1], fun i u hu => ?_⟩
  by_cases hi : i < L.length
  · rw [List.getElem?_append_left hi] at hu
    obtain ⟨v, h1, h2⟩ := h.2 i u hu
    exact ⟨v, by rw [List.getElem?_append_left (by rw [h.1]; exact hi)]; exact h1, h2⟩
  · rw [List.getElem?_append_right (by omega)] at hu
    have hi0 : i - L.length = 0 := by
      have h9 := List.getElem?_eq_some_iff.1 hu
      obtain ⟨h9, -⟩ := h9
      simp at h9
      omega
    rw [hi0] at hu
    have hu : some y = some u := hu
    injection hu with hu
    subst hu
    refine ⟨z, ?_, hy⟩
    rw [List.getElem?_append_right (by rw [h.1]; omega), h.1, hi0]; rfl
/-- Out under way -/
structure ROutI (w1 wr : World) (N : Nat → Prop) (x : Nat) (sf : Pid) (lv : Value) (L Lk : List RPeer) (v : Value) (xs : List (List Value)) (pk : List PackD) : Prop where
  row : OwnK wr w1.heap.size 41 7 v xs
  els : ElsAt wr (fun b => N b ∨ v.ownBlock = some b) xs (pk.map packC)
  hub : RHubIs wr (fun b => N b ∨ w1.heap.size ≤ b) x sf lv Lk
  mt : Mut (fpX x lv L) w1 wr
  fq : ∀ b, fpX x lv Lk b → fpX x lv L b
  nl : ∀ b, fpX x lv L b → N b
  lt : ∀ b, N b → b < w1.heap.size
section
variable {w1 wr w2 w4 : World} {N : Nat → Prop} {x : Nat} {sf : Pid} {lv v v4 : Value} {L Lk : List RPeer} {xs : List (List Value)} {pk : List PackD}
theorem ROutI.ext (I : ROutI w1 wr N x sf lv L Lk v xs pk) (hb : Below wr.heap.size wr w2) : ROutI w1 w2 N x sf lv L Lk v xs pk :=
  ⟨I.row.ext hb, I.els.mut (Mut.of_below (F := fun _ => False) hb) (fun _ _ e => e.elim), I.hub.ext hb, I.mt.trans (Mut.of_below hb), I.fq, I.nl, I.lt⟩
theorem ROutI.app {ut : Value} {k : PackD} (I : ROutI w1 wr N x sf lv L Lk v xs pk) (hb : Below wr.heap.size wr w2) (hu : ItemAt w2 (fun b => N b ∨ v.ownBlock = some b) ut k.body) (hm : Mut (fun g => v.ownBlock = some g) w2 w4) (hn : ∀ g, v4.ownBlock = some g → v.ownBlock = some g ∨ w2.heap.size ≤ g)
    (hrow : OwnK w4 w1.heap.size 41 7 v4 (xs ++ [(packC k).1 ++ [ut]])) : ROutI w1 w4 N x sf lv L Lk v4 (xs ++ [(packC k).1 ++ [ut]]) (pk ++ [k]) := by
  have hz2 := hb.size
  have hmr : Mut (fun g => v.ownBlock = some g) wr w4 := (Mut.of_below hb).trans ⟨hm.os, hm.tape, hm.output, hm.size, hm.block⟩
  have h3 : ElsAt w4 (fun b => N b ∨ v4.ownBlock = some b) xs (pk.map packC) := by
    have g1 : ElsAt wr (fun b => N b ∨ v.ownBlock = some b ∨ v4.ownBlock = some b) xs (pk.map packC) := I.els.grow fun b e => (by
      rcases e with e | e | e
      · exact .inl (.inl e)
      · exact .inl (.inr e)
      · rcases hn b e with e | e
        · exact .inl (.inr e)
        · exact .inr (by omega))
    exact (g1.mut hmr fun b _ e => .inr (.inl e)).grow2 fun b e => e.imp id .inr
  have h4 : ItemAt w4 (fun b => N b ∨ v4.ownBlock = some b) ut k.body := by
    have g1 : ItemAt w2 (fun b => N b ∨ v.ownBlock = some b ∨ v4.ownBlock = some b) ut k.body := hu.grow fun b e => (by
      rcases e with e | e | e
      · exact .inl (.inl e)
      · exact .inl (.inr e)
      · rcases hn b e with e | e
        · exact .inl (.inr e)
        · exact .inr e)
    exact (g1.mut hm fun b _ e => .inr (.inl e)).grow2 fun b e => e.imp id .inr
  refine ⟨hrow, ?_, ?_, ?_, I.fq, I.nl, I.lt⟩
  · rw [List.map_append]
    exact h3.snoc h4
  · refine I.hub.mut hmr (fun b _ e => .inr (I.row.blk e).1) fun b e e2 => ?_
    have h1 := (I.row.blk e2).1
    have h2 := I.lt b (I.nl b (I.fq b e))
    omega
  · exact I.mt.transG hmr fun b hb e => (by have := (I.row.blk e).1; omega)
/-- a peer was turned -/
theorem ROutI.turn {A C : List RPeer} {y z : RPeer} (I : ROutI w1 wr N x sf lv L (A ++ y :: C) v xs pk) (hm : Mut (fpY y) wr w2) (hz : PeerIs w2 (fun b => N b ∨ w1.heap.size ≤ b) z) (hc : peerC z = peerC y) (hf : ∀ b, fpY z b → fpY y b) : ROutI w1 w2 N x sf lv L (A ++ z :: C) v xs pk := by
  have hy : ∀ b, fpY y b → fpX x lv L b := fun b e => I.fq b (.inr (.inr ⟨y, by simp, e⟩))
  have hnv : ∀ g, v.ownBlock = some g → ¬ fpY y g := fun g e e2 => by
    have h1 := (I.row.blk e).1
    have h2 := I.lt g (I.nl g (hy g e2))
    omega
  refine ⟨I.row.mut hm hnv, I.els.mut hm fun b _ e => .inl (I.nl b (hy b e)), I.hub.turn hm (fun b e => e) (fun b e => .inl e) hz hc (fun b e => .inl (hf b e)), I.mt.trans (hm.mono fun b _ e => hy b e), fun b e => ?_, I.nl, I.lt⟩
  rcases e with e | e | ⟨u, hu, e⟩
  · exact I.fq b (.inl e)
  · exact I.fq b (.inr (.inl e))
  · simp only [List.mem_append, List.mem_cons] at hu
    rcases hu with hu | rfl | hu
    · exact I.fq b (.inr (.inr ⟨u, by simp [hu], e⟩))
    · exact hy b (hf b e)
    · exact I.fq b (.inr (.inr ⟨u, by simp [hu], e⟩))
theorem ROutI.owe {A C : List RPeer} {y : RPeer} (I : ROutI w1 wr N x sf lv L (A ++ y :: C) v xs pk) : ROutI w1 (wr.setCell ⟨y.lb, 2, none⟩ (.bool false)) N x sf lv L (A ++ { y with k := { y.k with owes := false } } :: C) v xs pk := by
  have hp := I.hub.pr y (by simp)
  obtain ⟨h1, h2⟩ := hp.k.owe false
  have hm : Mut (fpY y) wr (wr.setCell ⟨y.lb, 2, none⟩ (.bool false)) := h2.mono fun b _ e => .inr (.inl e)
  exact I.turn (z := { y with k := { y.k with owes := false } }) hm ⟨hp.s.mut h2 (fun b _ e => by rw [show b = y.lb from e]; exact hp.k.nl) fun b e e2 => hp.dis b e (.inl e2), h1, hp.dis, hp.ok⟩ rfl fun b e => e
theorem ROutI.due {A C : List RPeer} {y : RPeer} {v' : Value} {xd : List (List Value)} {o m : Nat} (I : ROutI w1 wr N x sf lv L (A ++ y :: C) v xs pk) {N' : Nat → Prop} (_hN' : ∀ b, N' b → N b ∨ w1.heap.size ≤ b) (_hNs : ∀ b, fpT y.sb y.iv y.tv b → N' b) (D : RDueR wr w2 N' y.sb y.iv y.tv y.s v' xd o m) (hs : RSndIs w2 (fun b => N b ∨ w1.heap.size ≤ b) y.sb y.iv y.tv { y.s with told := rdueT y.s, once := o, more := m }) :
    ROutI w1 w2 N x sf lv L (A ++ { y with s := { y.s with told := rdueT y.s, once := o, more := m } } :: C) v xs pk := by
  have hp := I.hub.pr y (by simp)
  have hmf : ∀ b, (b = y.sb ∨ y.tv.ownBlock = some b) → fpT y.sb y.iv y.tv b := fun b e => e.elim .inl fun e => .inr (.inr e)
  exact I.turn (z := { y with s := { y.s with told := rdueT y.s, once := o, more := m } }) (D.mt.mono fun b _ e => .inl (hmf b e)) ⟨hs, hp.k.mut D.mt (fun b _ e => hp.s.fp b (hmf b e)) fun b e e2 => hp.dis b (hmf b e2) e, hp.dis, hp.ok⟩ rfl fun b e => e
end
theorem RSndIs.join {w w' : World} {N N0 : Nat → Prop} {s : Nat} {iv tv : Value} {d d' : RSnd} (h0 : RSndIs w N0 s iv tv d) (h : RSndIs w' N s iv tv d') (hm : Mut (fun b => b = s ∨ tv.ownBlock = some b) w w') (hi : d'.items = d.items) : RSndIs w' N0 s iv tv d' := by
  obtain ⟨xs, h1, h2⟩ := h0.it
  refine ⟨h.box, ⟨xs, h1.mut hm fun g e e2 => ?_, ?_⟩, h.tl, h0.ns, h0.ni, h0.nt, h0.nit, h.bl, h.b3, h.b4, h.bq⟩
  · rcases e2 with e2 | e2
    · exact (h0.ni g e).2 e2
    · exact h0.nit g e e2
  · rw [hi]
    exact h2.mut hm fun b _ e => by
      rcases e with e | e
      · rw [e]; exact h0.ns
      · exact (h0.nt b e).1
/-- what Out leaves -/
structure ROutR (w w' : World) (N : Nat → Prop) (x : Nat) (sf : Pid) (lv : Value) (L L' : List RPeer) (pk : List PackD) (v : Value) (xs : List (List Value)) : Prop where
  hub : RHubR w w' N N x sf lv L lv L'
  row : OwnK w' w.heap.size 41 7 v xs
  els : ElsAt w' (fun b => N b ∨ v.ownBlock = some b) xs (pk.map packC)
theorem rdueL_len : ∀ (f i : Nat) (t : List Bool), (rdueL f i t).length ≤ f
  | 0, _, _ => by simp [rdueL]
  | f + 1, i, t => by
    have := rdueL_len f (i + 1) t
    unfold rdueL
    split
    · omega
    · simp; omega
theorem rdueI_len (d : RSnd) : (rdueI d).length ≤ 16 := by
  unfold rdueI
  have := rdueL_len (min d.items.length 16) 0 d.told
  rw [List.length_map]
  omega
set_option maxRecDepth 100000 in
set_option maxHeartbeats 12800000 in
theorem rhout_any {w : World} {N : Nat → Prop} {x : Nat} {sf : Pid} {lv : Value} {L : List RPeer} (H : RHubIs w N x sf lv L) (hN : ∀ b, N b → b < w.heap.size) (hF : ∀ y ∈ L, RFit y) :
    Calls Try.prog 21 #[.pointer (some ⟨x, 0, none⟩)] w fun e w' => ∃ v, e = .returned v ∧ ∃ L' xs, ROutR w w' N x sf lv L L' (L.flatMap (routP sf)) v xs ∧ RoutL L L' := by
  obtain ⟨la, lc, hlit, -⟩ := H.lit
  obtain ⟨n, hn⟩ : ∃ n, L.length = n := ⟨_, rfl⟩
  rw [hn] at hlit
  subst hlit
  obtain ⟨s1, s2⟩ := sf
  have HH := hid H
  have HN0 := hid hN
  have HF0 := hid hF
  have HNL := hid hn
  have hn48 : n ≤ 48 := by have := H.lim; omega
  have HI0 : Hid (ROutI w w N x (s1, s2) (.slice la n lc) L ([] ++ L.drop 0) (.slice none 0 0) [] []) := hid ⟨OwnK.nil _ _ _ _, ElsAt.nil _ _, by
    rw [List.nil_append, List.drop_zero]; exact H.less (fun b e => .inl (H.fp b e)) (fun b e => e), Mut.refl _ _, fun b e => by simpa using e, H.fp, hN⟩
  obtain ⟨i0, hi, hz0, hz1, hz2⟩ := info_parts infoPack
  clear H hN hF hn
  go_enter Try.func21, Try.ntmps21
  go_wp2_with fail
  go_loopw [3, 4] (fun v i wr => ∃ (k : Nat) (xs : List (List Value)) (P : List RPeer) (pk : List PackD), i = .int .i64 k ∧ k ≤ n ∧ Hid (ROutI w wr N x (s1, s2) (.slice la n lc) L (P ++ L.drop k) v xs pk) ∧ Hid (RoutL (L.take k) P) ∧ Hid (pk = (L.take k).flatMap (routP (s1, s2))) ∧ Hid (xs.length ≤ 17 * k)) (fun _ i _ => n - (intOf i).toNat)
  case atStart => exact ⟨0, [], [], [], rfl, Nat.zero_le _, HI0, hid ⟨rfl, fun i y h => by simp at h⟩, hid (by simp), hid (by simp)⟩
  case round =>
    obtain ⟨k, xs, P, pk, rfl, hkn, HI, HFA, HPK, HXL⟩ := hrel
    rename World => wo
    have cx2 := HI.out.hub.box.c2
    by_cases hlt : k < n
    · have t1' : decide ((k : Int) < (n : Int)) = true := decide_eq_true (by omega)
      have t2' : decide (k < n) = true := decide_eq_true hlt
      have hkl : k < L.length := by rw [HNL.out]; exact hlt
      obtain ⟨y, hy⟩ : ∃ y, L[k] = y := ⟨_, rfl⟩
      have hdr : L.drop k = y :: L.drop (k + 1) := by rw [List.drop_eq_getElem_cons hkl, hy]
      have hpl : P.length = k := by have := HFA.out.1; rw [List.length_take] at this; omega
      have hI := HI.out
      rw [hdr] at hI
      obtain ⟨C, hC⟩ : ∃ C, L.drop (k + 1) = C := ⟨_, rfl⟩
      rw [hC] at hI hdr
      have hpk := hI.hub.peer (i := k) (y := y) (by rw [List.getElem?_append_right (by omega), hpl, Nat.sub_self]; rfl)
      have hll : (P ++ y :: C).length = n := by rw [← hdr, List.length_append, hpl, List.length_drop, HNL.out]; omega
      rw [hll] at hpk
      obtain ⟨g, off, cap, e, hg, r0, r1, r2, r3⟩ := hpk
      injection e with e1 e2 e3
      subst e1
      clear e2 e3
      have hyL : y ∈ L := by rw [← hy]; exact List.getElem_mem _
      have HYF := hid (HF0.out y hyL)
      have HTK : Hid (L.take (k + 1) = L.take k ++ [y]) := hid (by rw [List.take_succ_eq_append_getElem hkl, hy])
      have HDR : Hid (L.drop (k + 1) = C) := hid hC
      obtain ⟨⟨y1, y2⟩, sb, lb, iv, tv, hv, ys, yk⟩ := y
      obtain ⟨W1, hW1⟩ : ∃ W1, wo.alloc (.cells #[.int .u16 y1, .int .u32 y2, .pointer (some ⟨sb, 0, none⟩), .pointer (some ⟨lb, 0, none⟩)] 64) = W1 := ⟨_, rfl⟩
      have hbw1 : Below wo.heap.size wo W1 := by rw [← hW1]; exact (Below.refl _ _).alloc (Nat.le_refl _) _
      have hzw1 : wo.heap.size < W1.heap.size := by rw [← hW1]; simp
      have b0 : W1.cell? ⟨wo.heap.size, 0, none⟩ = some (.int .u16 y1) := by rw [← hW1]; simp
      have b1 : W1.cell? ⟨wo.heap.size, 1, none⟩ = some (.int .u32 y2) := by rw [← hW1]; simp
      have b2 : W1.cell? ⟨wo.heap.size, 2, none⟩ = some (.pointer (some ⟨sb, 0, none⟩)) := by rw [← hW1]; simp
      have b3 : W1.cell? ⟨wo.heap.size, 3, none⟩ = some (.pointer (some ⟨lb, 0, none⟩)) := by rw [← hW1]; simp
      have I1 := hI.ext hbw1
      have hp1 := I1.hub.pr ⟨(y1, y2), sb, lb, iv, tv, hv, ys, yk⟩ (by simp)
      have q2 : W1.cell? ⟨lb, 2, none⟩ = some (.bool yk.owes) := hp1.k.box.c2
      have q0 : W1.cell? ⟨lb, 0, none⟩ = some (.int .u64 yk.upto) := hp1.k.box.c0
      obtain ⟨q, hq⟩ : ∃ q, yk.owes = q := ⟨_, rfl⟩
      rw [hq] at q2
      have HQ := hid hq
      have HI1 := hid I1
      have HNB : Hid (∀ g, u3.ownBlock = some g → g < wo.heap.size) := hid fun g e => (HI.out.row.blk e).2
      have HZ1 := hid hzw1
      have HB0 := hid (And.intro b0 (And.intro b1 (And.intro b2 b3)))
      have hwr : w.heap.size ≤ wo.heap.size := HI.out.mt.size
      have HWR := hid hwr
      have hlbw : lb < w.heap.size := HI1.out.lt _ (HI1.out.nl _ (HI1.out.fq _ (.inr (.inr ⟨_, List.mem_append_right _ (List.mem_cons_self ..), .inr (.inl rfl)⟩))))
      have HLBW := hid hlbw
      have HKN : Hid (k < n) := hid hlt
      clear hI hkl hy hdr hpl hC hll hyL I1 hp1 hbw1 hzw1 hq hlt hkn hwr hg
      go_upto_if 28 with fail
      go_cut [3] (fun v wx => ∃ xs' : List (List Value), Hid (ROutI w wx N x (s1, s2) (.slice (some ⟨g, off, none⟩) n lc) L (P ++ ⟨(y1, y2), sb, lb, iv, tv, hv, ys, { yk with owes := false }⟩ :: C) v xs' (pk ++ rackP (s1, s2) ⟨(y1, y2), sb, lb, iv, tv, hv, ys, yk⟩)) ∧ Hid (xs'.length ≤ 17 * k + 1) ∧ Hid (wx.cell? ⟨wo.heap.size, 0, none⟩ = some (.int .u16 y1) ∧ wx.cell? ⟨wo.heap.size, 1, none⟩ = some (.int .u32 y2) ∧ wx.cell? ⟨wo.heap.size, 2, none⟩ = some (.pointer (some ⟨sb, 0, none⟩))) ∧ Hid (∀ g, v.ownBlock = some g → g ≠ wo.heap.size))
      case first =>
        cases q with
        | false =>
          go_wp2_with fail
          go_meet
          refine ⟨xs, hid ?_, hid (by have := HXL.out; omega), hid ⟨b0, b1, b2⟩, hid fun g e => by have := HNB.out g e; omega⟩
          have e1 : rackP (s1, s2) ⟨(y1, y2), sb, lb, iv, tv, hv, ys, yk⟩ = [] := by
            unfold rackP
            rw [if_neg]
            show ¬ yk.owes = true
            rw [HQ.out]; exact Bool.false_ne_true
          have e2 : ({ yk with owes := false } : RLnk) = yk := by
            have := HQ.out
            cases yk
            simp only at this
            rw [this]
          rw [e1, List.append_nil, e2]
          exact HI1.out
        | true =>
          have hx0 := HI1.out.hub.box.c0
          have hx1 := HI1.out.hub.box.c1
          have hxl := HI1.out.hub.box.lt
          have HS0 : Hid (∀ W, Mut (fun g => u3.ownBlock = some g) W1 W → W.cell? ⟨x, 0, none⟩ = some (.int .u16 s1) ∧ W.cell? ⟨x, 1, none⟩ = some (.int .u32 s2) ∧ W.cell? ⟨wo.heap.size, 0, none⟩ = some (.int .u16 y1) ∧ W.cell? ⟨wo.heap.size, 1, none⟩ = some (.int .u32 y2) ∧ W.cell? ⟨wo.heap.size, 3, none⟩ = some (.pointer (some ⟨lb, 0, none⟩)) ∧ W.cell? ⟨lb, 0, none⟩ = some (.int .u64 yk.upto)) := hid fun W hm => by
            have n1 : ¬ (u3.ownBlock = some x) := fun e => by
              have := (HI1.out.row.blk e).1
              have := HI1.out.lt x (HI1.out.nl x (.inl rfl))
              omega
            have n2 : ¬ (u3.ownBlock = some wo.heap.size) := fun e => by have := HNB.out _ e; omega
            have n3 : ¬ (u3.ownBlock = some lb) := fun e => by have := (HI1.out.row.blk e).1; have := HLBW.out; omega
            have hlw := HZ1.out
            have hlbl := World.block_lt_of_cell? _ _ q0
            exact ⟨(hm.cell (by exact hxl) n1).trans hx0, (hm.cell (by exact hxl) n1).trans hx1, (hm.cell (by exact hlw) n2).trans b0, (hm.cell (by exact hlw) n2).trans b1, (hm.cell (by exact hlw) n2).trans b3, (hm.cell (by exact hlbl) n3).trans q0⟩
          have HM0 : Hid (Mut (fun g => u3.ownBlock = some g) W1 W1.drew) := hid (Mut.of_below (Below.refl _ _).drew)
          have HMA : Hid (∀ o, Mut (fun g => u3.ownBlock = some g) W1 (W1.drew.alloc o)) := hid fun o => Mut.of_below ((Below.refl _ _).drew.alloc (Nat.le_refl _) _)
          have HXX : Hid (xs.length + 1 ≤ 1000000) := hid (by have := HXL.out; have := HKN.out; omega)
          have HBS : Hid (w.heap.size ≤ W1.heap.size) := hid HI1.out.mt.size
          obtain ⟨up, hup⟩ : ∃ up, yk.upto = up := ⟨_, rfl⟩
          rw [hup] at HS0
          have HUP := hid hup
          clear hx0 hx1 hxl hup q0 b0 b1 b2 b3
          go_upto_region 7 with fail
          go_region_held3 (fun W => Mut (fun g => u3.ownBlock = some g) W1 W ∧ W.cell? ⟨x, 0, none⟩ = some (.int .u16 s1) ∧ W.cell? ⟨x, 1, none⟩ = some (.int .u32 s2) ∧ W.cell? ⟨wo.heap.size, 0, none⟩ = some (.int .u16 y1) ∧ W.cell? ⟨wo.heap.size, 1, none⟩ = some (.int .u32 y2) ∧ W.cell? ⟨wo.heap.size, 3, none⟩ = some (.pointer (some ⟨lb, 0, none⟩)) ∧ W.cell? ⟨lb, 0, none⟩ = some (.int .u64 up)) (first | exact ⟨HM0.out, HS0.out _ HM0.out⟩ | exact ⟨hmw8, HS0.out _ hmw8⟩ | exact ⟨HMA.out _, HS0.out _ (HMA.out _)⟩) (first
            | (refine step_appendE (base := w.heap.size) (b := W1.heap.size) (el := [.int .i64 3, .int .u16 s1, .int .u32 s2, .int .u16 y1, .int .u32 y2, .int .u64 up, .slice none 0 0]) (by rfl) Try.underlying35 hi hz0 hz1 hz2 rfl (by decide) (by decide) (HI1.out.row.ext ((Below.refl _ _).drew.alloc (Nat.le_refl _) _)) rfl els7 (cells7_new W1.drew _ _ _ _ _ _ _ _) HXX.out (Nat.le_trans HBS.out (HMA.out _).size) rfl rfl rfl ?_; intro v8 w8 hown8 hm8 hn8; have hmw8 : Mut (fun g => u3.ownBlock = some g) W1 w8 := (HMA.out _).trans ⟨hm8.os, hm8.tape, hm8.output, Nat.le_trans (by simp) hm8.size, fun q hq hf => hm8.block q hq hf⟩))
          obtain ⟨-, -, -, x0, x1, x3, -⟩ := ‹Mut (fun g => u3.ownBlock = some g) W1 w8 ∧ _›
          have hz7 : W1.drew.heap.size ≤ (W1.drew.alloc (.cells #[.int .i64 3, .int .u16 s1, .int .u32 s2, .int .u16 y1, .int .u32 y2, .int .u64 up, .slice none 0 0] 41)).heap.size := ((Below.refl _ _).alloc (Nat.le_refl _) _).size
          have hm78 : Mut (fun g => u3.ownBlock = some g) W1.drew w8 := (Mut.of_below ((Below.refl _ _).alloc (Nat.le_refl _) _)).trans ⟨hm8.os, hm8.tape, hm8.output, hm8.size, hm8.block⟩
          have happ := HI1.out.app (k := ⟨3, (s1, s2), (y1, y2), up, []⟩) (ut := .slice none 0 0) ((Below.refl _ _).drew) (ItemAt.none _ _) hm78 (fun g e => (hn8 g e).imp id fun e => Nat.le_trans hz7 e) hown8
          have hp8 := happ.hub.pr ⟨(y1, y2), sb, lb, iv, tv, hv, ys, yk⟩ (by simp)
          have q8 : w8.cell? ⟨lb, 2, none⟩ = some (.bool yk.owes) := hp8.k.box.c2
          have f8 : w8.frozen? ⟨lb, 2, none⟩ = false := hp8.k.box.f 2
          have hmo := (hp8.k.owe false).2
          have n2 : ¬ (u3.ownBlock = some wo.heap.size) := fun e => by have := HNB.out _ e; omega
          have x2 := (hmw8.cell (p := ⟨wo.heap.size, 2, none⟩) (by exact HZ1.out) n2).trans HB0.out.2.2.1
          have n4 : ¬ (wo.heap.size = lb) := fun e => by have := HLBW.out; have := HWR.out; omega
          have hbx := World.block_lt_of_cell? _ _ x0
          have y0 := (hmo.cell (p := ⟨wo.heap.size, 0, none⟩) (by exact hbx) n4).trans x0
          have y1' := (hmo.cell (p := ⟨wo.heap.size, 1, none⟩) (by exact hbx) n4).trans x1
          have y2' := (hmo.cell (p := ⟨wo.heap.size, 2, none⟩) (by exact hbx) n4).trans x2
          have HIO := hid happ.owe
          have HY0 := hid (And.intro y0 (And.intro y1' y2'))
          have HW8 : Hid (∀ g, v8.ownBlock = some g → g ≠ wo.heap.size) := hid fun g e => (by
            rcases hn8 g e with e | e
            · have := HNB.out g e; omega
            · have h2 := HZ1.out
              have h3 := Nat.le_trans hz7 e
              have h4 : W1.drew.heap.size = W1.heap.size := rfl
              omega)
          clear happ hp8 hmo x0 x1 x2 y0 y1' y2' hbx n2 hz7 hm78
          go_wp2_with fail
          go_meet
          have e1 : rackP (s1, s2) ⟨(y1, y2), sb, lb, iv, tv, hv, ys, yk⟩ = [⟨3, (s1, s2), (y1, y2), up, []⟩] := by
            unfold rackP
            rw [if_pos (show yk.owes = true from HQ.out), ← HUP.out]
          refine ⟨_, hid (by rw [e1]; exact HIO.out), hid (by have := HXL.out; simp; omega), HY0, HW8⟩
      case rest =>
        obtain ⟨xs1, HIX, HX1, HPC, HNW⟩ := hcut
        rename World => wx
        clear b0 b1 b2 b3 q0 q2 HB0
        obtain ⟨yz, hyz⟩ : ∃ yz : RPeer, yz = ⟨(y1, y2), sb, lb, iv, tv, hv, ys, { yk with owes := false }⟩ := ⟨_, rfl⟩
        have hIX := HIX.out
        have hmz : ⟨(y1, y2), sb, lb, iv, tv, hv, ys, { yk with owes := false }⟩ ∈ P ++ ⟨(y1, y2), sb, lb, iv, tv, hv, ys, { yk with owes := false }⟩ :: C := by simp
        have hfn : ∀ b, fpT sb iv tv b → N b := fun b e => HIX.out.nl _ (HIX.out.fq _ (.inr (.inr ⟨_, hmz, .inl e⟩)))
        have hs0 : RSndIs wx (fun b => N b ∨ w.heap.size ≤ b) sb iv tv ys := (HIX.out.hub.pr _ hmz).s
        have hs1 := hs0.less (N' := fun b => N b ∨ u3.ownBlock = some b) (fun b e => .inl (hfn b e)) (fun b e => e.elim (fun e => .inl (.inl e)) fun e => .inl (.inr (HIX.out.row.blk e).1))
        have CD := hid (rdue_any hs1 (fun b e => e.elim (fun e => Nat.lt_of_lt_of_le (HIX.out.lt b e) HIX.out.mt.size) fun e => (HIX.out.row.blk e).2) HYF.out.1)
        have x2 := HPC.out.2.2
        have HS0 := hid hs0
        have HFN := hid hfn
        clear hs0 hs1 hfn hmz hIX hyz yz
        go_upto_region 9 with fail
        go_wp2_with fail
        refine CD.out.mono ?_
        rintro e w7 ⟨dv, xd, o, mo, rfl, hD⟩
        obtain ⟨da, dc, hde, -⟩ := hD.row.sli
        obtain ⟨nd, hnd⟩ : ∃ nd, xd.length = nd := ⟨_, rfl⟩
        rw [hnd] at hde
        subst hde
        obtain ⟨its, hits⟩ : ∃ its, rdueI ys = its := ⟨_, rfl⟩
        have hel := hD.els
        rw [hits] at hel
        have hnl : its.length = nd := by have := hel.1; rw [List.length_map, hnd] at this; exact this.symm
        have hnd16 : nd ≤ 16 := by rw [← hnl, ← hits]; exact rdueI_len _
        have hdj := HS0.out.join hD.is hD.mt rfl
        have hI7 := HIX.out.due (N' := fun b => N b ∨ u3.ownBlock = some b) (fun b e => e.elim .inl fun e => .inr (HIX.out.row.blk e).1) (fun b e => .inl (HFN.out b e)) hD hdj
        have hnsb : ∀ b, (b = sb ∨ tv.ownBlock = some b) → b ≠ wo.heap.size := fun b e => by
          have h1 := HIX.out.lt b (HFN.out b (e.elim .inl fun e => .inr (.inr e)))
          have := HWR.out
          omega
        have hpx := HPC.out
        have hbx := World.block_lt_of_cell? _ _ hpx.1
        have HPC7 : Hid (w7.cell? ⟨wo.heap.size, 0, none⟩ = some (.int .u16 y1) ∧ w7.cell? ⟨wo.heap.size, 1, none⟩ = some (.int .u32 y2)) := hid ⟨(hD.mt.cell (p := ⟨wo.heap.size, 0, none⟩) (by exact hbx) (fun e => hnsb _ e rfl)).trans hpx.1, (hD.mt.cell (p := ⟨wo.heap.size, 1, none⟩) (by exact hbx) (fun e => hnsb _ e rfl)).trans hpx.2.1⟩
        have HROWD := hid hD.row
        have HELD : Hid (ElsAt w7 (fun b => N b ∨ u3.ownBlock = some b ∨ w7.heap.size ≤ b) xd (its.map itemC)) := hid (hel.grow fun b e => by
          rcases e with e | e | e
          · exact .inl (.inl (.inl e))
          · exact .inl (.inl (.inr e))
          · exact .inr e)
        have HNL2 := hid hnl
        have HND := hid hnd
        have HN16 : Hid (nd ≤ 16) := hid hnd16
        have HITS : Hid (its = rdueI ys) := hid hits.symm
        have HXW : Hid (∀ g, u3.ownBlock = some g → g < wx.heap.size) := hid fun g e => (HIX.out.row.blk e).2
        have HZ7 : Hid (wx.heap.size ≤ w7.heap.size) := hid hD.mt.size
        have HWL : Hid (wo.heap.size < w7.heap.size) := hid (World.block_lt_of_cell? _ _ HPC7.out.1)
        obtain ⟨yz, hyz⟩ : ∃ yz : RPeer, ({ (⟨(y1, y2), sb, lb, iv, tv, hv, ys, { yk with owes := false }⟩ : RPeer) with s := { ys with told := rdueT ys, once := o, more := mo } } : RPeer) = yz := ⟨_, rfl⟩
        have hI7' : ROutI w w7 N x (s1, s2) (.slice (some ⟨g, off, none⟩) n lc) L (P ++ yz :: C) u3 xs1 (pk ++ rackP (s1, s2) ⟨(y1, y2), sb, lb, iv, tv, hv, ys, yk⟩) := by rw [← hyz]; exact hI7
        have HRY : Hid (RoutY ⟨(y1, y2), sb, lb, iv, tv, hv, ys, yk⟩ yz) := hid (by rw [← hyz]; exact ⟨rfl, rfl, rfl, rfl, rfl⟩)
        have HI7 := hid hI7'
        obtain ⟨pk1, hpk1⟩ : ∃ pk1, pk ++ rackP (s1, s2) ⟨(y1, y2), sb, lb, iv, tv, hv, ys, yk⟩ = pk1 := ⟨_, rfl⟩
        rw [hpk1] at HI7
        have HPK1 := hid hpk1
        clear hel hnl hnd16 hdj hI7 hI7' hyz hnsb hpx hbx hD hits hnd x2 HS0 HPC CD hpk1
        obtain ⟨vo, hvo⟩ : ∃ vo, vo = u3 := ⟨_, rfl⟩
        subst hvo
        go_wp2_with fail
        go_loopw [3, 7] (fun v i wi => ∃ (j : Nat) (xs2 : List (List Value)), i = .int .i64 j ∧ j ≤ nd ∧ Hid (ROutI w wi N x (s1, s2) (.slice (some ⟨g, off, none⟩) n lc) L (P ++ yz :: C) v xs2 (pk1 ++ (its.take j).map (dueP (s1, s2) (y1, y2)))) ∧ Hid (Mut (fun b => vo.ownBlock = some b) w7 wi) ∧ Hid (∀ g, v.ownBlock = some g → vo.ownBlock = some g ∨ w7.heap.size ≤ g) ∧ Hid (xs2.length ≤ 17 * k + 1 + j)) (fun _ i _ => nd - (intOf i).toNat)
        case atStart => exact ⟨0, xs1, rfl, Nat.zero_le _, hid (by simpa using HI7.out), hid (Mut.refl _ _), hid (fun g e => .inl e), hid (by have := HX1.out; omega)⟩
        case round =>
          obtain ⟨j, xs2, rfl, hjn, HJ, HMJ, HNJ, HXJ⟩ := hrel
          rename World => wi
          by_cases hlt : j < nd
          · have s1' : decide ((j : Int) < (nd : Int)) = true := decide_eq_true (by omega)
            have s2' : decide (j < nd) = true := decide_eq_true hlt
            obtain ⟨bj, hbj⟩ : ∃ bj, its[j]'(by rw [HNL2.out]; exact hlt) = bj := ⟨_, rfl⟩
            have hjl : j < its.length := by rw [HNL2.out]; exact hlt
            have HTK2 : Hid (its.take (j + 1) = its.take j ++ [bj]) := hid (by rw [List.take_succ_eq_append_getElem hjl, hbj])
            have helw := HELD.out.mut HMJ.out fun b _ e => .inr (.inl e)
            obtain ⟨u, hu1, hu2⟩ := helw.2 j (by rw [List.length_map]; exact hjl)
            rw [List.getElem_map, hbj] at hu1 hu2
            have hu2' : ItemAt wi (fun b => N b ∨ vo.ownBlock = some b ∨ w7.heap.size ≤ b) u bj.2 := hu2
            have hu1' : xd[j]? = some [.int .u64 bj.1, u] := hu1
            have hrd := HROWD.out.mut HMJ.out fun g e e2 => by have h1 := (HROWD.out.blk e).1; have h2 := HXW.out g e2; omega
            obtain ⟨gd, cd, ed, -, hgd2, hcd⟩ := hrd.at hu1'
            injection ed with ed1 ed2 ed3
            subst ed1
            obtain ⟨ua, uc, rfl, -, -, -⟩ := id hu2'
            obtain ⟨un, hun⟩ : ∃ un, bj.2.length = un := ⟨_, rfl⟩
            rw [hun] at hcd hu2'
            have r0 := hcd 0 _ rfl
            have r1 := hcd 1 _ rfl
            rw [Nat.add_zero] at r0
            obtain ⟨q, bt⟩ := bj
            have HU2 : Hid (ItemAt wi (fun b => N b ∨ u3.ownBlock = some b) (.slice ua un uc) bt) := hid (hu2'.grow fun b e => by
              rcases e with e | e
              · exact .inl (.inl e)
              · exact .inl (.inr (HNJ.out b e)))
            have hbwb : Below wi.heap.size wi wi.drew := (Below.refl _ _).drew
            have hIb := HJ.out.ext hbwb
            have hh0 := hIb.hub.box.c0
            have hh1 := hIb.hub.box.c1
            have hhl := hIb.hub.box.lt
            have hnwo : ∀ g, vo.ownBlock = some g → g ≠ wo.heap.size := HNW.out
            have hpc : wi.cell? ⟨wo.heap.size, 0, none⟩ = some (.int .u16 y1) ∧ wi.cell? ⟨wo.heap.size, 1, none⟩ = some (.int .u32 y2) := ⟨(HMJ.out.cell (p := ⟨wo.heap.size, 0, none⟩) (by exact HWL.out) (fun e => hnwo _ e rfl)).trans HPC7.out.1, (HMJ.out.cell (p := ⟨wo.heap.size, 1, none⟩) (by exact HWL.out) (fun e => hnwo _ e rfl)).trans HPC7.out.2⟩
            have hpb0 := cell_toB hpc.1 hbwb
            have hpb1 := cell_toB hpc.2 hbwb
            have y0 := cell_toB r0 hbwb
            have y1' := cell_toB r1 hbwb
            have hgdx := HROWD.out.blk (show (Value.slice (some ⟨gd, 0, none⟩) nd dc).ownBlock = some gd from rfl)
            have hxw := HXW.out
            have HS0 : Hid (∀ W, Mut (fun g => u3.ownBlock = some g) wi.drew W → W.cell? ⟨x, 0, none⟩ = some (.int .u16 s1) ∧ W.cell? ⟨x, 1, none⟩ = some (.int .u32 s2) ∧ W.cell? ⟨wo.heap.size, 0, none⟩ = some (.int .u16 y1) ∧ W.cell? ⟨wo.heap.size, 1, none⟩ = some (.int .u32 y2) ∧ W.cell? ⟨gd, j * 2, none⟩ = some (.int .u64 q) ∧ W.cell? ⟨gd, j * 2 + 1, none⟩ = some (.slice ua un uc)) := hid fun W hm => by
              have n1 : ¬ (u3.ownBlock = some x) := fun e => by
                have := (HJ.out.row.blk e).1
                have := HJ.out.lt x (HJ.out.nl x (.inl rfl))
                omega
              have n2 : ¬ (u3.ownBlock = some wo.heap.size) := fun e => by
                rcases HNJ.out _ e with e | e
                · exact hnwo _ e rfl
                · have := HWL.out; omega
              have l2 := World.block_lt_of_cell? _ _ hpb0
              have l3 := World.block_lt_of_cell? _ _ y0
              have l4 := World.block_lt_of_cell? _ _ hpc.1
              have n3 : ¬ (u3.ownBlock = some gd) := fun e => by
                rcases HNJ.out _ e with e | e
                · have := hxw _ e; omega
                · omega
              exact ⟨(hm.cell (by exact hhl) n1).trans hh0, (hm.cell (by exact hhl) n1).trans hh1, (hm.cell (by exact l2) n2).trans hpb0, (hm.cell (by exact l2) n2).trans hpb1, (hm.cell (by exact l3) n3).trans y0, (hm.cell (by exact l3) n3).trans y1'⟩
            have HM0 : Hid (Mut (fun g => u3.ownBlock = some g) wi.drew wi.drew) := hid (Mut.refl _ _)
            have HMA : Hid (∀ o, Mut (fun g => u3.ownBlock = some g) wi.drew (wi.drew.alloc o)) := hid fun o => Mut.of_below ((Below.refl _ _).alloc (Nat.le_refl _) _)
            have HXX : Hid (xs2.length + 1 ≤ 1000000) := hid (by have := HXJ.out; have := HKN.out; have := HN16.out; omega)
            have HIB := hid hIb
            have HBW : Hid (Below wi.heap.size wi wi.drew) := hid hbwb
            have HJN : Hid (j < nd) := hid hlt
            have HN16' := HN16.out
            have ix0 : (0 : Int) ≤ (j : Int) := Int.natCast_nonneg j
            have ix1 : (j : Int) < (nd : Int) := by omega
            obtain ⟨i0, hi, hz0, hz1, hz2⟩ := info_parts infoPack
            clear hbj hjl helw hu1 hu2 hu1' hu2' hrd hcd ed2 ed3 hun hbwb hIb hh0 hh1 hhl hnwo hpc hpb0 hpb1 y0 y1' hlt hjn hgdx hxw hgd2
            go_upto_region 13 with fail
            clear r0 r1
            go_region_held3 (fun W => Mut (fun g => u3.ownBlock = some g) wi.drew W ∧ W.cell? ⟨x, 0, none⟩ = some (.int .u16 s1) ∧ W.cell? ⟨x, 1, none⟩ = some (.int .u32 s2) ∧ W.cell? ⟨wo.heap.size, 0, none⟩ = some (.int .u16 y1) ∧ W.cell? ⟨wo.heap.size, 1, none⟩ = some (.int .u32 y2) ∧ W.cell? ⟨gd, j * 2, none⟩ = some (.int .u64 q) ∧ W.cell? ⟨gd, j * 2 + 1, none⟩ = some (.slice ua un uc)) (first | exact ⟨HM0.out, HS0.out _ HM0.out⟩ | exact ⟨hmw8, HS0.out _ hmw8⟩ | exact ⟨HMA.out _, HS0.out _ (HMA.out _)⟩) (first
              | (refine step_appendE (base := w.heap.size) (b := wi.drew.heap.size) (el := [.int .i64 2, .int .u16 s1, .int .u32 s2, .int .u16 y1, .int .u32 y2, .int .u64 q, .slice ua un uc]) (by rfl) Try.underlying35 hi hz0 hz1 hz2 rfl (by decide) (by decide) (HIB.out.row.ext ((Below.refl _ _).alloc (Nat.le_refl _) _)) rfl els7 (cells7_new (wi.drew) _ _ _ _ _ _ _ _) HXX.out (Nat.le_trans HIB.out.mt.size ((Below.refl _ _).alloc (Nat.le_refl _) _).size) rfl rfl rfl ?_; intro v4 w8 hown8 hm8 hn8; have hmw8 : Mut (fun g => u3.ownBlock = some g) wi.drew w8 := (HMA.out _).trans ⟨hm8.os, hm8.tape, hm8.output, hm8.size, hm8.block⟩))
            go_wp2_with fail
            have hn9 : ∀ g, v4.ownBlock = some g → u3.ownBlock = some g ∨ wi.drew.heap.size ≤ g := fun g e => (hn8 g e).imp id fun e => Nat.le_trans (by simp) e
            have happ := HJ.out.app (k := dueP (s1, s2) (y1, y2) (q, bt)) (ut := .slice ua un uc) HBW.out (HU2.out.ext1 HBW.out) hmw8 hn9 hown8
            have hwi : Mut (fun g => u3.ownBlock = some g) wi w8 := (Mut.of_below HBW.out).trans hmw8
            have h7i := HMJ.out.size
            have hbz := HBW.out.size
            have hjn1 := HJN.out
            refine ⟨⟨j + 1, _, by go_num, by omega, hid (by rw [HTK2.out, List.map_append, ← List.append_assoc]; exact happ), hid (HMJ.out.transG hwi fun i hi e => ?_), hid fun g e => ?_, hid (by have := HXJ.out; simp; omega)⟩, ?_⟩
            · rcases HNJ.out i e with e | e
              · exact e
              · omega
            · rcases hn9 g e with e | e
              · exact HNJ.out g e
              · exact .inr (by omega)
            · simp [intOf]; omega
          · have hjn2 : j = nd := by omega
            have s1' : decide ((j : Int) < (nd : Int)) = false := decide_eq_false (by omega)
            have s2' : decide (j < nd) = false := decide_eq_false hlt
            have HJJ := hid hjn2
            have hkn1 := HKN.out
            clear hjn2 hlt hjn
            go_wp2_with fail
            have e4 : pk1 ++ (its.take j).map (dueP (s1, s2) (y1, y2)) = pk ++ routP (s1, s2) ⟨(y1, y2), sb, lb, iv, tv, hv, ys, yk⟩ := by
              rw [HJJ.out, ← HNL2.out, List.take_length, HITS.out, ← HPK1.out, List.append_assoc]; rfl
            refine ⟨⟨k + 1, xs2, P ++ [yz], pk ++ routP (s1, s2) ⟨(y1, y2), sb, lb, iv, tv, hv, ys, yk⟩, by go_num, by omega, hid (by rw [HDR.out, List.append_assoc, ← e4]; exact HJ.out), hid (by rw [HTK.out]; exact HFA.out.snoc HRY.out), hid (by rw [HTK.out, List.flatMap_append, ← HPK.out]; simp), hid (by have := HXJ.out; have := HN16.out; have := HJJ.out; omega)⟩, ?_⟩
            simp [intOf]; omega
    · have hkm2 : k = n := by omega
      have t1' : decide ((k : Int) < (n : Int)) = false := decide_eq_false (by omega)
      have t2' : decide (k < n) = false := decide_eq_false hlt
      have HKK := hid hkm2
      clear hkm2 hlt hkn
      go_wp2_with fail
      go_ret
      have I := HI.out
      have hlen : L.length ≤ k := by rw [HKK.out, HNL.out]; exact Nat.le_refl _
      have hD0 : L.drop k = [] := List.drop_eq_nil_of_le hlen
      have hT0 : L.take k = L := List.take_of_length_le hlen
      have hFA := HFA.out
      have hPK := HPK.out
      rw [hD0, List.append_nil] at I
      rw [hT0] at hFA hPK
      have hdd : ∀ b, fpX x (.slice la n lc) P b → fpX x (.slice la n lc) L b := I.fq
      refine ⟨_, rfl, P, xs, ⟨⟨I.hub.less (fun b e => I.nl b (I.fq b e)) (fun b e => .inl (.inl e)), fun _ e => e, fun _ e => .inl e, fun b e => Nat.lt_of_lt_of_le (I.lt b e) I.mt.size, I.mt, fun b e => .inl (I.fq b e)⟩, I.row, by rw [← hPK]; exact I.els⟩, hFA⟩
end Go.Proofs.Ytidohmpnefcpcaa

