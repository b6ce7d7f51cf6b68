/- Parts of the proof: X16. -/
import Derived.Test.YtbpfhclcjedkcaaSm12
namespace Go.Proofs.Ytbpfhclcjedkcaa
open Go.RowKit
theorem rNum_le {most : Nat} {S : RS} : (rNum most S).1 ≤ most := by
  unfold rNum
  split
  · simp
  · split
    · simp
    · split
      · simp
      · simp only; omega
theorem OwnP.mutT {G : Nat → Prop} {w w' : World} {base : Nat} {v : Value} {xs : List Pid} (h : OwnP w base v xs) (hm : Mut G w w') (hG : ∀ k, G k → k < base) : OwnP w' base v xs := by
  refine ⟨h.1, ?_⟩
  rcases h.2 with hn | ⟨g, cap, cur, rfl, hbb, hgg, rest⟩
  · exact .inl hn
  · exact .inr ⟨g, cap, cur, rfl, hbb, (hm.block g (Array.getElem?_eq_some_iff.1 hgg).1 (fun hg => by have := hG g hg; omega)).trans hgg, rest⟩
theorem mut_grown {G : Nat → Prop} {w0 w w' : World} {base : Nat} {v : Value} {xs : List Pid} (hm : Mut G w0 w) (hg : w.grownBy w' v.ownBlock) (hown : OwnP w base v xs) (hb : w0.heap.size ≤ base) : Mut G w0 w' :=
  ⟨hg.os.trans hm.os, hg.tape.trans hm.tape, hg.output.trans hm.output, by have := hg.size; have := hm.size; omega, fun k hk hf =>
    (hg.block k (by have := hm.size; omega) (fun e => by have := (World.ownsRow.lt hown k e.symm).1; omega)).trans (hm.block k hk hf)⟩
theorem Mut.drew {G : Nat → Prop} {w0 w : World} (hm : Mut G w0 w) : Mut G w0 w.drew := hm.trans (Mut.of_below (Below.refl _ _).drew)
theorem grown_mut {w w' : World} {base : Nat} {v : Value} {xs : List Pid} (hg : w.grownBy w' v.ownBlock) (hown : OwnP w base v xs) : Mut (fun k => base ≤ k) w w' :=
  ⟨hg.os, hg.tape, hg.output, hg.size, fun k hk hf => hg.block k hk (fun e => hf (World.ownsRow.lt hown k e.symm).1)⟩
set_option maxRecDepth 100000 in
set_option maxHeartbeats 3200000 in
theorem pidsC_any {s c g0 g1 g2 most n : Nat} {L : List Pid} {a : Option Addr} {S S1 S2 : RS} {w : World} (hx : Hid (rNum most S = (n, S1))) (hL : Hid (rPidsN n S1 = (L, S2))) (hm : most ≤ 1000) (hR : RdIs w s a c S) (h0 : w.cell? ⟨g0, 0, none⟩ = some (.pointer (some ⟨s, 0, none⟩))) (h1 : w.cell? ⟨g1, 0, none⟩ = some (.int .i64 most)) (h2 : Cell1 w g2 (.slice none 0 0)) (hs : s < g2) (h02 : g0 ≠ g2) (h0s : g0 ≠ s) :
    Calls Try.prog 192 #[.pointer (some ⟨g0, 0, none⟩), .pointer (some ⟨g1, 0, none⟩), .pointer (some ⟨g2, 0, none⟩)] w fun e w' => e = .returned (.tuple #[]) ∧ (∃ a' c', RdIs w' s a' c' S2) ∧ (∃ v', Cell1 w' g2 v' ∧ OwnP w' w.heap.size v' L) ∧ Mut (fun k => k = s ∨ k = g2) w w' := by
  have CN : Hid (Calls Try.prog 191 #[.pointer (some ⟨s, 0, none⟩), .int .u64 most] w fun e w' => e = .returned (.int .u64 n) ∧ (∃ a' c', RdIs w' s a' c' S1) ∧ Mut (fun k => k = s) w w') := hid (by
    have := rnum_any most (by omega) hR
    rw [hx.out] at this; exact this)
  have hn : n ≤ 1000 := by have := rNum_le (most := most) (S := S); rw [hx.out] at this; simp only at this; omega
  have hmax : max ((most : Nat) : Int) 0 = most := by omega
  have hsz2 := h2.lt
  have hgs : ¬ (fun k => k = s) g2 := fun e => by have e : g2 = s := e; omega
  have HG := hid hgs
  have hg0 : ¬ (fun k => k = s ∨ k = g2) g0 := fun e => by rcases e with e | e; exact h0s e; exact h02 e
  have HG0 := hid hg0
  have H0S := hid h0s
  have H02 := hid h02
  clear hgs hg0 h0s h02
  go_enter Try.func192, Try.ntmps192
  go_wp2_with (go_at_call 191; refine CN.out.mono ?_; rintro e w1 ⟨rfl, hR1, hM1⟩)
  have hc1 := h2.mutT hM1 HG.out
  clear hmax
  go_loopw [4] (fun i wr => ∃ (k : Nat) (got : List Pid) (vk : Value) (T : RS), k ≤ n ∧ i = .int .u64 k ∧ got.length = k ∧ (∃ a' c', RdIs wr s a' c' T) ∧ Cell1 wr g2 vk ∧ OwnP wr w.heap.size vk got ∧ Hid (L = got ++ (rPidsN (n - k) T).1 ∧ S2 = (rPidsN (n - k) T).2) ∧ Mut (fun k => k = s ∨ k = g2) w wr) (fun i _ => n - (intOf i).toNat)
  case atStart =>
    obtain ⟨a1, c1, hR1⟩ := hR1
    exact ⟨0, [], _, S1, Nat.zero_le _, rfl, rfl, ⟨a1, c1, hR1⟩, hc1, OwnP.nil _ _, hid (by rw [Nat.sub_zero, hL.out]; simp), hM1.mono (fun k _ e => .inl e)⟩
  case round =>
    obtain ⟨k, got, vk, T, hk, rfl, hgl, ⟨a2, c2, hRT⟩, hck, hown, hM, hmut⟩ := hrel
    have hp := cell_mut h0 hmut HG0.out
    have cT := hRT.c1
    have hlen : got.length ≤ 1000 := by omega
    have hsz : w.heap.size ≤ wr.heap.size := hmut.size
    by_cases hlt : k < n
    · have hlt' : decide (k < n) = true := by simpa using hlt
      by_cases he : T.e = 0
      · rw [he] at cT
        obtain ⟨⟨⟨x, y⟩, T2⟩, hP⟩ : ∃ q, rPid T = q := ⟨_, rfl⟩
        have hM2 : Hid (L = (got ++ [(x, y)]) ++ (rPidsN (n - (k + 1)) T2).1 ∧ S2 = (rPidsN (n - (k + 1)) T2).2) := hid (by
          have := hM.out
          rw [show n - k = (n - (k + 1)) + 1 by omega, rPidsN_step he hP] at this
          exact ⟨by rw [this.1]; simp, this.2⟩)
        obtain ⟨G2, hG2⟩ : ∃ G2, got ++ [(x, y)] = G2 := ⟨_, rfl⟩
        have hG2l : G2.length = k + 1 := by rw [← hG2, List.length_append, hgl]; rfl
        have HG2L := hid hG2l
        rw [hG2] at hM2
        have HG2 := hid hG2
        have HP := hid hP
        clear hG2 hG2l
        have hRd := hRT.ext ((Below.refl wr.heap.size wr).drew)
        have CP := hid (rpid_any HP hRd)
        obtain ⟨z0, z1⟩ := id hck
        have HGL := hid hgl
        have hmd : Mut (fun k => k = s ∨ k = g2) w wr.drew := hmut.drew
        have q0 := cell_mut h0 hmd HG0.out
        have z0d : wr.drew.cell? ⟨g2, 0, none⟩ = some vk := cell_toB z0 (Below.refl _ _).drew
        have HS : Hid (∀ W, Mut (fun k => k = s ∨ k = g2) w W → W.cell? ⟨g0, 0, none⟩ = some (.pointer (some ⟨s, 0, none⟩))) := hid fun W h => cell_mut h0 h HG0.out
        have HCK := hid hck
        have HOWN := hid hown
        have HMD := hid hmd
        have HMU := hid hmut
        clear hP hgl hRd hck hown hmut he
        go_wp2_with fail
        have hsw := hR.lt
        refine wp_region_held_drew (S := fun W => W.cell? ⟨g0, 0, none⟩ = some (.pointer (some ⟨s, 0, none⟩))) (by kernel_rfl) (HS.out _ HMD.out) (fun hHeld => ?_)
        refine wpAnyH_take (i := 1) (oi := _) (v := .pointer (some ⟨s, 0, none⟩)) rfl (by kernel_rfl) (by kernel_rfl) (by kernel_rfl) (fun _ _ _ h => h) (Or.inl ⟨by rfl, ?_⟩) (by assumption) ?_
        · intro W hSw
          try dsimp only at hSw
          go_simp
        try simp only [Act.put, List.getElem_toArray, List.getElem_cons_succ, List.getElem_cons_zero, List.setIfInBounds_toArray, List.set_cons_zero, List.set_cons_succ]
        refine wpAnyH_ready (rs := [0, 2]) (by kernel_rfl) (by simp) ?_
        refine AllReadyH.cons (o := _) rfl (fun K hK => ?_) (AllReadyH.cons (o := _) rfl (fun K hK => ?_) AllReadyH.nil)
        · go_simp
          refine hK.out _ _ (HS.out _ (HMD.out)) (fun hHeld => ?_)
          clear hK K
          try simp only [Act.put, List.getElem_toArray, List.getElem_cons_succ, List.getElem_cons_zero, List.setIfInBounds_toArray, List.set_cons_zero, List.set_cons_succ]
          refine wpAnyH_ready (rs := [2]) (by kernel_rfl) (by simp) ?_
          refine AllReadyH.cons (o := _) rfl (fun K hK => ?_) AllReadyH.nil
          go_simp
          refine CP.out.mono ?_; rintro e w11 ⟨rfl, ⟨a11, c11, hR11⟩, hM11⟩; have hm11 : Mut (fun k => k = s ∨ k = g2) w w11 := HMD.out.trans (hM11.mono (fun k _ e => .inl e)); have hm11b : Mut (fun k => k = s ∨ k = g2) w (w11.alloc (.cells #[.int .u16 x, .int .u32 y] 26)) := hm11.trans (Mut.of_below ((Below.refl _ _).alloc (Nat.le_refl _) _)); have hc11 := (HCK.out.ext (Below.refl _ _).drew).mutT hM11 HG.out; have hc11b := hc11.ext ((Below.refl _ _).alloc (Nat.le_refl _) (.cells #[.int .u16 x, .int .u32 y] 26)); have z11 := hc11.c; have z11b := hc11b.c; have ho11 := (((HOWN.out.ext (Below.refl _ _).drew).mutT hM11 (fun k e => by rw [e]; exact hsw)).ext ((Below.refl _ _).alloc (Nat.le_refl _) (.cells #[.int .u16 x, .int .u32 y] 26))); have hR11b := hR11.ext ((Below.refl _ _).alloc (Nat.le_refl _) (.cells #[.int .u16 x, .int .u32 y] 26))
          refine hK.out _ _ (HS.out _ (hm11)) (fun hHeld => ?_)
          clear hK K
          try simp only [Act.put, List.getElem_toArray, List.getElem_cons_succ, List.getElem_cons_zero, List.setIfInBounds_toArray, List.set_cons_zero, List.set_cons_succ]
          refine wpAnyH_ready (rs := [3]) (by kernel_rfl) (by simp) ?_
          refine AllReadyH.cons (o := _) rfl (fun K hK => ?_) AllReadyH.nil
          go_simp
          refine hK.out _ _ (HS.out _ (hm11b)) (fun hHeld => ?_)
          clear hK K
          try simp only [Act.put, List.getElem_toArray, List.getElem_cons_succ, List.getElem_cons_zero, List.setIfInBounds_toArray, List.set_cons_zero, List.set_cons_succ]
          refine wpAnyH_ready (rs := [4]) (by kernel_rfl) (by simp) ?_
          refine AllReadyH.cons (o := _) rfl (fun K hK => ?_) AllReadyH.nil
          refine step_appendQ (by rfl) ho11 (PidRow.one w11 x y) (by omega) (hm11b.size) rfl rfl rfl ?_; intro v12 w12 hown12 hg12; rw [HG2.out] at hown12; obtain ⟨a12, k12, he12, -, -⟩ := hown12.row; subst he12; have hm12 : Mut (fun k => k = s ∨ k = g2) w w12 := mut_grown hm11b hg12 ho11 (Nat.le_refl _); have hgm := grown_mut hg12 ho11; have hc12 := hc11b.mutT hgm (fun e => by have e : w.heap.size ≤ g2 := e; omega); have z12 := hc12.c; have f12 := hc12.f; have hR12 := hR11b.mutT hgm (fun k e => by have e : w.heap.size ≤ k := e; omega); have hm13 : Mut (fun k => k = s ∨ k = g2) w (w12.setCell ⟨g2, 0, none⟩ (.slice a12 G2.length k12)) := hm12.trans (mut1.mono (fun k _ e => .inr e))
          refine hK.out _ _ (HS.out _ (hm12)) (fun hHeld => ?_)
          clear hK K
          try simp only [Act.put, List.getElem_toArray, List.getElem_cons_succ, List.getElem_cons_zero, List.setIfInBounds_toArray, List.set_cons_zero, List.set_cons_succ]
          refine wpAnyH_ready (rs := [5]) (by kernel_rfl) (by simp) ?_
          refine AllReadyH.cons (o := _) rfl (fun K hK => ?_) AllReadyH.nil
          go_simp
          refine hK.out _ _ (HS.out _ (hm13)) (fun hHeld => ?_)
          clear hK K
          try simp only [Act.put, List.getElem_toArray, List.getElem_cons_succ, List.getElem_cons_zero, List.setIfInBounds_toArray, List.set_cons_zero, List.set_cons_succ]
          refine wpAnyH_done (by kernel_rfl) ?_ _
          go_wp2
          go_roundw
          case rel => exact ⟨k + 1, G2, _, T2, by omega, by go_num, HG2L.out, ⟨a11, c11, hR12.mutT (G := fun k => k = g2) mut1 (fun k e => by rw [e]; exact hs)⟩, ⟨World.cell?_setCell_same _ _ _ z12, by simp [f12]⟩, hown12.mutT (mut1 (s := g2)) (fun k e => by rw [e]; exact hsz2), hM2, hm13⟩
          case measure => simp [intOf]; omega
        · go_simp
          refine CP.out.mono ?_; rintro e w11 ⟨rfl, ⟨a11, c11, hR11⟩, hM11⟩; have hm11 : Mut (fun k => k = s ∨ k = g2) w w11 := HMD.out.trans (hM11.mono (fun k _ e => .inl e)); have hm11b : Mut (fun k => k = s ∨ k = g2) w (w11.alloc (.cells #[.int .u16 x, .int .u32 y] 26)) := hm11.trans (Mut.of_below ((Below.refl _ _).alloc (Nat.le_refl _) _)); have hc11 := (HCK.out.ext (Below.refl _ _).drew).mutT hM11 HG.out; have hc11b := hc11.ext ((Below.refl _ _).alloc (Nat.le_refl _) (.cells #[.int .u16 x, .int .u32 y] 26)); have z11 := hc11.c; have z11b := hc11b.c; have ho11 := (((HOWN.out.ext (Below.refl _ _).drew).mutT hM11 (fun k e => by rw [e]; exact hsw)).ext ((Below.refl _ _).alloc (Nat.le_refl _) (.cells #[.int .u16 x, .int .u32 y] 26))); have hR11b := hR11.ext ((Below.refl _ _).alloc (Nat.le_refl _) (.cells #[.int .u16 x, .int .u32 y] 26))
          refine hK.out _ _ (HS.out _ (hm11)) (fun hHeld => ?_)
          clear hK K
          try simp only [Act.put, List.getElem_toArray, List.getElem_cons_succ, List.getElem_cons_zero, List.setIfInBounds_toArray, List.set_cons_zero, List.set_cons_succ]
          refine wpAnyH_ready (rs := [0, 3]) (by kernel_rfl) (by simp) ?_
          refine AllReadyH.cons (o := _) rfl (fun K hK => ?_) (AllReadyH.cons (o := _) rfl (fun K hK => ?_) AllReadyH.nil)
          · go_simp
            refine hK.out _ _ (HS.out _ (hm11)) (fun hHeld => ?_)
            clear hK K
            try simp only [Act.put, List.getElem_toArray, List.getElem_cons_succ, List.getElem_cons_zero, List.setIfInBounds_toArray, List.set_cons_zero, List.set_cons_succ]
            refine wpAnyH_ready (rs := [3]) (by kernel_rfl) (by simp) ?_
            refine AllReadyH.cons (o := _) rfl (fun K hK => ?_) AllReadyH.nil
            go_simp
            refine hK.out _ _ (HS.out _ (hm11b)) (fun hHeld => ?_)
            clear hK K
            try simp only [Act.put, List.getElem_toArray, List.getElem_cons_succ, List.getElem_cons_zero, List.setIfInBounds_toArray, List.set_cons_zero, List.set_cons_succ]
            refine wpAnyH_ready (rs := [4]) (by kernel_rfl) (by simp) ?_
            refine AllReadyH.cons (o := _) rfl (fun K hK => ?_) AllReadyH.nil
            refine step_appendQ (by rfl) ho11 (PidRow.one w11 x y) (by omega) (hm11b.size) rfl rfl rfl ?_; intro v12 w12 hown12 hg12; rw [HG2.out] at hown12; obtain ⟨a12, k12, he12, -, -⟩ := hown12.row; subst he12; have hm12 : Mut (fun k => k = s ∨ k = g2) w w12 := mut_grown hm11b hg12 ho11 (Nat.le_refl _); have hgm := grown_mut hg12 ho11; have hc12 := hc11b.mutT hgm (fun e => by have e : w.heap.size ≤ g2 := e; omega); have z12 := hc12.c; have f12 := hc12.f; have hR12 := hR11b.mutT hgm (fun k e => by have e : w.heap.size ≤ k := e; omega); have hm13 : Mut (fun k => k = s ∨ k = g2) w (w12.setCell ⟨g2, 0, none⟩ (.slice a12 G2.length k12)) := hm12.trans (mut1.mono (fun k _ e => .inr e))
            refine hK.out _ _ (HS.out _ (hm12)) (fun hHeld => ?_)
            clear hK K
            try simp only [Act.put, List.getElem_toArray, List.getElem_cons_succ, List.getElem_cons_zero, List.setIfInBounds_toArray, List.set_cons_zero, List.set_cons_succ]
            refine wpAnyH_ready (rs := [5]) (by kernel_rfl) (by simp) ?_
            refine AllReadyH.cons (o := _) rfl (fun K hK => ?_) AllReadyH.nil
            go_simp
            refine hK.out _ _ (HS.out _ (hm13)) (fun hHeld => ?_)
            clear hK K
            try simp only [Act.put, List.getElem_toArray, List.getElem_cons_succ, List.getElem_cons_zero, List.setIfInBounds_toArray, List.set_cons_zero, List.set_cons_succ]
            refine wpAnyH_done (by kernel_rfl) ?_ _
            go_wp2
            go_roundw
            case rel => exact ⟨k + 1, G2, _, T2, by omega, by go_num, HG2L.out, ⟨a11, c11, hR12.mutT (G := fun k => k = g2) mut1 (fun k e => by rw [e]; exact hs)⟩, ⟨World.cell?_setCell_same _ _ _ z12, by simp [f12]⟩, hown12.mutT (mut1 (s := g2)) (fun k e => by rw [e]; exact hsz2), hM2, hm13⟩
            case measure => simp [intOf]; omega
          · go_simp
            refine hK.out _ _ (HS.out _ (hm11b)) (fun hHeld => ?_)
            clear hK K
            try simp only [Act.put, List.getElem_toArray, List.getElem_cons_succ, List.getElem_cons_zero, List.setIfInBounds_toArray, List.set_cons_zero, List.set_cons_succ]
            refine wpAnyH_ready (rs := [0]) (by kernel_rfl) (by simp) ?_
            refine AllReadyH.cons (o := _) rfl (fun K hK => ?_) AllReadyH.nil
            go_simp
            refine hK.out _ _ (HS.out _ (hm11b)) (fun hHeld => ?_)
            clear hK K
            try simp only [Act.put, List.getElem_toArray, List.getElem_cons_succ, List.getElem_cons_zero, List.setIfInBounds_toArray, List.set_cons_zero, List.set_cons_succ]
            refine wpAnyH_ready (rs := [4]) (by kernel_rfl) (by simp) ?_
            refine AllReadyH.cons (o := _) rfl (fun K hK => ?_) AllReadyH.nil
            refine step_appendQ (by rfl) ho11 (PidRow.one w11 x y) (by omega) (hm11b.size) rfl rfl rfl ?_; intro v12 w12 hown12 hg12; rw [HG2.out] at hown12; obtain ⟨a12, k12, he12, -, -⟩ := hown12.row; subst he12; have hm12 : Mut (fun k => k = s ∨ k = g2) w w12 := mut_grown hm11b hg12 ho11 (Nat.le_refl _); have hgm := grown_mut hg12 ho11; have hc12 := hc11b.mutT hgm (fun e => by have e : w.heap.size ≤ g2 := e; omega); have z12 := hc12.c; have f12 := hc12.f; have hR12 := hR11b.mutT hgm (fun k e => by have e : w.heap.size ≤ k := e; omega); have hm13 : Mut (fun k => k = s ∨ k = g2) w (w12.setCell ⟨g2, 0, none⟩ (.slice a12 G2.length k12)) := hm12.trans (mut1.mono (fun k _ e => .inr e))
            refine hK.out _ _ (HS.out _ (hm12)) (fun hHeld => ?_)
            clear hK K
            try simp only [Act.put, List.getElem_toArray, List.getElem_cons_succ, List.getElem_cons_zero, List.setIfInBounds_toArray, List.set_cons_zero, List.set_cons_succ]
            refine wpAnyH_ready (rs := [5]) (by kernel_rfl) (by simp) ?_
            refine AllReadyH.cons (o := _) rfl (fun K hK => ?_) AllReadyH.nil
            go_simp
            refine hK.out _ _ (HS.out _ (hm13)) (fun hHeld => ?_)
            clear hK K
            try simp only [Act.put, List.getElem_toArray, List.getElem_cons_succ, List.getElem_cons_zero, List.setIfInBounds_toArray, List.set_cons_zero, List.set_cons_succ]
            refine wpAnyH_done (by kernel_rfl) ?_ _
            go_wp2
            go_roundw
            case rel => exact ⟨k + 1, G2, _, T2, by omega, by go_num, HG2L.out, ⟨a11, c11, hR12.mutT (G := fun k => k = g2) mut1 (fun k e => by rw [e]; exact hs)⟩, ⟨World.cell?_setCell_same _ _ _ z12, by simp [f12]⟩, hown12.mutT (mut1 (s := g2)) (fun k e => by rw [e]; exact hsz2), hM2, hm13⟩
            case measure => simp [intOf]; omega
      · have t1 : decide (T.e = 0) = false := by simpa using he
        have t2 : decide ((T.e : Int) = 0) = false := by simp; omega
        have t3 : ((T.e : Int) == 0) = false := by simp; omega
        have HE : Hid (L = got ∧ S2 = T) := hid (by have := hM.out; rw [rPidsN_stop he] at this; simpa using this)
        clear he hgl
        go_wp2
        exact bodyPost_end (results_none rfl _ _ _) rfl ⟨rfl, ⟨a2, c2, by rw [HE.out.2]; exact hRT⟩, ⟨vk, hck, by rw [HE.out.1]; exact hown⟩, hmut⟩
    · have hlt' : decide (k < n) = false := by simpa using hlt
      have HE : Hid (L = got ∧ S2 = T) := hid (by have := hM.out; rw [show n - k = 0 by omega] at this; simpa [rPidsN] using this)
      clear hgl
      go_wp2
      exact bodyPost_end (results_none rfl _ _ _) rfl ⟨rfl, ⟨a2, c2, by rw [HE.out.2]; exact hRT⟩, ⟨vk, hck, by rw [HE.out.1]; exact hown⟩, hmut⟩
end Go.Proofs.Ytbpfhclcjedkcaa

