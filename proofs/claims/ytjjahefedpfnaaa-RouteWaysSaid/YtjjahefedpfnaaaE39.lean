import Derived.Test.YtjjahefedpfnaaaE38
namespace Go.Proofs.Ytjjahefedpfnaaa
open Go.RowKit
theorem sameW {a b : Option Addr} {c d n : Nat} {xs : List Pid} {w : World} (hn : Hid (xs.length = n)) (hl : n ≤ 70368744177664) (hx : PidRow w a xs) (hy : PidRow w b xs) : Calls Try.prog 24 #[.slice a n c, .slice b n d] w fun e w' => e = .returned (.bool true) ∧ Below w.heap.size w w' := by
  have := sameR_any a b c d xs xs w (by rw [hn.out]; exact hl) (by rw [hn.out]; exact hl) hx hy
  rw [hn.out, decide_eq_true rfl] at this
  exact this
set_option maxRecDepth 100000 in
set_option maxHeartbeats 12800000 in
theorem routeWays_law (V : View) (am al ad : Option Addr) (cm cl cd : Nat) (r : Nat → Int) (x y : Int) (k : Int) (w : World) (hV : ViewR w am al ad V) (hw : WfView V) (_ : 0 ≤ x ∧ x < 65536 ∧ 0 ≤ y ∧ y < 4294967296) (hk : -9223372036854775808 ≤ k ∧ k ≤ 9223372036854775807) :
    Calls Try.prog 13 #[viewV V am al ad cm cl cd, .agg (RL r).toArray, .agg #[.int .u16 x, .int .u32 y], .int .i64 k] w fun e w' => e = .returned (.bool true) ∧ Below w.heap.size w w' := by
  have hB2 : Below w.heap.size w (((w.alloc (.cells (vcells V am al ad cm cl cd) 68)).alloc (.cells (RL r).toArray 70)).alloc (.cells #[.int .u16 x, .int .u32 y] 32)) := (((Below.refl _ _).alloc (Nat.le_refl _) _).alloc (by simp) _).alloc (by simp; omega) _
  have F2 := Frm.made w V am al ad cm cl cd r x y
  have hV2 := hV.ext hB2
  obtain ⟨w2, hw2⟩ : ∃ w2, (((w.alloc (.cells (vcells V am al ad cm cl cd) 68)).alloc (.cells (RL r).toArray 70)).alloc (.cells #[.int .u16 x, .int .u32 y] 32)) = w2 := ⟨_, rfl⟩
  rw [hw2] at hB2 F2 hV2
  obtain ⟨a20, a21, a22, a23⟩ := F2.vb
  cases hr : rightB V
  · have HR := hid hr
    clear hr F2
    go_enter Try.func13, Try.ntmps13
    go_wp2_with (first
      | (go_at_call 45; refine (right_is HR hV2).mono ?_; rintro e w3 ⟨rfl, hb3⟩)
      | (go_at_call 46; refine (awakeR_any _).mono ?_; rintro e w4 ⟨rfl, hb4⟩))
    go_ret
    exact ⟨rfl, (hB2.trans (hb3.mono hB2.size)).trans (hb4.mono (by have := hb3.size; have := hB2.size; omega))⟩
  · obtain ⟨hs, hg⟩ := right_small hw hr
    have hf := hs.fine
    have HR := hid hr
    have HG := hid hg
    have HK := hid hk
    clear hr hg hk
    obtain ⟨DP, hDP⟩ : ∃ D, pathP V (hasRu r) (x, y) = D := ⟨_, rfl⟩
    obtain ⟨NP, hNP⟩ : ∃ N, DP.length = N := ⟨_, rfl⟩
    have lp : DP.length ≤ 64 := by rw [← hDP]; exact pathP_len
    have hlP : NP ≤ 70368744177664 := by rw [← hNP]; omega
    obtain ⟨⟨m1, m2⟩, hMM⟩ : ∃ q, reachM V (hasRu r) (x, y) k = q := ⟨_, rfl⟩
    have HMM := hid hMM
    have HDP := hid hDP
    have HNP := hid hNP
    clear hMM hDP hNP lp
    go_enter Try.func13, Try.ntmps13
    go_wp2_with fail
    (with_reducible refine (right_is HR hV2).mono ?_)
    rintro e w9 ⟨rfl, hb9⟩
    have hBQ := hB2.trans (hb9.mono hB2.size)
    have GQ := F2.ext hb9
    have VWQ := hV2.ext hb9
    clear a20 a21 a22 a23 hb9 F2 hV2 hw2 hB2
    go_wp2_with fail
    have hne := fun W => neq_mask (m1 : Int) (m2 : Int) (m1 : Int) (m2 : Int) W
    simp only [decide_true, Bool.not_true] at hne
    have hu70 := Try.underlying70
    have hi70 := info70L r
    have HVWQ := hid VWQ
    have HGQ := hid GQ
    go_upto_region 5 with fail
    go_cut [39] (fun s wx => s = .bool false ∧ Below w9.heap.size w9 wx)
    case first =>
      have HS : Hid (∀ W, Below w9.heap.size w9 W → Below w9.heap.size w9 W ∧ W.rangeAt (w.heap.size + 1) 0 (RL r) ∧ W.cell? ⟨w.heap.size, 0, none⟩ = some (.int .u64 V.id) ∧ W.cell? ⟨w.heap.size, 1, none⟩ = some (.slice am V.ms.length cm) ∧ W.cell? ⟨w.heap.size, 2, none⟩ = some (.slice al V.ls.length cl) ∧ W.cell? ⟨w.heap.size, 3, none⟩ = some (.slice ad V.ds.length cd) ∧ W.cell? ⟨w.heap.size + 1 + 1, 0, none⟩ = some (.int .u16 x) ∧ W.cell? ⟨w.heap.size + 1 + 1, 1, none⟩ = some (.int .u32 y)) := hid fun W h => ⟨h, (GQ.ext h).rb.range, (GQ.ext h).vb.c0, (GQ.ext h).vb.c1, (GQ.ext h).vb.c2, (GQ.ext h).vb.c3, (GQ.ext h).c0, (GQ.ext h).c1⟩
      have C62 : Hid (∀ W, Below w9.heap.size w9 W → Calls Try.prog 62 #[.agg #[.int .u64 V.id, .slice am V.ms.length cm, .slice al V.ls.length cl, .slice ad V.ds.length cd], .agg (RL r).toArray, .agg #[.int .u16 x, .int .u32 y]] W fun e w' => ∃ a c, e = .returned (.slice a NP c) ∧ PidRow w' a DP ∧ Below W.heap.size W w' ∧ Below w9.heap.size w9 w') := hid fun W h => ((path_is HDP HNP (HVWQ.out.ext h) hs).mono fun e w' ⟨a, c, h1, h2, h3⟩ => ⟨a, c, h1, h2, h3, h.trans (h3.mono h.size)⟩)
      have C63 : Hid (∀ W, Below w9.heap.size w9 W → Calls Try.prog 63 #[.agg #[.int .u64 V.id, .slice am V.ms.length cm, .slice al V.ls.length cl, .slice ad V.ds.length cd], .agg (RL r).toArray, .agg #[.int .u16 x, .int .u32 y]] W fun e w' => ∃ a c, e = .returned (.slice a NP c) ∧ PidRow w' a DP ∧ Below W.heap.size W w' ∧ Below w9.heap.size w9 w') := hid fun W h => ((pathRef_is HDP HNP (HVWQ.out.ext h) hs).mono fun e w' ⟨a, c, h1, h2, h3⟩ => ⟨a, c, h1, h2, h3, h.trans (h3.mono h.size)⟩)
      have C24 : Hid (∀ W a c b d, Below w9.heap.size w9 W → PidRow W a DP → PidRow W b DP → Calls Try.prog 24 #[.slice a NP c, .slice b NP d] W fun e w' => e = .returned (.bool true) ∧ Below w9.heap.size w9 w') := hid fun W a c b d h h1 h2 => rel h (sameW HNP hlP h1 h2) rfl
      have C64 : Hid (∀ W, Below w9.heap.size w9 W → Calls Try.prog 64 #[.agg #[.int .u64 V.id, .slice am V.ms.length cm, .slice al V.ls.length cl, .slice ad V.ds.length cd], .agg (RL r).toArray, .agg #[.int .u16 x, .int .u32 y], .int .i64 k] W fun e w' => e = .returned (.agg #[.int .u64 m1, .int .u64 m2]) ∧ Below w9.heap.size w9 w') := hid fun W h => rel h (reach_any r V am al ad cm cl cd x y k W (HVWQ.out.ext h) hs HK.out m1 m2 HMM) rfl
      have C65 : Hid (∀ W, Below w9.heap.size w9 W → Calls Try.prog 65 #[.agg #[.int .u64 V.id, .slice am V.ms.length cm, .slice al V.ls.length cl, .slice ad V.ds.length cd], .agg (RL r).toArray, .agg #[.int .u16 x, .int .u32 y], .int .i64 k] W fun e w' => e = .returned (.agg #[.int .u64 m1, .int .u64 m2]) ∧ Below w9.heap.size w9 w') := hid fun W h => rel h (reachRef_any r V am al ad cm cl cd x y k W (HVWQ.out.ext h) hs m1 m2 HMM) rfl
      have H0 : Below w9.heap.size w9 w9.drew := (Below.refl _ _).drew
      clear GQ VWQ
      refine wp_region_held_drew (S := fun W => Below w9.heap.size w9 W ∧ W.rangeAt (w.heap.size + 1) 0 (RL r) ∧ W.cell? ⟨w.heap.size, 0, none⟩ = some (.int .u64 V.id) ∧ W.cell? ⟨w.heap.size, 1, none⟩ = some (.slice am V.ms.length cm) ∧ W.cell? ⟨w.heap.size, 2, none⟩ = some (.slice al V.ls.length cl) ∧ W.cell? ⟨w.heap.size, 3, none⟩ = some (.slice ad V.ds.length cd) ∧ W.cell? ⟨w.heap.size + 1 + 1, 0, none⟩ = some (.int .u16 x) ∧ W.cell? ⟨w.heap.size + 1 + 1, 1, none⟩ = some (.int .u32 y)) (by kernel_rfl) (HS.out _ H0) (fun hHeld => ?_)
      refine wpAnyH_take (i := 0) (oi := _) (v := .agg #[.int .u64 V.id, .slice am V.ms.length cm, .slice al V.ls.length cl, .slice ad V.ds.length cd]) rfl (by kernel_rfl) (by kernel_rfl) (by kernel_rfl) (fun _ _ _ h => h) (Or.inl ⟨by rfl, ?_⟩) (by assumption) ?_
      · intro W hSw
        try dsimp only at hSw
        obtain ⟨s0, s1, s2, s3, s4, s5, s6, s7⟩ := hSw
        go_simp
      try simp only [Act.put, List.getElem_toArray, List.getElem_cons_succ, List.getElem_cons_zero, List.setIfInBounds_toArray, List.set_cons_zero, List.set_cons_succ]
      refine wpAnyH_take (i := 1) (oi := _) (v := .agg (RL r).toArray) rfl (by kernel_rfl) (by kernel_rfl) (by kernel_rfl) (fun _ _ _ h => h) (yieldsIf_load_mid (by rfl) 70 _ rfl _ 0 rfl (RL r) _ (fun W h => h.2.1) hu70 rfl hi70) (by assumption) ?_
      try simp only [Act.put, List.getElem_toArray, List.getElem_cons_succ, List.getElem_cons_zero, List.setIfInBounds_toArray, List.set_cons_zero, List.set_cons_succ]
      refine wpAnyH_take (i := 2) (oi := _) (v := .agg #[.int .u16 x, .int .u32 y]) rfl (by kernel_rfl) (by kernel_rfl) (by kernel_rfl) (fun _ _ _ h => h) (Or.inl ⟨by rfl, ?_⟩) (by assumption) ?_
      · intro W hSw
        try dsimp only at hSw
        obtain ⟨s0, s1, s2, s3, s4, s5, s6, s7⟩ := hSw
        go_simp
      try simp only [Act.put, List.getElem_toArray, List.getElem_cons_succ, List.getElem_cons_zero, List.setIfInBounds_toArray, List.set_cons_zero, List.set_cons_succ]
      refine wpAnyH_take (i := 4) (oi := _) (v := .agg #[.int .u64 V.id, .slice am V.ms.length cm, .slice al V.ls.length cl, .slice ad V.ds.length cd]) rfl (by kernel_rfl) (by kernel_rfl) (by kernel_rfl) (fun _ _ _ h => h) (Or.inl ⟨by rfl, ?_⟩) (by assumption) ?_
      · intro W hSw
        try dsimp only at hSw
        obtain ⟨s0, s1, s2, s3, s4, s5, s6, s7⟩ := hSw
        go_simp
      try simp only [Act.put, List.getElem_toArray, List.getElem_cons_succ, List.getElem_cons_zero, List.setIfInBounds_toArray, List.set_cons_zero, List.set_cons_succ]
      refine wpAnyH_take (i := 5) (oi := _) (v := .agg (RL r).toArray) rfl (by kernel_rfl) (by kernel_rfl) (by kernel_rfl) (fun _ _ _ h => h) (yieldsIf_load_mid (by rfl) 70 _ rfl _ 0 rfl (RL r) _ (fun W h => h.2.1) hu70 rfl hi70) (by assumption) ?_
      try simp only [Act.put, List.getElem_toArray, List.getElem_cons_succ, List.getElem_cons_zero, List.setIfInBounds_toArray, List.set_cons_zero, List.set_cons_succ]
      refine wpAnyH_take (i := 6) (oi := _) (v := .agg #[.int .u16 x, .int .u32 y]) rfl (by kernel_rfl) (by kernel_rfl) (by kernel_rfl) (fun _ _ _ h => h) (Or.inl ⟨by rfl, ?_⟩) (by assumption) ?_
      · intro W hSw
        try dsimp only at hSw
        obtain ⟨s0, s1, s2, s3, s4, s5, s6, s7⟩ := hSw
        go_simp
      try simp only [Act.put, List.getElem_toArray, List.getElem_cons_succ, List.getElem_cons_zero, List.setIfInBounds_toArray, List.set_cons_zero, List.set_cons_succ]
      refine wpAnyH_ready (rs := [3]) (by kernel_rfl) (by simp) ?_
      refine AllReadyH.cons (o := _) rfl (fun K hK => ?_) AllReadyH.nil
      go_simp
      (with_reducible refine (C62.out _ H0).mono ?_)
      rintro e w21 ⟨a21, c21, rfl, hrow21, hbb21, hb21⟩
      first | go_wp2_with fail | skip
      refine hK.out _ _ (HS.out _ hb21) (fun hHeld => ?_)
      clear hK K
      try simp only [Act.put, List.getElem_toArray, List.getElem_cons_succ, List.getElem_cons_zero, List.setIfInBounds_toArray, List.set_cons_zero, List.set_cons_succ]
      refine wpAnyH_ready (rs := [7]) (by kernel_rfl) (by simp) ?_
      refine AllReadyH.cons (o := _) rfl (fun K hK => ?_) AllReadyH.nil
      go_simp
      (with_reducible refine (C63.out _ hb21).mono ?_)
      rintro e w22 ⟨a22, c22, rfl, hrow22, hbb22, hb22⟩
      have hrow21b := hrow21.ext hbb22
      first | go_wp2_with fail | skip
      refine hK.out _ _ (HS.out _ hb22) (fun hHeld => ?_)
      clear hK K
      try simp only [Act.put, List.getElem_toArray, List.getElem_cons_succ, List.getElem_cons_zero, List.setIfInBounds_toArray, List.set_cons_zero, List.set_cons_succ]
      refine wpAnyH_ready (rs := [8]) (by kernel_rfl) (by simp) ?_
      refine AllReadyH.cons (o := _) rfl (fun K hK => ?_) AllReadyH.nil
      go_simp
      (with_reducible refine (C24.out _ _ _ _ _ hb22 hrow21b hrow22).mono ?_)
      rintro e w23 ⟨rfl, hb23⟩
      first | go_wp2_with fail | skip
      refine hK.out _ _ (HS.out _ hb23) (fun hHeld => ?_)
      clear hK K
      try simp only [Act.put, List.getElem_toArray, List.getElem_cons_succ, List.getElem_cons_zero, List.setIfInBounds_toArray, List.set_cons_zero, List.set_cons_succ]
      refine wpAnyH_take (i := 9) (oi := _) (v := .bool false) rfl (by kernel_rfl) (by kernel_rfl) (by kernel_rfl) (fun _ _ _ h => h) (Or.inl ⟨by rfl, ?_⟩) (by assumption) ?_
      · intro W hSw
        try dsimp only at hSw
        obtain ⟨s0, s1, s2, s3, s4, s5, s6, s7⟩ := hSw
        go_simp
      try simp only [Act.put, List.getElem_toArray, List.getElem_cons_succ, List.getElem_cons_zero, List.setIfInBounds_toArray, List.set_cons_zero, List.set_cons_succ]
      refine wpAnyH_take (i := 10) (oi := _) (v := .bool false) rfl (by kernel_rfl) (by kernel_rfl) (by kernel_rfl) (fun _ _ _ h => h) (Or.inl ⟨by rfl, ?_⟩) (by assumption) ?_
      · intro W hSw
        try dsimp only at hSw
        obtain ⟨s0, s1, s2, s3, s4, s5, s6, s7⟩ := hSw
        go_simp
      try simp only [Act.put, List.getElem_toArray, List.getElem_cons_succ, List.getElem_cons_zero, List.setIfInBounds_toArray, List.set_cons_zero, List.set_cons_succ]
      refine wpAnyH_take (i := 11) (oi := _) (v := .agg #[.int .u64 V.id, .slice am V.ms.length cm, .slice al V.ls.length cl, .slice ad V.ds.length cd]) rfl (by kernel_rfl) (by kernel_rfl) (by kernel_rfl) (fun _ _ _ h => h) (Or.inl ⟨by rfl, ?_⟩) (by assumption) ?_
      · intro W hSw
        try dsimp only at hSw
        obtain ⟨s0, s1, s2, s3, s4, s5, s6, s7⟩ := hSw
        go_simp
      try simp only [Act.put, List.getElem_toArray, List.getElem_cons_succ, List.getElem_cons_zero, List.setIfInBounds_toArray, List.set_cons_zero, List.set_cons_succ]
      refine wpAnyH_take (i := 12) (oi := _) (v := .agg (RL r).toArray) rfl (by kernel_rfl) (by kernel_rfl) (by kernel_rfl) (fun _ _ _ h => h) (yieldsIf_load_mid (by rfl) 70 _ rfl _ 0 rfl (RL r) _ (fun W h => h.2.1) hu70 rfl hi70) (by assumption) ?_
      try simp only [Act.put, List.getElem_toArray, List.getElem_cons_succ, List.getElem_cons_zero, List.setIfInBounds_toArray, List.set_cons_zero, List.set_cons_succ]
      refine wpAnyH_take (i := 13) (oi := _) (v := .agg #[.int .u16 x, .int .u32 y]) rfl (by kernel_rfl) (by kernel_rfl) (by kernel_rfl) (fun _ _ _ h => h) (Or.inl ⟨by rfl, ?_⟩) (by assumption) ?_
      · intro W hSw
        try dsimp only at hSw
        obtain ⟨s0, s1, s2, s3, s4, s5, s6, s7⟩ := hSw
        go_simp
      try simp only [Act.put, List.getElem_toArray, List.getElem_cons_succ, List.getElem_cons_zero, List.setIfInBounds_toArray, List.set_cons_zero, List.set_cons_succ]
      refine wpAnyH_take (i := 14) (oi := _) (v := .int .i64 k) rfl (by kernel_rfl) (by kernel_rfl) (by kernel_rfl) (fun _ _ _ h => h) (Or.inl ⟨by rfl, ?_⟩) (by assumption) ?_
      · intro W hSw
        try dsimp only at hSw
        obtain ⟨s0, s1, s2, s3, s4, s5, s6, s7⟩ := hSw
        go_simp
      try simp only [Act.put, List.getElem_toArray, List.getElem_cons_succ, List.getElem_cons_zero, List.setIfInBounds_toArray, List.set_cons_zero, List.set_cons_succ]
      refine wpAnyH_take (i := 16) (oi := _) (v := .agg #[.int .u64 V.id, .slice am V.ms.length cm, .slice al V.ls.length cl, .slice ad V.ds.length cd]) rfl (by kernel_rfl) (by kernel_rfl) (by kernel_rfl) (fun _ _ _ h => h) (Or.inl ⟨by rfl, ?_⟩) (by assumption) ?_
      · intro W hSw
        try dsimp only at hSw
        obtain ⟨s0, s1, s2, s3, s4, s5, s6, s7⟩ := hSw
        go_simp
      try simp only [Act.put, List.getElem_toArray, List.getElem_cons_succ, List.getElem_cons_zero, List.setIfInBounds_toArray, List.set_cons_zero, List.set_cons_succ]
      refine wpAnyH_take (i := 17) (oi := _) (v := .agg (RL r).toArray) rfl (by kernel_rfl) (by kernel_rfl) (by kernel_rfl) (fun _ _ _ h => h) (yieldsIf_load_mid (by rfl) 70 _ rfl _ 0 rfl (RL r) _ (fun W h => h.2.1) hu70 rfl hi70) (by assumption) ?_
      try simp only [Act.put, List.getElem_toArray, List.getElem_cons_succ, List.getElem_cons_zero, List.setIfInBounds_toArray, List.set_cons_zero, List.set_cons_succ]
      refine wpAnyH_take (i := 18) (oi := _) (v := .agg #[.int .u16 x, .int .u32 y]) rfl (by kernel_rfl) (by kernel_rfl) (by kernel_rfl) (fun _ _ _ h => h) (Or.inl ⟨by rfl, ?_⟩) (by assumption) ?_
      · intro W hSw
        try dsimp only at hSw
        obtain ⟨s0, s1, s2, s3, s4, s5, s6, s7⟩ := hSw
        go_simp
      try simp only [Act.put, List.getElem_toArray, List.getElem_cons_succ, List.getElem_cons_zero, List.setIfInBounds_toArray, List.set_cons_zero, List.set_cons_succ]
      refine wpAnyH_take (i := 19) (oi := _) (v := .int .i64 k) rfl (by kernel_rfl) (by kernel_rfl) (by kernel_rfl) (fun _ _ _ h => h) (Or.inl ⟨by rfl, ?_⟩) (by assumption) ?_
      · intro W hSw
        try dsimp only at hSw
        obtain ⟨s0, s1, s2, s3, s4, s5, s6, s7⟩ := hSw
        go_simp
      try simp only [Act.put, List.getElem_toArray, List.getElem_cons_succ, List.getElem_cons_zero, List.setIfInBounds_toArray, List.set_cons_zero, List.set_cons_succ]
      refine wpAnyH_ready (rs := [15]) (by kernel_rfl) (by simp) ?_
      refine AllReadyH.cons (o := _) rfl (fun K hK => ?_) AllReadyH.nil
      go_simp
      (with_reducible refine (C64.out _ hb23).mono ?_)
      rintro e w24 ⟨rfl, hb24⟩
      first | go_wp2_with fail | skip
      refine hK.out _ _ (HS.out _ hb24) (fun hHeld => ?_)
      clear hK K
      try simp only [Act.put, List.getElem_toArray, List.getElem_cons_succ, List.getElem_cons_zero, List.setIfInBounds_toArray, List.set_cons_zero, List.set_cons_succ]
      refine wpAnyH_ready (rs := [20]) (by kernel_rfl) (by simp) ?_
      refine AllReadyH.cons (o := _) rfl (fun K hK => ?_) AllReadyH.nil
      go_simp
      (with_reducible refine (C65.out _ hb24).mono ?_)
      rintro e w25 ⟨rfl, hb25⟩
      first | go_wp2_with fail | skip
      refine hK.out _ _ (HS.out _ hb25) (fun hHeld => ?_)
      clear hK K
      try simp only [Act.put, List.getElem_toArray, List.getElem_cons_succ, List.getElem_cons_zero, List.setIfInBounds_toArray, List.set_cons_zero, List.set_cons_succ]
      refine wpAnyH_take (i := 21) (oi := _) (v := .bool false) rfl (by kernel_rfl) (by kernel_rfl) (by kernel_rfl) (fun _ _ _ h => h) (Or.inl ⟨by rfl, ?_⟩) (by assumption) ?_
      · intro W hSw
        try dsimp only at hSw
        obtain ⟨s0, s1, s2, s3, s4, s5, s6, s7⟩ := hSw
        go_simp
      try simp only [Act.put, List.getElem_toArray, List.getElem_cons_succ, List.getElem_cons_zero, List.setIfInBounds_toArray, List.set_cons_zero, List.set_cons_succ]
      refine wpAnyH_take (i := 22) (oi := _) (v := .bool false) rfl (by kernel_rfl) (by kernel_rfl) (by kernel_rfl) (fun _ _ _ h => h) (Or.inl ⟨by rfl, ?_⟩) (by assumption) ?_
      · intro W hSw
        try dsimp only at hSw
        obtain ⟨s0, s1, s2, s3, s4, s5, s6, s7⟩ := hSw
        go_simp
      try simp only [Act.put, List.getElem_toArray, List.getElem_cons_succ, List.getElem_cons_zero, List.setIfInBounds_toArray, List.set_cons_zero, List.set_cons_succ]
      refine wpAnyH_done (by kernel_rfl) ?_ _
      go_wp2_with fail
      go_meet
      exact ⟨by simp [Array.getD_eq_getD_getElem?, List.getElem?_set], hb25⟩
    case rest =>
      rename World => wc
      obtain ⟨rfl, hcut⟩ := hcut
      have G25 := HGQ.out.ext hcut
      have V25 := HVWQ.out.ext hcut
      have hB25 := hBQ.trans (hcut.mono hBQ.size)
      clear hne
      obtain ⟨a0, a1, a2, a3⟩ := G25.vb
      have hR25 := G25.rb
      cases hc : chiefP V (hasRu r) with
      | none =>
        have HC := hid hc
        clear hc
        go_wp2_with (first
          | (refine wpList_loadRw hR25 (by rfl) rfl rfl ?_)
          | (go_at_call 47; refine (chiefA_none HC V25 hf).mono ?_; rintro e w26 ⟨rfl, hb26⟩)
          | (go_at_call 46; refine (awakeR_any _).mono ?_; rintro e w27 ⟨rfl, hb27⟩))
        have h26 := hb26.size
        have h25 := hB25.size
        go_ret
        exact ⟨rfl, ((hB25.trans (hb26.mono hB25.size)).alloc (by omega) _).trans (hb27.mono (by simp; omega))⟩
      | some q =>
        obtain ⟨u, v⟩ := q
        obtain ⟨⟨p1, p2⟩, hPP⟩ : ∃ q, maskL V.ms (0, 0) (soundL (hasRu r) V.ms) = q := ⟨_, rfl⟩
        obtain ⟨⟨n1, n2⟩, hNN⟩ : ∃ q, reachM V (hasRu r) (u, v) 2 = q := ⟨_, rfl⟩
        have hz := sound_sub HG.out hc hPP hNN
        have oP : mok (p1, p2) := maskL_pair hPP
        have oN : mok (n1, n2) := by
          have hcm := HG.out.dsub _ (firstP_mem hc).1
          rw [← hNN, reachM_in hcm]; exact maskL_ok mok0
        have b1 := u64_andNot_nat p1 n1 oP.1 oN.1
        have b2 := u64_andNot_nat p2 n2 oP.2 oN.2
        rw [hz.1] at b1
        rw [hz.2] at b2
        have HB1 := hid b1
        have HB2 := hid b2
        obtain ⟨DS, hDS⟩ : ∃ D, soundL (hasRu r) V.ms = D := ⟨_, rfl⟩
        obtain ⟨NS, hNS⟩ : ∃ N, DS.length = N := ⟨_, rfl⟩
        have hNSl : NS ≤ 64 := by rw [← hNS, ← hDS]; exact Nat.le_trans (List.length_filter_le _ _) hs.ms
        rw [hDS] at hPP
        have HPP := hid hPP
        have HNN := hid hNN
        have HDS := hid hDS
        have HNS := hid hNS
        have HC := hid hc
        have hms := hs.ms
        clear hc hPP hNN hz oP oN b1 b2 hDS hNS
        go_wp2_with (first
          | (refine wpList_loadRw hR25 (by rfl) rfl rfl ?_)
          | (go_at_call 47; refine (chiefA_some HC V25 hf).mono ?_; rintro e w26 ⟨rfl, hb26⟩))
        have hbq : Below w26.heap.size w26 (w26.alloc (.cells #[.int .u16 u, .int .u32 v] 32)) := (Below.refl _ _).alloc (Nat.le_refl _) _
        have hPq : PtrTo (w26.alloc (.cells #[.int .u16 u, .int .u32 v] 32)) w26.heap.size (.int .u16 u) (.int .u32 v) := ⟨by simp, by simp⟩
        have hbcq := hb26.trans (hbq.mono hb26.size)
        have Gq := G25.ext hbcq
        have Vq := V25.ext hbcq
        have hBq := hB25.trans (hbcq.mono hB25.size)
        clear a0 a1 a2 a3 hR25 G25 V25 hb26 hbq hbcq
        generalize (w26.alloc (.cells #[.int .u16 u, .int .u32 v] 32)) = wq at hPq Gq Vq hBq ⊢
        generalize w26.heap.size = gq at hPq ⊢
        have HGq := hid Gq
        have HVq := hid Vq
        have HPq := hid hPq
        go_upto_region 9 with fail
        go_cut [11] (fun s wx => ∃ g, s = .pointer (some ⟨g, 0, none⟩) ∧ Box2 wx g (.int .u64 p1) (.int .u64 p2) ∧ Below wq.heap.size wq wx)
        case first =>
          have HS : Hid (∀ W, Below wq.heap.size wq W → Below wq.heap.size wq W ∧ W.rangeAt (w.heap.size + 1) 0 (RL r) ∧ W.cell? ⟨w.heap.size, 0, none⟩ = some (.int .u64 V.id) ∧ W.cell? ⟨w.heap.size, 1, none⟩ = some (.slice am V.ms.length cm) ∧ W.cell? ⟨w.heap.size, 2, none⟩ = some (.slice al V.ls.length cl) ∧ W.cell? ⟨w.heap.size, 3, none⟩ = some (.slice ad V.ds.length cd)) := hid fun W h => ⟨h, (HGq.out.ext h).rb.range, (HGq.out.ext h).vb.c0, (HGq.out.ext h).vb.c1, (HGq.out.ext h).vb.c2, (HGq.out.ext h).vb.c3⟩
          have C1 : Hid (∀ W, Below wq.heap.size wq W → Calls Try.prog 67 #[.agg (RL r).toArray, .slice am V.ms.length cm, .bool false] W fun e w' => ∃ a c, e = .returned (.slice a NS c) ∧ PidRow w' a DS ∧ Below W.heap.size W w' ∧ Below wq.heap.size wq w') := hid fun W h => ((part_is HDS HNS (hid rfl) (by omega) hs.wf.ms (HVq.out.ext h).ms).mono fun e w' ⟨a, c, h1, h2, h3⟩ => ⟨a, c, h1, h2, h3, h.trans (h3.mono h.size)⟩)
          have C2 : Hid (∀ W a c, Below wq.heap.size wq W → PidRow W a DS → Calls Try.prog 66 #[.agg #[.int .u64 V.id, .slice am V.ms.length cm, .slice al V.ls.length cl, .slice ad V.ds.length cd], .slice a NS c] W fun e w' => e = .returned (.agg #[.int .u64 p1, .int .u64 p2]) ∧ Below W.heap.size W w' ∧ Below wq.heap.size wq w') := hid fun W a c h hr => ((refMask_is HPP HNS (by omega) (HVq.out.ext h) hr).mono fun e w' ⟨h1, h3⟩ => ⟨h1, h3, h.trans (h3.mono h.size)⟩)
          have H0 : Below wq.heap.size wq wq.drew := (Below.refl _ _).drew
          clear Gq Vq hPq
          go_region_held3 (fun W => Below wq.heap.size wq W ∧ W.rangeAt (w.heap.size + 1) 0 (RL r) ∧ W.cell? ⟨w.heap.size, 0, none⟩ = some (.int .u64 V.id) ∧ W.cell? ⟨w.heap.size, 1, none⟩ = some (.slice am V.ms.length cm) ∧ W.cell? ⟨w.heap.size, 2, none⟩ = some (.slice al V.ls.length cl) ∧ W.cell? ⟨w.heap.size, 3, none⟩ = some (.slice ad V.ds.length cd)) (first | exact HS.out _ H0 | exact HS.out _ (by assumption) | exact HS.out _ (Below.alloc (by assumption) (Below.size (by assumption)) _) | exact HS.out _ (below_put (by assumption) (by first | exact Nat.le_refl _ | exact Below.size (by assumption)) _ _)) (first
            | ((go_at_call 67; refine (C1.out _ (by first | exact H0 | assumption | exact Below.alloc (by assumption) (Below.size (by assumption)) _)).mono ?_; rintro e w11 ⟨a11, c11, rfl, hrow11, hbb11, hb11⟩; obtain ⟨hc11, hf11⟩ := bcell hbb11; try (have hs11 : wq.heap.size < w11.heap.size := by have := hbb11.size; simp at this; omega)))
            | ((go_at_call 66; refine (C2.out _ _ _ (by first | exact H0 | assumption | exact Below.alloc (by assumption) (Below.size (by assumption)) _) (by first | exact hrow11 | exact PidRow.ext hrow11 ((Below.refl _ _).alloc (Nat.le_refl _) _))).mono ?_; rintro e w12 ⟨rfl, hbb12, hb12⟩; obtain ⟨hc12, hf12⟩ := bcell hbb12; try (have hs12 : w11.heap.size < w12.heap.size := by have := hbb12.size; simp at this; omega))))
          all_goals (
            go_wp2_with fail
            go_meet
            first
              | exact ⟨_, rfl, Box2.made _ 83, hb12.alloc hb12.size _⟩
              | exact ⟨_, rfl, ((Box2.made _ 83).ext hbb12).put _ _, below_put hb12 (by first | exact hb11.size | exact Nat.le_refl _ | simp) _ _⟩
              | exact ⟨_, rfl, ((((Box2.made wq 83).ext (Below.refl _ _).drew).ext hbb11).ext hbb12).put _ _, below_put hb12 (by first | exact Nat.le_refl _ | simp) _ _⟩)
        case rest =>
          rename World => wy
          obtain ⟨g, rfl, hbg, hcut2⟩ := hcut
          have Gy := HGq.out.ext hcut2
          have Vy := HVq.out.ext hcut2
          have hBy := hBq.trans (hcut2.mono hBq.size)
          obtain ⟨c0, c1⟩ := HPq.out.ext hcut2
          obtain ⟨a0, a1, a2, a3⟩ := Gy.vb
          have hRy := Gy.rb
          have hgl := hbg.lt
          clear hPq Gq Vq
          go_wp2_with (first
            | (refine wpList_loadRw hRy (by rfl) rfl rfl ?_)
            | (go_at_call 64; refine (reach_any r V am al ad cm cl cd u v 2 wy Vy hs (by omega) n1 n2 HNN).mono ?_; rintro e w30 ⟨rfl, hb30⟩; have hq30 := (Below.refl w30.heap.size w30).alloc (Nat.le_refl _) (.cells #[.int .u64 n1, .int .u64 n2] 83); have hbg30 := (hbg.ext hb30).ext hq30; obtain ⟨q0, q1, q2, q3⟩ := id hbg30; have b1 := HB1.out; have b2 := HB2.out)
            | (go_at_call 46; refine (awakeR_any _).mono ?_; rintro e w31 ⟨rfl, hb31⟩))
          have h30 := hb30.size
          have hyz := hBy.size
          go_ret
          exact ⟨rfl, ((hBy.trans (hb30.mono hyz)).alloc (by omega) _).trans (hb31.mono (by simp; omega))⟩
end Go.Proofs.Ytjjahefedpfnaaa
