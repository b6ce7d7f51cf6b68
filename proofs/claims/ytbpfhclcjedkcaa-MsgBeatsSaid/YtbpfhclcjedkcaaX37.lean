/- Parts of the proof: X37. -/
import Derived.Test.YtbpfhclcjedkcaaSm13
import Derived.Test.YtbpfhclcjedkcaaSm16
import Derived.Test.YtbpfhclcjedkcaaSm6
namespace Go.Proofs.Ytbpfhclcjedkcaa
open Go.RowKit

/-! ### Reader.Bytes -/
theorem run_uptoBu {a : Option Addr} {n c k : Nat} (h : k ≤ c) (W : World) : (Instr.slice 42 (.slice a n c) none (some (.int .u64 k)) none).run Try.prog W = .ok (.slice (if c = 0 then a else a.map (·.add (0 * 1))) (k - 0) (c - 0)) W := by
  have hs : ∀ W, (sizeOf 5).run Try.prog W = .ok 1 W := fun W => Try.sizeOf5 W
  simp [Instr.slice, run_underlying Try.underlying42, Instr.sliceBounds, run_sliceBound, hs, Result.andThen, h]
theorem run_fromBu {a : Option Addr} {n c k : Nat} (h : k ≤ n) (W : World) : (Instr.slice 42 (.slice a n c) (some (.int .u64 k)) none none).run Try.prog W = .ok (.slice (if c = k then a else a.map (·.add (k * 1))) (n - k) (c - k)) W := by
  have hs : ∀ W, (sizeOf 5).run Try.prog W = .ok 1 W := fun W => Try.sizeOf5 W
  simp [Instr.slice, run_underlying Try.underlying42, Instr.sliceBounds, run_sliceBound, hs, Result.andThen, h]
theorem uptoA (a : Option Addr) (c : Nat) : (if c = 0 then a else a.map (·.add (0 * 1))) = a := by
  split
  · rfl
  · cases a with
    | none => rfl
    | some q => simp [Addr.add]
/-- what the closure reads, behind the number -/
def rBytesC (n : Nat) (S : RS) : List Nat × RS :=
  if S.e ≠ 0 then ([], S) else if S.b.length < n then ([], ⟨S.b, 2⟩) else (S.b.take n, ⟨S.b.drop n, 0⟩)
theorem rBytes_eq {most n : Nat} {S S1 S2 : RS} {L : List Nat} (he : S.e = 0) (h1 : rNum most S = (n, S1)) (h2 : rBytesC n S1 = (L, S2)) : rBytes most S = (L, if S2.e = 0 then S2 else ⟨S.b, S2.e⟩) := by
  unfold rBytes
  rw [if_neg (by simp [he]), h1]
  simp only
  unfold rBytesC at h2
  by_cases h : S1.e = 0
  · rw [if_neg (by simp [h])] at h2
    rw [if_neg (by simp [h])]
    by_cases hl : S1.b.length < n
    · rw [if_pos hl] at h2 ⊢
      cases h2; simp
    · rw [if_neg hl] at h2 ⊢
      cases h2; simp
  · rw [if_pos h] at h2
    rw [if_pos h]
    cases h2
    rw [if_neg h]
theorem rNum_bad {most n : Nat} {S S1 : RS} (h : rNum most S = (n, S1)) (he : S1.e ≠ 0) : n = 0 := by
  unfold rNum at h
  split at h
  · cases h; rfl
  · split at h
    · cases h; rfl
    · split at h
      · cases h; rfl
      · cases h; exact absurd rfl he
theorem rBytes_skip {most : Nat} {S : RS} (he : S.e ≠ 0) : rBytes most S = ([], S) := by unfold rBytes; rw [if_pos he]
set_option maxRecDepth 100000 in
set_option maxHeartbeats 6400000 in
theorem bytesC_any {s c g0 g1 g2 most n : Nat} {a : Option Addr} {S S1 S2 : RS} {L : List Nat} {w : World} (hx : Hid (rNum most S = (n, S1))) (hL : Hid (rBytesC n S1 = (L, S2))) (hm : most ≤ 1000) (hR : RdIs w s a c S) (h0 : w.cell? ⟨g0, 0, none⟩ = some (.pointer (some ⟨s, 0, none⟩))) (h1 : w.cell? ⟨g1, 0, none⟩ = some (.int .i64 most)) (h2 : Cell1 w g2 (.slice none 0 0)) (hs : s < g2) (h02 : g0 ≠ g2) (h0s : g0 ≠ s) :
    Calls Try.prog 202 #[.pointer (some ⟨g0, 0, none⟩), .pointer (some ⟨g1, 0, none⟩), .pointer (some ⟨g2, 0, none⟩)] w fun e w' => e = .returned (.tuple #[]) ∧ (∃ a' c', RdIs w' s a' c' S2) ∧ (∃ v', Cell1 w' g2 v' ∧ OwnB w' w.heap.size v' L) ∧ Mut (fun k => k = s ∨ k = g2) w w' := by
  have CN : Hid (Calls Try.prog 191 #[.pointer (some ⟨s, 0, none⟩), .int .u64 most] w fun e w' => e = .returned (.int .u64 n) ∧ (∃ a' c', RdIs w' s a' c' S1) ∧ Mut (fun k => k = s) w w') := hid (by
    have := rnum_any most (by omega) hR
    rw [hx.out] at this; exact this)
  have hn : n ≤ 1000 := by have := rNum_le (most := most) (S := S); rw [hx.out] at this; simp only at this; omega
  have hmax : max ((most : Nat) : Int) 0 = most := by omega
  have ewm : IntKind.u64.wrap ((most : Nat) : Int) = ((most : Nat) : Int) := by rw [IntKind.wrap_u64]; omega
  have hsz2 := h2.lt
  have hgs : ¬ (fun k => k = s) g2 := fun e => by have e : g2 = s := e; omega
  have HG := hid hgs
  have H0S : Hid (¬ (fun k => k = s) g0) := hid (fun e => h0s e)
  have H02 := hid h02
  clear hgs h02
  go_enter Try.func202, Try.ntmps202
  go_wp2_with fail
  refine CN.out.mono ?_
  rintro e w1 ⟨rfl, ⟨a1, c1, hR1⟩, hM1⟩
  have hc2 := h2.mutT hM1 HG.out
  have z0 := cell_mut h0 hM1 H0S.out
  obtain ⟨ln, hln⟩ : ∃ k, S1.b.length = k := ⟨_, rfl⟩
  have hr0 := hR1.c0
  have hr1 := hR1.c1
  have hcap := hR1.cap
  have hlen := hR1.len
  rw [hln] at hr0 hcap hlen
  have HLN := hid hln
  have ewl : IntKind.u64.wrap ((ln : Nat) : Int) = ((ln : Nat) : Int) := by rw [IntKind.wrap_u64]; omega
  have HM1 := hid (hM1.mono (G := fun k => k = s ∨ k = g2) (fun k _ e => .inl e))
  have HR1 := hid hR1
  have HC2 := hid hc2
  clear CN hmax ewm hM1 hc2 hln hR1 h0 h1
  by_cases he : S1.e = 0
  · rw [he] at hr1
    by_cases hl : ln < n
    · have t1 : decide ((n : Int) > (ln : Int)) = true := by simp <;> omega
      have t2 : decide ((ln : Int) < (n : Int)) = true := by simp <;> omega
      have t3 : decide (ln < n) = true := by simpa using hl
      have CF := fail_any 2 HR1.out
      have HF : Hid (failS S1 2 = ⟨S1.b, 2⟩) := hid (by unfold failS; rw [if_pos he])
      rw [HF.out] at CF
      have HCF := hid CF
      have HEND : Hid (L = [] ∧ S2 = ⟨S1.b, 2⟩) := hid (by
        have := hL.out
        unfold rBytesC at this
        rw [if_neg (by simp [he]), if_pos (by rw [HLN.out]; exact hl)] at this
        cases this; exact ⟨rfl, rfl⟩)
      clear he hl CF
      go_wp2_with fail
      refine HCF.out.mono ?_
      rintro e w2 ⟨rfl, hR2, hM2⟩
      have hr12 := hR2.c1
      simp only at hr12
      have z02 := cell_mut z0 hM2 H0S.out
      have HR2 := hid hR2
      have HM2 := hid hM2
      clear HCF hR2 hM2 hr0 hr1 z0
      go_wp2
      exact bodyPost_end (results_none rfl _ _ _) rfl ⟨rfl, ⟨a1, c1, by rw [HEND.out.2]; exact HR2.out⟩, ⟨_, HC2.out.mutT HM2.out HG.out, by rw [HEND.out.1]; exact OwnB.nil _ _⟩, HM1.out.trans (HM2.out.mono (fun k _ e => .inl e))⟩
    · have t1 : decide ((n : Int) > (ln : Int)) = false := by simp <;> omega
      have t2 : decide ((ln : Int) < (n : Int)) = false := by simp <;> omega
      have t3 : decide (ln < n) = false := by simpa using hl
      have HEND : Hid (L = S1.b.take n ∧ S2 = ⟨S1.b.drop n, 0⟩) := hid (by
        have := hL.out
        unfold rBytesC at this
        rw [if_neg (by simp [he]), if_neg (by rw [HLN.out]; exact hl)] at this
        cases this; exact ⟨rfl, rfl⟩)
      have hup := fun W => run_uptoBu (a := a1) (n := ln) (c := c1) (k := n) (by omega) W
      simp only [uptoA, Nat.sub_zero] at hup
      obtain ⟨A1, hA1⟩ : ∃ A, (if c1 = n then a1 else a1.map (·.add (n * 1))) = A := ⟨_, rfl⟩
      have hfr := fun W => run_fromBu (a := a1) (n := ln) (c := c1) (k := n) (by omega) W
      simp only [hA1] at hfr
      obtain ⟨n2, hn2⟩ : ∃ n2, ln - n = n2 := ⟨_, rfl⟩
      obtain ⟨k2, hk2⟩ : ∃ k2, c1 - n = k2 := ⟨_, rfl⟩
      simp only [hn2, hk2] at hfr
      have hrt := HR1.out.row.upto n
      have HTL : Hid ((S1.b.take n).length = n) := hid (by rw [List.length_take, HLN.out]; omega)
      have hH0 : Below w1.heap.size w1 w1.drew := (Below.refl _ _).drew
      have CC : Hid (∀ W, Below w1.heap.size w1 W → Calls Try.prog 184 #[.slice a1 n c1] W fun e w' => ∃ v, e = .returned v ∧ OwnB w' W.heap.size v (S1.b.take n) ∧ Below W.heap.size W w') := hid fun W h => cloneB_any HTL (by omega) (hrt.ext h)
      have HS : Hid (∀ W, Below w1.heap.size w1 W → W.cell? ⟨g0, 0, none⟩ = some (.pointer (some ⟨s, 0, none⟩)) ∧ W.cell? ⟨s, 0, none⟩ = some (.slice a1 ln c1)) := hid fun W h => ⟨cell_toB z0 h, cell_toB hr0 h⟩
      have HHE := hid he
      have HHL := hid hl
      have HUP := hid hup
      have HFR := hid hfr
      have HA1 := hid hA1
      have HN2 := hid hn2
      have HK2 := hid hk2
      have hw1s : w.heap.size ≤ w1.heap.size := HM1.out.size
      clear hrt hA1 he hl hn2 hk2
      go_wp2_with fail

      have q0 := (HS.out _ hH0).2
      refine wp_region_held_drew (S := fun W => W.cell? ⟨g0, 0, none⟩ = some (.pointer (some ⟨s, 0, none⟩))) (by kernel_rfl) ((HS.out _ hH0).1) (fun hHeld => ?_)
      refine wpAnyH_take (i := 0) (oi := _) (v := .pointer (some ⟨s, 0, none⟩)) rfl (by kernel_rfl) (by kernel_rfl) (by kernel_rfl) (fun _ _ _ h => h) (Or.inl ⟨by rfl, ?_⟩) (by assumption) ?_
      · intro W hSw
        try dsimp only at hSw
        go_simp
      try simp only [Act.put, List.getElem_toArray, List.getElem_cons_zero, List.setIfInBounds_toArray, List.set_cons_zero, List.set_cons_succ]
      refine wpAnyH_take (i := 1) (oi := _) (v := .pointer (some ⟨s, 0, none⟩)) rfl (by kernel_rfl) (by kernel_rfl) (by kernel_rfl) (fun _ _ _ h => h) (Or.inl ⟨by rfl, ?_⟩) (by assumption) ?_
      · intro W hSw
        try dsimp only at hSw
        go_simp
      try simp only [Act.put, List.getElem_toArray, List.getElem_cons_succ, List.getElem_cons_zero, List.setIfInBounds_toArray, List.set_cons_zero, List.set_cons_succ]
      refine wpAnyH_take (i := 2) (oi := _) (v := .pointer (some ⟨s, 0, none⟩)) rfl (by kernel_rfl) (by kernel_rfl) (by kernel_rfl) (fun _ _ _ h => h) (Or.inl ⟨by rfl, ?_⟩) (by assumption) ?_
      · intro W hSw
        try dsimp only at hSw
        go_simp
      try simp only [Act.put, List.getElem_toArray, List.getElem_cons_succ, List.getElem_cons_zero, List.setIfInBounds_toArray, List.set_cons_zero, List.set_cons_succ]
      refine wpAnyH_take (i := 3) (oi := _) (v := .pointer (some ⟨s, 0, none⟩)) rfl (by kernel_rfl) (by kernel_rfl) (by kernel_rfl) (fun _ _ _ h => h) (Or.inl ⟨by rfl, ?_⟩) (by assumption) ?_
      · intro W hSw
        try dsimp only at hSw
        go_simp
      try simp only [Act.put, List.getElem_toArray, List.getElem_cons_succ, List.getElem_cons_zero, List.setIfInBounds_toArray, List.set_cons_zero, List.set_cons_succ]
      refine wpAnyH_take (i := 5) (oi := _) (v := .int .u64 n) rfl (by kernel_rfl) (by kernel_rfl) (by kernel_rfl) (fun _ _ _ h => h) (Or.inl ⟨by rfl, ?_⟩) (by assumption) ?_
      · intro W hSw
        try dsimp only at hSw
        go_simp
      try simp only [Act.put, List.getElem_toArray, List.getElem_cons_succ, List.getElem_cons_zero, List.setIfInBounds_toArray, List.set_cons_zero, List.set_cons_succ]
      refine wpAnyH_take (i := 8) (oi := _) (v := .pointer (some ⟨s, 0, none⟩)) rfl (by kernel_rfl) (by kernel_rfl) (by kernel_rfl) (fun _ _ _ h => h) (Or.inl ⟨by rfl, ?_⟩) (by assumption) ?_
      · intro W hSw
        try dsimp only at hSw
        go_simp
      try simp only [Act.put, List.getElem_toArray, List.getElem_cons_succ, List.getElem_cons_zero, List.setIfInBounds_toArray, List.set_cons_zero, List.set_cons_succ]
      refine wpAnyH_take (i := 9) (oi := _) (v := .pointer (some ⟨s, 0, none⟩)) rfl (by kernel_rfl) (by kernel_rfl) (by kernel_rfl) (fun _ _ _ h => h) (Or.inl ⟨by rfl, ?_⟩) (by assumption) ?_
      · intro W hSw
        try dsimp only at hSw
        go_simp
      try simp only [Act.put, List.getElem_toArray, List.getElem_cons_succ, List.getElem_cons_zero, List.setIfInBounds_toArray, List.set_cons_zero, List.set_cons_succ]
      refine wpAnyH_take (i := 10) (oi := _) (v := .pointer (some ⟨s, 0, none⟩)) rfl (by kernel_rfl) (by kernel_rfl) (by kernel_rfl) (fun _ _ _ h => h) (Or.inl ⟨by rfl, ?_⟩) (by assumption) ?_
      · intro W hSw
        try dsimp only at hSw
        go_simp
      try simp only [Act.put, List.getElem_toArray, List.getElem_cons_succ, List.getElem_cons_zero, List.setIfInBounds_toArray, List.set_cons_zero, List.set_cons_succ]
      refine wpAnyH_take (i := 12) (oi := _) (v := .int .u64 n) rfl (by kernel_rfl) (by kernel_rfl) (by kernel_rfl) (fun _ _ _ h => h) (Or.inl ⟨by rfl, ?_⟩) (by assumption) ?_
      · intro W hSw
        try dsimp only at hSw
        go_simp
      try simp only [Act.put, List.getElem_toArray, List.getElem_cons_succ, List.getElem_cons_zero, List.setIfInBounds_toArray, List.set_cons_zero, List.set_cons_succ]
      refine wpAnyH_ready (rs := [4, 11]) (by kernel_rfl) (by simp) ?_
      refine AllReadyH.cons (o := _) rfl (fun K hK => ?_) (AllReadyH.cons (o := _) rfl (fun K hK => ?_) AllReadyH.nil)
      · go_simp
        refine hK.out _ _ ((HS.out _ hH0).1) (fun hHeld => ?_)
        clear hK K
        try simp only [Act.put, List.getElem_toArray, List.getElem_cons_succ, List.getElem_cons_zero, List.setIfInBounds_toArray, List.set_cons_zero, List.set_cons_succ]
        refine wpAnyH_take (i := 6) (oi := _) (v := .slice a1 n c1) rfl (by kernel_rfl) (by kernel_rfl) (by kernel_rfl) (fun _ _ _ h => h) (Or.inl ⟨by rfl, ?_⟩) (by assumption) ?_
        · intro W hSw
          try dsimp only at hSw
          go_simp
        try simp only [Act.put, List.getElem_toArray, List.getElem_cons_succ, List.getElem_cons_zero, List.setIfInBounds_toArray, List.set_cons_zero, List.set_cons_succ]
        refine wpAnyH_ready (rs := [7, 11]) (by kernel_rfl) (by simp) ?_
        refine AllReadyH.cons (o := _) rfl (fun K hK => ?_) (AllReadyH.cons (o := _) rfl (fun K hK => ?_) AllReadyH.nil)
        · go_simp
          refine (CC.out _ hH0).mono ?_
          rintro e w7 ⟨v7, rfl, ho7, hb7⟩
          obtain ⟨q7, k7, e7, -, -⟩ := ho7.row
          subst e7
          rw [HTL.out]
          have h27 := hH0.trans (hb7.mono hH0.size)
          have q7' := (HS.out _ h27).2
          refine hK.out _ _ ((HS.out _ h27).1) (fun hHeld => ?_)
          clear hK K
          try simp only [Act.put, List.getElem_toArray, List.getElem_cons_succ, List.getElem_cons_zero, List.setIfInBounds_toArray, List.set_cons_zero, List.set_cons_succ]
          refine wpAnyH_ready (rs := [11]) (by kernel_rfl) (by simp) ?_
          refine AllReadyH.cons (o := _) rfl (fun K hK => ?_) AllReadyH.nil
          go_simp
          refine hK.out _ _ ((HS.out _ h27).1) (fun hHeld => ?_)
          clear hK K
          try simp only [Act.put, List.getElem_toArray, List.getElem_cons_succ, List.getElem_cons_zero, List.setIfInBounds_toArray, List.set_cons_zero, List.set_cons_succ]
          refine wpAnyH_take (i := 13) (oi := _) (v := .slice A1 n2 k2) rfl (by kernel_rfl) (by kernel_rfl) (by kernel_rfl) (fun _ _ _ h => h) (Or.inl ⟨by rfl, ?_⟩) (by assumption) ?_
          · intro W hSw
            try dsimp only at hSw
            go_simp
          try simp only [Act.put, List.getElem_toArray, List.getElem_cons_succ, List.getElem_cons_zero, List.setIfInBounds_toArray, List.set_cons_zero, List.set_cons_succ]
          refine wpAnyH_ready (rs := [14]) (by kernel_rfl) (by simp) ?_
          refine AllReadyH.cons (o := _) rfl (fun K hK => ?_) AllReadyH.nil
          have hc7 := HC2.out.ext h27
          have f7 := hc7.f
          have c7' := hc7.c
          have s7 := hc7.lt
          go_simp
          refine hK.out _ _ (cell_mut ((HS.out _ h27).1) (mut1 (s := g2)) H02.out) (fun hHeld => ?_)
          clear hK K
          try simp only [Act.put, List.getElem_toArray, List.getElem_cons_succ, List.getElem_cons_zero, List.setIfInBounds_toArray, List.set_cons_zero, List.set_cons_succ]
          refine wpAnyH_take (i := 15) (oi := _) (v := .pointer (some ⟨s, 0, none⟩)) rfl (by kernel_rfl) (by kernel_rfl) (by kernel_rfl) (fun _ _ _ h => h) (Or.inl ⟨by rfl, ?_⟩) (by assumption) ?_
          · intro W hSw
            try dsimp only at hSw
            go_simp
          try simp only [Act.put, List.getElem_toArray, List.getElem_cons_succ, List.getElem_cons_zero, List.setIfInBounds_toArray, List.set_cons_zero, List.set_cons_succ]
          refine wpAnyH_take (i := 16) (oi := _) (v := .pointer (some ⟨s, 0, none⟩)) rfl (by kernel_rfl) (by kernel_rfl) (by kernel_rfl) (fun _ _ _ h => h) (Or.inl ⟨by rfl, ?_⟩) (by assumption) ?_
          · intro W hSw
            try dsimp only at hSw
            go_simp
          try simp only [Act.put, List.getElem_toArray, List.getElem_cons_succ, List.getElem_cons_zero, List.setIfInBounds_toArray, List.set_cons_zero, List.set_cons_succ]
          refine wpAnyH_ready (rs := [17]) (by kernel_rfl) (by simp) ?_
          refine AllReadyH.cons (o := _) rfl (fun K hK => ?_) AllReadyH.nil
          have hR7 := HR1.out.ext h27
          have hR14 := hR7.mutT (G := fun k => k = g2) (mut1 (s := g2) (i := 0) (v := .slice q7 n k7)) (fun k e => by rw [e]; exact hs)
          have r14 := hR14.c0
          have f14 := hR14.f0
          have hr2 := hR14.row.cut (k := n) (c := c1) (by rw [HLN.out]; exact hcap)
          have hf2 := hR14.row.cutA (k := n) (c := c1) hR14.far
          rw [HA1.out] at hr2 hf2
          have hdl : (S1.b.drop n).length = n2 := by rw [List.length_drop, HLN.out, HN2.out]
          have hk2 := HK2.out
          have hn2 := HN2.out
          have hP : RdIs ((w7.setCell ⟨g2, 0, none⟩ (.slice q7 n k7)).setCell ⟨s, 0, none⟩ (.slice A1 n2 k2)) s A1 k2 ⟨S1.b.drop n, S1.e⟩ := hR14.put hdl.symm hr2 hf2 (by omega) (fun b hb => HR1.out.byt b (List.mem_of_mem_drop hb)) (by have := HN2.out; omega)
          rw [HHE.out] at hP
          have hc14 : Cell1 (w7.setCell ⟨g2, 0, none⟩ (.slice q7 n k7)) g2 (.slice q7 n k7) := ⟨World.cell?_setCell_same _ _ _ c7', by simp [f7]⟩
          have ho14 := (ho7.mono (b' := w.heap.size) hw1s).mutT (mut1 (s := g2) (i := 0) (v := .slice q7 (S1.b.take n).length k7)) (fun k e => by rw [e]; exact hsz2)
          rw [HTL.out] at ho14
          have hm14 : Mut (fun k => k = s ∨ k = g2) w ((w7.setCell ⟨g2, 0, none⟩ (.slice q7 n k7)).setCell ⟨s, 0, none⟩ (.slice A1 n2 k2)) := (HM1.out.trans (Mut.of_below h27)).trans ((mut1.mono (fun k _ e => .inr e)).trans (mut1.mono (fun k _ e => .inl e)))
          go_simp
          refine hK.out _ _ (cell_mut (cell_mut ((HS.out _ h27).1) (mut1 (s := g2)) H02.out) (mut1 (s := s)) H0S.out) (fun hHeld => ?_)
          clear hK K
          try simp only [Act.put, List.getElem_toArray, List.getElem_cons_succ, List.getElem_cons_zero, List.setIfInBounds_toArray, List.set_cons_zero, List.set_cons_succ]
          refine wpAnyH_done (by kernel_rfl) ?_ _
          go_wp2
          exact bodyPost_end (results_none rfl _ _ _) rfl ⟨rfl, ⟨A1, k2, by rw [HEND.out.2]; exact hP⟩, ⟨_, hc14.mutT (G := fun k => k = s) mut1 HG.out, by rw [HEND.out.1]; exact ho14.mutT (mut1 (s := s)) (fun k e => by rw [e]; exact hR.lt)⟩, hm14⟩
        · go_simp
          refine hK.out _ _ ((HS.out _ hH0).1) (fun hHeld => ?_)
          clear hK K
          try simp only [Act.put, List.getElem_toArray, List.getElem_cons_succ, List.getElem_cons_zero, List.setIfInBounds_toArray, List.set_cons_zero, List.set_cons_succ]
          refine wpAnyH_take (i := 13) (oi := _) (v := .slice A1 n2 k2) rfl (by kernel_rfl) (by kernel_rfl) (by kernel_rfl) (fun _ _ _ h => h) (Or.inl ⟨by rfl, ?_⟩) (by assumption) ?_
          · intro W hSw
            try dsimp only at hSw
            go_simp
          try simp only [Act.put, List.getElem_toArray, List.getElem_cons_succ, List.getElem_cons_zero, List.setIfInBounds_toArray, List.set_cons_zero, List.set_cons_succ]
          refine wpAnyH_ready (rs := [7]) (by kernel_rfl) (by simp) ?_
          refine AllReadyH.cons (o := _) rfl (fun K hK => ?_) AllReadyH.nil
          go_simp
          refine (CC.out _ hH0).mono ?_
          rintro e w7 ⟨v7, rfl, ho7, hb7⟩
          obtain ⟨q7, k7, e7, -, -⟩ := ho7.row
          subst e7
          rw [HTL.out]
          have h27 := hH0.trans (hb7.mono hH0.size)
          have q7' := (HS.out _ h27).2
          refine hK.out _ _ ((HS.out _ h27).1) (fun hHeld => ?_)
          clear hK K
          try simp only [Act.put, List.getElem_toArray, List.getElem_cons_succ, List.getElem_cons_zero, List.setIfInBounds_toArray, List.set_cons_zero, List.set_cons_succ]
          refine wpAnyH_ready (rs := [14]) (by kernel_rfl) (by simp) ?_
          refine AllReadyH.cons (o := _) rfl (fun K hK => ?_) AllReadyH.nil
          have hc7 := HC2.out.ext h27
          have f7 := hc7.f
          have c7' := hc7.c
          have s7 := hc7.lt
          go_simp
          refine hK.out _ _ (cell_mut ((HS.out _ h27).1) (mut1 (s := g2)) H02.out) (fun hHeld => ?_)
          clear hK K
          try simp only [Act.put, List.getElem_toArray, List.getElem_cons_succ, List.getElem_cons_zero, List.setIfInBounds_toArray, List.set_cons_zero, List.set_cons_succ]
          refine wpAnyH_take (i := 15) (oi := _) (v := .pointer (some ⟨s, 0, none⟩)) rfl (by kernel_rfl) (by kernel_rfl) (by kernel_rfl) (fun _ _ _ h => h) (Or.inl ⟨by rfl, ?_⟩) (by assumption) ?_
          · intro W hSw
            try dsimp only at hSw
            go_simp
          try simp only [Act.put, List.getElem_toArray, List.getElem_cons_succ, List.getElem_cons_zero, List.setIfInBounds_toArray, List.set_cons_zero, List.set_cons_succ]
          refine wpAnyH_take (i := 16) (oi := _) (v := .pointer (some ⟨s, 0, none⟩)) rfl (by kernel_rfl) (by kernel_rfl) (by kernel_rfl) (fun _ _ _ h => h) (Or.inl ⟨by rfl, ?_⟩) (by assumption) ?_
          · intro W hSw
            try dsimp only at hSw
            go_simp
          try simp only [Act.put, List.getElem_toArray, List.getElem_cons_succ, List.getElem_cons_zero, List.setIfInBounds_toArray, List.set_cons_zero, List.set_cons_succ]
          refine wpAnyH_ready (rs := [17]) (by kernel_rfl) (by simp) ?_
          refine AllReadyH.cons (o := _) rfl (fun K hK => ?_) AllReadyH.nil
          have hR7 := HR1.out.ext h27
          have hR14 := hR7.mutT (G := fun k => k = g2) (mut1 (s := g2) (i := 0) (v := .slice q7 n k7)) (fun k e => by rw [e]; exact hs)
          have r14 := hR14.c0
          have f14 := hR14.f0
          have hr2 := hR14.row.cut (k := n) (c := c1) (by rw [HLN.out]; exact hcap)
          have hf2 := hR14.row.cutA (k := n) (c := c1) hR14.far
          rw [HA1.out] at hr2 hf2
          have hdl : (S1.b.drop n).length = n2 := by rw [List.length_drop, HLN.out, HN2.out]
          have hk2 := HK2.out
          have hn2 := HN2.out
          have hP : RdIs ((w7.setCell ⟨g2, 0, none⟩ (.slice q7 n k7)).setCell ⟨s, 0, none⟩ (.slice A1 n2 k2)) s A1 k2 ⟨S1.b.drop n, S1.e⟩ := hR14.put hdl.symm hr2 hf2 (by omega) (fun b hb => HR1.out.byt b (List.mem_of_mem_drop hb)) (by have := HN2.out; omega)
          rw [HHE.out] at hP
          have hc14 : Cell1 (w7.setCell ⟨g2, 0, none⟩ (.slice q7 n k7)) g2 (.slice q7 n k7) := ⟨World.cell?_setCell_same _ _ _ c7', by simp [f7]⟩
          have ho14 := (ho7.mono (b' := w.heap.size) hw1s).mutT (mut1 (s := g2) (i := 0) (v := .slice q7 (S1.b.take n).length k7)) (fun k e => by rw [e]; exact hsz2)
          rw [HTL.out] at ho14
          have hm14 : Mut (fun k => k = s ∨ k = g2) w ((w7.setCell ⟨g2, 0, none⟩ (.slice q7 n k7)).setCell ⟨s, 0, none⟩ (.slice A1 n2 k2)) := (HM1.out.trans (Mut.of_below h27)).trans ((mut1.mono (fun k _ e => .inr e)).trans (mut1.mono (fun k _ e => .inl e)))
          go_simp
          refine hK.out _ _ (cell_mut (cell_mut ((HS.out _ h27).1) (mut1 (s := g2)) H02.out) (mut1 (s := s)) H0S.out) (fun hHeld => ?_)
          clear hK K
          try simp only [Act.put, List.getElem_toArray, List.getElem_cons_succ, List.getElem_cons_zero, List.setIfInBounds_toArray, List.set_cons_zero, List.set_cons_succ]
          refine wpAnyH_done (by kernel_rfl) ?_ _
          go_wp2
          exact bodyPost_end (results_none rfl _ _ _) rfl ⟨rfl, ⟨A1, k2, by rw [HEND.out.2]; exact hP⟩, ⟨_, hc14.mutT (G := fun k => k = s) mut1 HG.out, by rw [HEND.out.1]; exact ho14.mutT (mut1 (s := s)) (fun k e => by rw [e]; exact hR.lt)⟩, hm14⟩
      · go_simp
        refine hK.out _ _ ((HS.out _ hH0).1) (fun hHeld => ?_)
        clear hK K
        try simp only [Act.put, List.getElem_toArray, List.getElem_cons_succ, List.getElem_cons_zero, List.setIfInBounds_toArray, List.set_cons_zero, List.set_cons_succ]
        refine wpAnyH_take (i := 13) (oi := _) (v := .slice A1 n2 k2) rfl (by kernel_rfl) (by kernel_rfl) (by kernel_rfl) (fun _ _ _ h => h) (Or.inl ⟨by rfl, ?_⟩) (by assumption) ?_
        · intro W hSw
          try dsimp only at hSw
          go_simp
        try simp only [Act.put, List.getElem_toArray, List.getElem_cons_succ, List.getElem_cons_zero, List.setIfInBounds_toArray, List.set_cons_zero, List.set_cons_succ]
        refine wpAnyH_ready (rs := [4]) (by kernel_rfl) (by simp) ?_
        refine AllReadyH.cons (o := _) rfl (fun K hK => ?_) AllReadyH.nil
        go_simp
        refine hK.out _ _ ((HS.out _ hH0).1) (fun hHeld => ?_)
        clear hK K
        try simp only [Act.put, List.getElem_toArray, List.getElem_cons_succ, List.getElem_cons_zero, List.setIfInBounds_toArray, List.set_cons_zero, List.set_cons_succ]
        refine wpAnyH_take (i := 6) (oi := _) (v := .slice a1 n c1) rfl (by kernel_rfl) (by kernel_rfl) (by kernel_rfl) (fun _ _ _ h => h) (Or.inl ⟨by rfl, ?_⟩) (by assumption) ?_
        · intro W hSw
          try dsimp only at hSw
          go_simp
        try simp only [Act.put, List.getElem_toArray, List.getElem_cons_succ, List.getElem_cons_zero, List.setIfInBounds_toArray, List.set_cons_zero, List.set_cons_succ]
        refine wpAnyH_ready (rs := [7]) (by kernel_rfl) (by simp) ?_
        refine AllReadyH.cons (o := _) rfl (fun K hK => ?_) AllReadyH.nil
        go_simp
        refine (CC.out _ hH0).mono ?_
        rintro e w7 ⟨v7, rfl, ho7, hb7⟩
        obtain ⟨q7, k7, e7, -, -⟩ := ho7.row
        subst e7
        rw [HTL.out]
        have h27 := hH0.trans (hb7.mono hH0.size)
        have q7' := (HS.out _ h27).2
        refine hK.out _ _ ((HS.out _ h27).1) (fun hHeld => ?_)
        clear hK K
        try simp only [Act.put, List.getElem_toArray, List.getElem_cons_succ, List.getElem_cons_zero, List.setIfInBounds_toArray, List.set_cons_zero, List.set_cons_succ]
        refine wpAnyH_ready (rs := [14]) (by kernel_rfl) (by simp) ?_
        refine AllReadyH.cons (o := _) rfl (fun K hK => ?_) AllReadyH.nil
        have hc7 := HC2.out.ext h27
        have f7 := hc7.f
        have c7' := hc7.c
        have s7 := hc7.lt
        go_simp
        refine hK.out _ _ (cell_mut ((HS.out _ h27).1) (mut1 (s := g2)) H02.out) (fun hHeld => ?_)
        clear hK K
        try simp only [Act.put, List.getElem_toArray, List.getElem_cons_succ, List.getElem_cons_zero, List.setIfInBounds_toArray, List.set_cons_zero, List.set_cons_succ]
        refine wpAnyH_take (i := 15) (oi := _) (v := .pointer (some ⟨s, 0, none⟩)) rfl (by kernel_rfl) (by kernel_rfl) (by kernel_rfl) (fun _ _ _ h => h) (Or.inl ⟨by rfl, ?_⟩) (by assumption) ?_
        · intro W hSw
          try dsimp only at hSw
          go_simp
        try simp only [Act.put, List.getElem_toArray, List.getElem_cons_succ, List.getElem_cons_zero, List.setIfInBounds_toArray, List.set_cons_zero, List.set_cons_succ]
        refine wpAnyH_take (i := 16) (oi := _) (v := .pointer (some ⟨s, 0, none⟩)) rfl (by kernel_rfl) (by kernel_rfl) (by kernel_rfl) (fun _ _ _ h => h) (Or.inl ⟨by rfl, ?_⟩) (by assumption) ?_
        · intro W hSw
          try dsimp only at hSw
          go_simp
        try simp only [Act.put, List.getElem_toArray, List.getElem_cons_succ, List.getElem_cons_zero, List.setIfInBounds_toArray, List.set_cons_zero, List.set_cons_succ]
        refine wpAnyH_ready (rs := [17]) (by kernel_rfl) (by simp) ?_
        refine AllReadyH.cons (o := _) rfl (fun K hK => ?_) AllReadyH.nil
        have hR7 := HR1.out.ext h27
        have hR14 := hR7.mutT (G := fun k => k = g2) (mut1 (s := g2) (i := 0) (v := .slice q7 n k7)) (fun k e => by rw [e]; exact hs)
        have r14 := hR14.c0
        have f14 := hR14.f0
        have hr2 := hR14.row.cut (k := n) (c := c1) (by rw [HLN.out]; exact hcap)
        have hf2 := hR14.row.cutA (k := n) (c := c1) hR14.far
        rw [HA1.out] at hr2 hf2
        have hdl : (S1.b.drop n).length = n2 := by rw [List.length_drop, HLN.out, HN2.out]
        have hk2 := HK2.out
        have hn2 := HN2.out
        have hP : RdIs ((w7.setCell ⟨g2, 0, none⟩ (.slice q7 n k7)).setCell ⟨s, 0, none⟩ (.slice A1 n2 k2)) s A1 k2 ⟨S1.b.drop n, S1.e⟩ := hR14.put hdl.symm hr2 hf2 (by omega) (fun b hb => HR1.out.byt b (List.mem_of_mem_drop hb)) (by have := HN2.out; omega)
        rw [HHE.out] at hP
        have hc14 : Cell1 (w7.setCell ⟨g2, 0, none⟩ (.slice q7 n k7)) g2 (.slice q7 n k7) := ⟨World.cell?_setCell_same _ _ _ c7', by simp [f7]⟩
        have ho14 := (ho7.mono (b' := w.heap.size) hw1s).mutT (mut1 (s := g2) (i := 0) (v := .slice q7 (S1.b.take n).length k7)) (fun k e => by rw [e]; exact hsz2)
        rw [HTL.out] at ho14
        have hm14 : Mut (fun k => k = s ∨ k = g2) w ((w7.setCell ⟨g2, 0, none⟩ (.slice q7 n k7)).setCell ⟨s, 0, none⟩ (.slice A1 n2 k2)) := (HM1.out.trans (Mut.of_below h27)).trans ((mut1.mono (fun k _ e => .inr e)).trans (mut1.mono (fun k _ e => .inl e)))
        go_simp
        refine hK.out _ _ (cell_mut (cell_mut ((HS.out _ h27).1) (mut1 (s := g2)) H02.out) (mut1 (s := s)) H0S.out) (fun hHeld => ?_)
        clear hK K
        try simp only [Act.put, List.getElem_toArray, List.getElem_cons_succ, List.getElem_cons_zero, List.setIfInBounds_toArray, List.set_cons_zero, List.set_cons_succ]
        refine wpAnyH_done (by kernel_rfl) ?_ _
        go_wp2
        exact bodyPost_end (results_none rfl _ _ _) rfl ⟨rfl, ⟨A1, k2, by rw [HEND.out.2]; exact hP⟩, ⟨_, hc14.mutT (G := fun k => k = s) mut1 HG.out, by rw [HEND.out.1]; exact ho14.mutT (mut1 (s := s)) (fun k e => by rw [e]; exact hR.lt)⟩, hm14⟩
  · have hn0 := rNum_bad hx.out he
    have t1 : decide ((n : Int) > (ln : Int)) = false := by simp <;> omega
    have t2 : decide ((ln : Int) < (n : Int)) = false := by simp <;> omega
    have t3 : decide (ln < n) = false := by simp <;> omega
    have t4 : ((S1.e : Int) == 0) = false := by simp; omega
    have HEND : Hid (L = [] ∧ S2 = S1) := hid (by
      have := hL.out
      unfold rBytesC at this
      rw [if_pos he] at this
      cases this; exact ⟨rfl, rfl⟩)
    clear he hn0
    go_wp2
    exact bodyPost_end (results_none rfl _ _ _) rfl ⟨rfl, ⟨a1, c1, by rw [HEND.out.2]; exact HR1.out⟩, ⟨_, HC2.out, by rw [HEND.out.1]; exact OwnB.nil _ _⟩, HM1.out⟩

set_option maxRecDepth 100000 in
set_option maxHeartbeats 6400000 in
theorem rBytes_any {s c : Nat} {a : Option Addr} {S : RS} {w : World} (most : Nat) (hm : most ≤ 1000) (hR : RdIs w s a c S) :
    Calls Try.prog 131 #[.pointer (some ⟨s, 0, none⟩), .int .i64 most] w fun e w' => (∃ v, e = .returned v ∧ OwnB w' w.heap.size v (rBytes most S).1) ∧ (∃ a' c', RdIs w' s a' c' (rBytes most S).2) ∧ Mut (fun k => k = s) w w' := by
  have hmf : ∀ (fn : Fn) (first cap : Array Value) (w : World), (Instr.makeFunc fn first cap).run Try.prog w = .ok (.func fn first cap) w := fun _ _ _ _ => rfl
  have hB : Below w.heap.size w (((w.alloc (.cells #[.pointer (some ⟨s, 0, none⟩)] 167)).alloc (.cells #[.int .i64 most] 3)).alloc (.cells #[.slice none 0 0] 42)) := (((Below.refl _ _).alloc (Nat.le_refl _) _).alloc (by simp) _).alloc (by simp; omega) _
  have hR3 := hR.ext hB
  have g0 : (((w.alloc (.cells #[.pointer (some ⟨s, 0, none⟩)] 167)).alloc (.cells #[.int .i64 most] 3)).alloc (.cells #[.slice none 0 0] 42)).cell? ⟨w.heap.size, 0, none⟩ = some (.pointer (some ⟨s, 0, none⟩)) := three0 _ _ _ _ (by simp)
  have g1 : (((w.alloc (.cells #[.pointer (some ⟨s, 0, none⟩)] 167)).alloc (.cells #[.int .i64 most] 3)).alloc (.cells #[.slice none 0 0] 42)).cell? ⟨w.heap.size + 1, 0, none⟩ = some (.int .i64 most) := three1 _ _ _ _ (by simp)
  have g2 : Cell1 (((w.alloc (.cells #[.pointer (some ⟨s, 0, none⟩)] 167)).alloc (.cells #[.int .i64 most] 3)).alloc (.cells #[.slice none 0 0] 42)) (w.heap.size + 1 + 1) (.slice none 0 0) := by
    have := Cell1.made ((w.alloc (.cells #[.pointer (some ⟨s, 0, none⟩)] 167)).alloc (.cells #[.int .i64 most] 3)) 42 (.slice none 0 0)
    simpa using this
  obtain ⟨w3, hw3⟩ : ∃ w3, (((w.alloc (.cells #[.pointer (some ⟨s, 0, none⟩)] 167)).alloc (.cells #[.int .i64 most] 3)).alloc (.cells #[.slice none 0 0] 42)) = w3 := ⟨_, rfl⟩
  rw [hw3] at hB hR3 g0 g1 g2
  have hs := hR.lt
  have hz3 := g2.lt
  by_cases he : S.e = 0
  · obtain ⟨⟨n, S1⟩, h1⟩ : ∃ q, rNum most S = q := ⟨_, rfl⟩
    obtain ⟨⟨L, S2⟩, h2⟩ : ∃ q, rBytesC n S1 = q := ⟨_, rfl⟩
    have HP := hid (rBytes_eq he h1 h2)
    have H1 := hid h1
    have H2 := hid h2
    have H : Hid (∀ W, Below w3.heap.size w3 W → Calls Try.prog 202 #[.pointer (some ⟨w.heap.size, 0, none⟩), .pointer (some ⟨w.heap.size + 1, 0, none⟩), .pointer (some ⟨w.heap.size + 1 + 1, 0, none⟩)] W fun e W' => e = .returned (.tuple #[]) ∧ (∃ a' c', RdIs W' s a' c' S2) ∧ (∃ v', Cell1 W' (w.heap.size + 1 + 1) v' ∧ OwnB W' w3.heap.size v' L) ∧ Mut (fun k => k = s ∨ k = w.heap.size + 1 + 1) W W') := hid fun W h => (bytesC_any H1 H2 hm (hR3.ext h) (cell_toB g0 h) (cell_toB g1 h) (g2.ext h) (by omega) (by omega) (by omega)).mono (fun e W' ⟨q1, q2, ⟨v', q3, q4⟩, q5⟩ => ⟨q1, q2, ⟨v', q3, q4.mono h.size⟩, q5⟩)
    have CW := hid (wholeB_any (G := fun k => k = s ∨ k = w.heap.size + 1 + 1) (Q := fun W => ∃ v', Cell1 W (w.heap.size + 1 + 1) v' ∧ OwnB W w3.heap.size v' L) hR3 he (.inl rfl) (fun k hk => by rcases hk with rfl | rfl <;> omega) H (fun W W' ⟨v', h1, h2⟩ hm => ⟨v', h1.mutT hm (fun e => by have e : w.heap.size + 1 + 1 = s := e; omega), h2.mutT hm (fun k e => by have e : k = s := e; omega)⟩))
    have HB := hid hB
    have HZ3 := hid hz3
    have HP1 : Hid ((rBytes most S).1 = L ∧ (rBytes most S).2 = wholeS S S2) := hid (by rw [HP.out]; exact ⟨rfl, rfl⟩)
    clear h1 h2 g1 g2 he hz3
    subst hw3
    go_enter Try.func131, Try.ntmps131
    go_wp2_with fail
    refine CW.out.mono ?_
    rintro e w4 ⟨rfl, ⟨a4, c4, hR4⟩, ⟨v4, hq4, ho4⟩, hM4⟩
    obtain ⟨q1, k1, hev, hrw, -⟩ := ho4.row
    subst hev
    have z0 := hq4.c
    have z1 := hq4.f
    go_wp2
    have y0 := World.cell?_setCell_same w4 _ (.slice q1 L.length k1) z0
    have hM5 := hM4.trans ((mut1 (s := w.heap.size + 1 + 1) (i := 0) (v := .slice q1 L.length k1)).mono (fun k _ e => .inr e))
    exact bodyPost_ret (v := .slice q1 L.length k1) (by simp [results, Try.results131, go_sem, y0]) rfl ⟨⟨_, rfl, by rw [HP1.out.1]; exact OwnB.mono (ho4.mutT (mut1 (s := w.heap.size + 1 + 1)) (fun k e => by rw [e]; exact HZ3.out)) (by have := HZ3.out; omega)⟩, ⟨a4, c4, by rw [HP1.out.2]; exact hR4.mutT (G := fun k => k = w.heap.size + 1 + 1) mut1 (fun k e => by rw [e]; omega)⟩, hM5.weak HB.out (fun k hk e => by rcases e with e | e; exact e; omega)⟩
  · have HK := hid (rBytes_skip (most := most) he)
    have CW := hid (wholeB_skip (p0 := .pointer (some ⟨w.heap.size, 0, none⟩)) (p1 := .pointer (some ⟨w.heap.size + 1, 0, none⟩)) (p2 := .pointer (some ⟨w.heap.size + 1 + 1, 0, none⟩)) hR3 he)
    have HG2 := hid g2
    have HB := hid hB
    clear g1 g2 he hz3
    subst hw3
    go_enter Try.func131, Try.ntmps131
    go_wp2_with fail
    refine CW.out.mono ?_
    rintro e w4 ⟨rfl, hb4⟩
    have hq4 := HG2.out.ext hb4
    have z0 := hq4.c
    have z1 := hq4.f
    have hR4 := hR3.ext hb4
    go_wp2
    have y0 := World.cell?_setCell_same w4 _ (.slice none 0 0) z0
    have hb5 := HB.out.trans (hb4.mono HB.out.size)
    exact bodyPost_ret (v := .slice none 0 0) (by simp [results, Try.results131, go_sem, y0]) rfl ⟨⟨_, rfl, by rw [HK.out]; exact OwnB.nil _ _⟩, ⟨a, c, by rw [HK.out]; exact hR4.mutT (G := fun k => k = w.heap.size + 1 + 1) mut1 (fun k e => by rw [e]; omega)⟩, (mut1 (s := w.heap.size + 1 + 1)).weak hb5 (fun k hk e => by have e : k = w.heap.size + 1 + 1 := e; omega)⟩
theorem rBytes_is {s c : Nat} {a : Option Addr} {S S1 : RS} {L : List Nat} {w : World} {z : Int} (most : Nat) (hz : z = (most : Int)) (hx : Hid (rBytes most S = (L, S1))) (hm : most ≤ 1000) (hR : RdIs w s a c S) :
    Calls Try.prog 131 #[.pointer (some ⟨s, 0, none⟩), .int .i64 z] w fun e w' => (∃ v, e = .returned v ∧ OwnB w' w.heap.size v L) ∧ (∃ a' c', RdIs w' s a' c' S1) ∧ Mut (fun k => k = s) w w' := by
  subst hz
  have := rBytes_any most hm hR
  rw [hx.out] at this; exact this
end Go.Proofs.Ytbpfhclcjedkcaa

