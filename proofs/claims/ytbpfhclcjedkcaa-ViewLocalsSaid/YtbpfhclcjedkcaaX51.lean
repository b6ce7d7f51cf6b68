import Derived.Test.YtbpfhclcjedkcaaX50
namespace Go.Proofs.Ytbpfhclcjedkcaa
open Go.RowKit

/-! ### the reference's local view -/
theorem run_cut1 {b off n c k : Nat} (h : k + 1 ≤ c) (W : World) : (Instr.slice 31 (.slice (some ⟨b, off, none⟩) n c) (some (.int .i64 k)) (some (.int .i64 ((k : Int) + 1))) none).run Try.prog W = .ok (.slice (some ⟨b, off + k, none⟩) 1 (c - k)) W := by
  have hs : ∀ W, (sizeOf 30).run Try.prog W = .ok 1 W := fun W => Try.sizeOf30 W
  have e : ((k : Int) + 1) = ((k + 1 : Nat) : Int) := by omega
  have hck : ¬ c = k := by omega
  rw [e]
  have h2 : k ≤ k + 1 := by omega
  simp [Instr.slice, run_underlying Try.underlying31, Instr.sliceBounds, run_sliceBound, hs, Result.andThen, h, h2, hck, addr_add, -Int.natCast_add]
theorem refCheck_z {V : View} {i nm nl nd : Nat} {am al ad : Option Addr} {cm cl cd : Nat} {w : World} {bm : Bool} (h : Hid (checkB V = bm)) (hwf : WfPids V.ms) (hi : V.id = (i : Int)) (hnm : Hid (V.ms.length = nm)) (hnl : Hid (V.ls.length = nl)) (hnd : Hid (V.ds.length = nd)) (hV : ViewR w am al ad V) (hsum : lens V.ls ≤ 549755813888) :
   Calls Try.prog 74 #[.agg #[.int .u64 i, .slice am nm cm, .slice al nl cl, .slice ad nd cd]] w fun e w' => e = .returned (.bool bm) ∧ Below w.heap.size w w' := by
  have := refCheck_is (cm := cm) (cl := cl) (cd := cd) (hid ((check_eq V hwf).symm.trans h.out)) hV hsum
  rw [hi, hnm.out, hnl.out, hnd.out] at this
  exact this
set_option maxRecDepth 100000 in
set_option maxHeartbeats 6400000 in
theorem localR_any {V L : View} {i nm nl nd : Nat} {am al ad : Option Addr} {cm cl cd : Nat} {x y : Int} {w0 w : World} (hL : Hid (localV V (x, y) = L)) (hwf : WfPids V.ms) (hi : V.id = (i : Int)) (hnm : Hid (V.ms.length = nm)) (hnl : Hid (V.ls.length = nl)) (hnd : Hid (V.ds.length = nd)) (hcl : nl ≤ cl) (hV0 : ViewR w0 am al ad V) (h0 : Below w0.heap.size w0 w) (hsum : lens V.ls ≤ 549755813888) :
   Calls Try.prog 21 #[.agg #[.int .u64 i, .slice am nm cm, .slice al nl cl, .slice ad nd cd], .agg #[.int .u16 x, .int .u32 y]] w fun e w' => ∃ (qm ql qd : Option Addr) (km kl kd : Nat), e = .returned (.agg #[.int .u64 L.id, .slice qm L.ms.length km, .slice ql L.ls.length kl, .slice qd L.ds.length kd]) ∧ (∀ W', Below w0.heap.size w0 W' → ViewR W' qm ql qd L) ∧ Below w.heap.size w w' := by
  obtain ⟨W3, hW3⟩ : ∃ W3, (((w.alloc (.cells #[.int .u64 i, .slice am nm cm, .slice al nl cl, .slice ad nd cd] 33)).alloc (.cells #[.int .u16 x, .int .u32 y] 26)).alloc (.cells #[.int .u64 0, .slice none 0 0, .slice none 0 0, .slice none 0 0] 33)) = W3 := ⟨_, rfl⟩
  have hV := hV0.ext h0
  have hB3 : Below w.heap.size w W3 := by rw [← hW3]; exact (((Below.refl _ _).alloc (Nat.le_refl _) _).alloc (by simp) _).alloc (by simp; omega) _
  have hz3 : W3.heap.size = w.heap.size + 1 + 1 + 1 := by rw [← hW3]; simp
  have hv : BoxV W3 w.heap.size (.int .u64 i) (.slice am nm cm) (.slice al nl cl) (.slice ad nd cd) := by
    rw [← hW3]; exact ((BoxV.made w _ _ _ _ _).ext ((Below.refl _ _).alloc (Nat.le_refl _) _)).ext ((Below.refl _ _).alloc (Nat.le_refl _) _)
  have p0 : W3.cell? ⟨w.heap.size + 1, 0, none⟩ = some (.int .u16 x) := by
    have h : ((w.alloc (.cells #[.int .u64 i, .slice am nm cm, .slice al nl cl, .slice ad nd cd] 33)).alloc (.cells #[.int .u16 x, .int .u32 y] 26)).cell? ⟨w.heap.size + 1, 0, none⟩ = some (.int .u16 x) := by simp
    rw [← hW3]; exact cell_toB h ((Below.refl _ _).alloc (Nat.le_refl _) _)
  have p1 : W3.cell? ⟨w.heap.size + 1, 1, none⟩ = some (.int .u32 y) := by
    have h : ((w.alloc (.cells #[.int .u64 i, .slice am nm cm, .slice al nl cl, .slice ad nd cd] 33)).alloc (.cells #[.int .u16 x, .int .u32 y] 26)).cell? ⟨w.heap.size + 1, 1, none⟩ = some (.int .u32 y) := by simp
    rw [← hW3]; exact cell_toB h ((Below.refl _ _).alloc (Nat.le_refl _) _)
  have hr : BoxV W3 (w.heap.size + 1 + 1) (.int .u64 0) (.slice none 0 0) (.slice none 0 0) (.slice none 0 0) := by
    rw [← hW3]
    have := BoxV.made ((w.alloc (.cells #[.int .u64 i, .slice am nm cm, .slice al nl cl, .slice ad nd cd] 33)).alloc (.cells #[.int .u16 x, .int .u32 y] 26)) 33 (.int .u64 0) (.slice none 0 0) (.slice none 0 0) (.slice none 0 0)
    simpa using this
  have hV3 := hV.ext hB3
  obtain ⟨A, hA⟩ : ∃ A, leafIx V.ls (x, y) = A := ⟨_, rfl⟩
  have LF := hid (refLeaf_z (cm := cm) (cl := cl) (cd := cd) (hid hA) hi hnm hnl hnd hV3)
  obtain ⟨ck, hck⟩ : ∃ b, checkB V = b := ⟨_, rfl⟩
  have CK : Hid (∀ W, Below W3.heap.size W3 W → Calls Try.prog 74 #[.agg #[.int .u64 i, .slice am nm cm, .slice al nl cl, .slice ad nd cd]] W fun e w' => e = .returned (.bool ck) ∧ Below W3.heap.size W3 w') := hid fun W h => relB h (refCheck_z (cm := cm) (cl := cl) (cd := cd) (hid hck) hwf hi hnm hnl hnd (hV3.ext h) hsum)
  have XV : Hid (∀ W, Below W3.heap.size W3 W → BoxV W w.heap.size (.int .u64 i) (.slice am nm cm) (.slice al nl cl) (.slice ad nd cd)) := hid fun W h => hv.ext h
  have XR : Hid (∀ W, Below W3.heap.size W3 W → BoxV W (w.heap.size + 1 + 1) (.int .u64 0) (.slice none 0 0) (.slice none 0 0) (.slice none 0 0)) := hid fun W h => hr.ext h
  obtain ⟨a0, a1, a2, a3, -, -, -, -⟩ := id hv
  have HB3 := hid hB3
  have HZ3 := hid hz3
  have HV0 := hid hV0
  have H00 := hid h0
  rcases localV_kinds V (x, y) with ⟨eL, hno⟩ | ⟨k, l, hc, hk, hl, hp, eL⟩
  · have HL := hid (hL.out.symm.trans eL)
    have HNO : Hid ((ck = false) ∨ (ck = true ∧ decide (A < 0) = true)) := hid (by
      rcases hno with h | h
      · left; rw [← hck, h]
      · rw [hA] at h
        cases ck
        · left; rfl
        · right; exact ⟨rfl, by simpa using h⟩)
    clear eL hno hL hck hA hv hr hB3 hz3 hV3 hV hsum hi hV0 h0 hwf
    go_enter Try.func21, Try.ntmps21
    go_wp2_with fail
    (with_reducible refine LF.out.mono ?_)
    rintro e w4 ⟨rfl, hb4⟩
    clear a0 a1 a2 a3 p0 p1 LF
    obtain ⟨a0, a1, a2, a3, -, -, -, -⟩ := XV.out _ hb4
    go_wp2_with fail
    (with_reducible refine (CK.out _ hb4).mono ?_)
    rintro e w5 ⟨rfl, hb5⟩
    clear a0 a1 a2 a3 hW3
    obtain ⟨d0, d1, d2, d3, g0, g1, g2, g3⟩ := XR.out _ hb5
    have DD := hid ((XR.out _ hb5).put (.int .u64 0) (.slice none 0 0) (.slice none 0 0) (.slice none 0 0))
    have hz := HZ3.out
    rcases HNO.out with rfl | ⟨rfl, t1⟩
    · go_wp2_with fail
      obtain ⟨q0, q1, q2, q3, -, -, -, -⟩ := DD.out
      exact bodyPost_ret (v := .agg #[.int .u64 0, .slice none 0 0, .slice none 0 0, .slice none 0 0]) (by simp [results, Try.results21, go_sem, q0, q1, q2, q3]) rfl
        ⟨none, none, none, 0, 0, 0, by rw [HL.out]; rfl, by rw [HL.out]; exact fun W' _ => (Stab.zero 0 W').r, below_put4 (HB3.out.trans (hb5.mono HB3.out.size)) (by omega)⟩
    · go_wp2_with fail
      obtain ⟨q0, q1, q2, q3, -, -, -, -⟩ := DD.out
      exact bodyPost_ret (v := .agg #[.int .u64 0, .slice none 0 0, .slice none 0 0, .slice none 0 0]) (by simp [results, Try.results21, go_sem, q0, q1, q2, q3]) rfl
        ⟨none, none, none, 0, 0, 0, by rw [HL.out]; rfl, by rw [HL.out]; exact fun W' _ => (Stab.zero 0 W').r, below_put4 (HB3.out.trans (hb5.mono HB3.out.size)) (by omega)⟩
  · have HL := hid (hL.out.symm.trans eL)
    have hkA : A = (k : Int) := hA.symm.trans hk
    subst hkA
    have hck2 : ck = true := hck.symm.trans hc
    subst hck2
    have t1 : decide ((k : Int) < 0) = false := by simp
    have hkl : k < V.ls.length := (List.getElem?_eq_some_iff.1 hl).1
    have hkn : k < nl := by rw [← hnl.out]; exact hkl
    obtain ⟨b, off, ai, ci, l', hal, hx, d1, d2⟩ := hV0.ls.at (Below.refl _ _) rfl hkl
    have hll : l' = l := by rw [hx]; exact (List.getElem?_eq_some_iff.1 hl).2
    subst hll
    subst hal
    have hln : l'.length ≤ 70368744177664 := hV0.le l' (List.mem_of_getElem? hl)
    obtain ⟨n, hn⟩ : ∃ n, l'.length = n := ⟨_, rfl⟩
    have hkn2 : k < 9223372036854775000 := by have := hV0.ll; omega
    have ew : IntKind.i64.wrap ((k : Int) + 1) = (k : Int) + 1 := by rw [IntKind.wrap_i64] <;> omega
    have hcut := fun W => run_cut1 (b := b) (off := off) (n := nl) (c := cl) (k := k) (by omega) W
    have hres : ∀ W', Below w0.heap.size w0 W' → ViewR W' ai (some ⟨b, off + k, none⟩) ai ⟨V.id, l', [l'], l'⟩ := fun W' h => by
      have hb : b < w0.heap.size := World.block_lt_of_cell? (a := ⟨b, off + k, none⟩) _ d1
      refine ⟨d2.ext h, .inr ⟨b, off + k, rfl, by have := h.size; omega, fun j hj => ?_⟩, d2.ext h, hln, by simp, hln, fun m hm => by
        have : m = l' := by simpa using hm
        subst this; exact hln⟩
      have : j = 0 := by simpa using hj
      subst this
      exact ⟨ai, ci, cell_toB d1 h, d2.ext h⟩
    have HRES := hid hres
    have HBK : Hid (b < w.heap.size) := hid (Nat.lt_of_lt_of_le (World.block_lt_of_cell? (a := ⟨b, off + k, none⟩) _ d1) h0.size)
    have HD1 : Hid (∀ W, Below W3.heap.size W3 W → W.cell? ⟨b, off + k, none⟩ = some (.slice ai n ci)) := hid fun W h => by rw [← hn]; exact cell_toB d1 ((h0.trans (hB3.mono h0.size)).trans (h.mono (by have := h0.size; have := hB3.size; omega)))
    have HN := hid hn
    have HI := hid hi
    clear eL hL hck hA hv hr hB3 hz3 hV3 hV hsum hi hc hk hl hp hkl hx hn d1 d2 hres hV0 h0 hwf hln
    go_enter Try.func21, Try.ntmps21
    go_wp2_with fail
    (with_reducible refine LF.out.mono ?_)
    rintro e w4 ⟨rfl, hb4⟩
    clear a0 a1 a2 a3 p0 p1 LF
    obtain ⟨a0, a1, a2, a3, -, -, -, -⟩ := XV.out _ hb4
    go_wp2_with fail
    (with_reducible refine (CK.out _ hb4).mono ?_)
    rintro e w5 ⟨rfl, hb5⟩
    clear a0 a1 a2 a3 hW3
    have HS : Hid (∀ W, Below w5.heap.size w5 W → (W.cell? ⟨w.heap.size, 0, none⟩ = some (.int .u64 i) ∧ W.cell? ⟨w.heap.size, 2, none⟩ = some (.slice (some ⟨b, off, none⟩) nl cl) ∧ W.cell? ⟨b, off + k, none⟩ = some (.slice ai n ci))) := hid fun W h => ⟨cell_toB (XV.out _ hb5).c0 h, cell_toB (XV.out _ hb5).c2 h, cell_toB (HD1.out _ hb5) h⟩
    have H0 : Below w5.heap.size w5 w5.drew := (Below.refl _ _).drew
    have XE := hid ((XR.out _ hb5).ext H0)
    have HBE := hid (HB3.out.trans ((hb5.trans (H0.mono hb5.size)).mono HB3.out.size))
    have hz := HZ3.out
    have hz5 := hb5.size
    clear hb5 hb4 CK
    go_wp2_with fail

    refine wp_region_held_drew (S := fun W => W.cell? ⟨w.heap.size, 0, none⟩ = some (.int .u64 i) ∧ W.cell? ⟨w.heap.size, 2, none⟩ = some (.slice (some ⟨b, off, none⟩) nl cl) ∧ W.cell? ⟨b, off + k, none⟩ = some (.slice ai n ci)) (by kernel_rfl) (HS.out _ H0) (fun hHeld => ?_)
    refine wpAnyH_take (i := 0) (oi := _) (v := .pointer (some ⟨w.heap.size, 0, none⟩)) rfl (by kernel_rfl) (by kernel_rfl) (by kernel_rfl) (fun _ _ _ h => h) (Or.inl ⟨by rfl, ?_⟩) (by assumption) ?_
    · intro W hSw
      try dsimp only at hSw
      go_simp
    try simp only [Act.put, List.getElem_toArray, List.getElem_cons_succ, List.getElem_cons_zero, List.setIfInBounds_toArray, List.set_cons_zero, List.set_cons_succ]
    refine wpAnyH_take (i := 1) (oi := _) (v := .int .u64 i) rfl (by kernel_rfl) (by kernel_rfl) (by kernel_rfl) (fun _ _ _ h => h) (Or.inl ⟨by rfl, ?_⟩) (by assumption) ?_
    · intro W hSw
      try dsimp only at hSw
      go_simp
    try simp only [Act.put, List.getElem_toArray, List.getElem_cons_succ, List.getElem_cons_zero, List.setIfInBounds_toArray, List.set_cons_zero, List.set_cons_succ]
    refine wpAnyH_take (i := 2) (oi := _) (v := .pointer (some ⟨w.heap.size, 2, none⟩)) rfl (by kernel_rfl) (by kernel_rfl) (by kernel_rfl) (fun _ _ _ h => h) (Or.inl ⟨by rfl, ?_⟩) (by assumption) ?_
    · intro W hSw
      try dsimp only at hSw
      go_simp
    try simp only [Act.put, List.getElem_toArray, List.getElem_cons_succ, List.getElem_cons_zero, List.setIfInBounds_toArray, List.set_cons_zero, List.set_cons_succ]
    refine wpAnyH_take (i := 3) (oi := _) (v := .slice (some ⟨b, off, none⟩) nl cl) rfl (by kernel_rfl) (by kernel_rfl) (by kernel_rfl) (fun _ _ _ h => h) (Or.inl ⟨by rfl, ?_⟩) (by assumption) ?_
    · intro W hSw
      try dsimp only at hSw
      go_simp
    try simp only [Act.put, List.getElem_toArray, List.getElem_cons_succ, List.getElem_cons_zero, List.setIfInBounds_toArray, List.set_cons_zero, List.set_cons_succ]
    refine wpAnyH_take (i := 4) (oi := _) (v := .int .i64 k) rfl (by kernel_rfl) (by kernel_rfl) (by kernel_rfl) (fun _ _ _ h => h) (Or.inl ⟨by rfl, ?_⟩) (by assumption) ?_
    · intro W hSw
      try dsimp only at hSw
      go_simp
    try simp only [Act.put, List.getElem_toArray, List.getElem_cons_succ, List.getElem_cons_zero, List.setIfInBounds_toArray, List.set_cons_zero, List.set_cons_succ]
    refine wpAnyH_take (i := 5) (oi := _) (v := .pointer (some ⟨b, off + k, none⟩)) rfl (by kernel_rfl) (by kernel_rfl) (by kernel_rfl) (fun _ _ _ h => h) (Or.inl ⟨by rfl, ?_⟩) (by assumption) ?_
    · intro W hSw
      try dsimp only at hSw
      go_simp
    try simp only [Act.put, List.getElem_toArray, List.getElem_cons_succ, List.getElem_cons_zero, List.setIfInBounds_toArray, List.set_cons_zero, List.set_cons_succ]
    refine wpAnyH_take (i := 6) (oi := _) (v := .slice ai n ci) rfl (by kernel_rfl) (by kernel_rfl) (by kernel_rfl) (fun _ _ _ h => h) (Or.inl ⟨by rfl, ?_⟩) (by assumption) ?_
    · intro W hSw
      try dsimp only at hSw
      go_simp
    try simp only [Act.put, List.getElem_toArray, List.getElem_cons_succ, List.getElem_cons_zero, List.setIfInBounds_toArray, List.set_cons_zero, List.set_cons_succ]
    refine wpAnyH_take (i := 7) (oi := _) (v := .pointer (some ⟨w.heap.size, 2, none⟩)) rfl (by kernel_rfl) (by kernel_rfl) (by kernel_rfl) (fun _ _ _ h => h) (Or.inl ⟨by rfl, ?_⟩) (by assumption) ?_
    · intro W hSw
      try dsimp only at hSw
      go_simp
    try simp only [Act.put, List.getElem_toArray, List.getElem_cons_succ, List.getElem_cons_zero, List.setIfInBounds_toArray, List.set_cons_zero, List.set_cons_succ]
    refine wpAnyH_take (i := 8) (oi := _) (v := .slice (some ⟨b, off, none⟩) nl cl) rfl (by kernel_rfl) (by kernel_rfl) (by kernel_rfl) (fun _ _ _ h => h) (Or.inl ⟨by rfl, ?_⟩) (by assumption) ?_
    · intro W hSw
      try dsimp only at hSw
      go_simp
    try simp only [Act.put, List.getElem_toArray, List.getElem_cons_succ, List.getElem_cons_zero, List.setIfInBounds_toArray, List.set_cons_zero, List.set_cons_succ]
    refine wpAnyH_take (i := 9) (oi := _) (v := .int .i64 k) rfl (by kernel_rfl) (by kernel_rfl) (by kernel_rfl) (fun _ _ _ h => h) (Or.inl ⟨by rfl, ?_⟩) (by assumption) ?_
    · intro W hSw
      try dsimp only at hSw
      go_simp
    try simp only [Act.put, List.getElem_toArray, List.getElem_cons_succ, List.getElem_cons_zero, List.setIfInBounds_toArray, List.set_cons_zero, List.set_cons_succ]
    refine wpAnyH_take (i := 10) (oi := _) (v := .int .i64 k) rfl (by kernel_rfl) (by kernel_rfl) (by kernel_rfl) (fun _ _ _ h => h) (Or.inl ⟨by rfl, ?_⟩) (by assumption) ?_
    · intro W hSw
      try dsimp only at hSw
      go_simp
    try simp only [Act.put, List.getElem_toArray, List.getElem_cons_succ, List.getElem_cons_zero, List.setIfInBounds_toArray, List.set_cons_zero, List.set_cons_succ]
    refine wpAnyH_take (i := 11) (oi := _) (v := .int .i64 ((k : Int) + 1)) rfl (by kernel_rfl) (by kernel_rfl) (by kernel_rfl) (fun _ _ _ h => h) (Or.inl ⟨by rfl, ?_⟩) (by assumption) ?_
    · intro W hSw
      try dsimp only at hSw
      go_simp
    try simp only [Act.put, List.getElem_toArray, List.getElem_cons_succ, List.getElem_cons_zero, List.setIfInBounds_toArray, List.set_cons_zero, List.set_cons_succ]
    refine wpAnyH_take (i := 12) (oi := _) (v := .slice (some ⟨b, off + k, none⟩) 1 (cl - k)) rfl (by kernel_rfl) (by kernel_rfl) (by kernel_rfl) (fun _ _ _ h => h) (Or.inl ⟨by rfl, ?_⟩) (by assumption) ?_
    · intro W hSw
      try dsimp only at hSw
      go_simp
    try simp only [Act.put, List.getElem_toArray, List.getElem_cons_succ, List.getElem_cons_zero, List.setIfInBounds_toArray, List.set_cons_zero, List.set_cons_succ]
    refine wpAnyH_take (i := 13) (oi := _) (v := .pointer (some ⟨w.heap.size, 2, none⟩)) rfl (by kernel_rfl) (by kernel_rfl) (by kernel_rfl) (fun _ _ _ h => h) (Or.inl ⟨by rfl, ?_⟩) (by assumption) ?_
    · intro W hSw
      try dsimp only at hSw
      go_simp
    try simp only [Act.put, List.getElem_toArray, List.getElem_cons_succ, List.getElem_cons_zero, List.setIfInBounds_toArray, List.set_cons_zero, List.set_cons_succ]
    refine wpAnyH_take (i := 14) (oi := _) (v := .slice (some ⟨b, off, none⟩) nl cl) rfl (by kernel_rfl) (by kernel_rfl) (by kernel_rfl) (fun _ _ _ h => h) (Or.inl ⟨by rfl, ?_⟩) (by assumption) ?_
    · intro W hSw
      try dsimp only at hSw
      go_simp
    try simp only [Act.put, List.getElem_toArray, List.getElem_cons_succ, List.getElem_cons_zero, List.setIfInBounds_toArray, List.set_cons_zero, List.set_cons_succ]
    refine wpAnyH_take (i := 15) (oi := _) (v := .int .i64 k) rfl (by kernel_rfl) (by kernel_rfl) (by kernel_rfl) (fun _ _ _ h => h) (Or.inl ⟨by rfl, ?_⟩) (by assumption) ?_
    · intro W hSw
      try dsimp only at hSw
      go_simp
    try simp only [Act.put, List.getElem_toArray, List.getElem_cons_succ, List.getElem_cons_zero, List.setIfInBounds_toArray, List.set_cons_zero, List.set_cons_succ]
    refine wpAnyH_take (i := 16) (oi := _) (v := .pointer (some ⟨b, off + k, none⟩)) rfl (by kernel_rfl) (by kernel_rfl) (by kernel_rfl) (fun _ _ _ h => h) (Or.inl ⟨by rfl, ?_⟩) (by assumption) ?_
    · intro W hSw
      try dsimp only at hSw
      go_simp
    try simp only [Act.put, List.getElem_toArray, List.getElem_cons_succ, List.getElem_cons_zero, List.setIfInBounds_toArray, List.set_cons_zero, List.set_cons_succ]
    refine wpAnyH_take (i := 17) (oi := _) (v := .slice ai n ci) rfl (by kernel_rfl) (by kernel_rfl) (by kernel_rfl) (fun _ _ _ h => h) (Or.inl ⟨by rfl, ?_⟩) (by assumption) ?_
    · intro W hSw
      try dsimp only at hSw
      go_simp
    try simp only [Act.put, List.getElem_toArray, List.getElem_cons_succ, List.getElem_cons_zero, List.setIfInBounds_toArray, List.set_cons_zero, List.set_cons_succ]
    refine wpAnyH_take (i := 18) (oi := _) (v := .agg #[.int .u64 i, .slice ai n ci, .slice (some ⟨b, off + k, none⟩) 1 (cl - k), .slice ai n ci]) rfl (by kernel_rfl) (by kernel_rfl) (by kernel_rfl) (fun _ _ _ h => h) (Or.inl ⟨by rfl, ?_⟩) (by assumption) ?_
    · intro W hSw
      try dsimp only at hSw
      go_simp
    try simp only [Act.put, List.getElem_toArray, List.getElem_cons_succ, List.getElem_cons_zero, List.setIfInBounds_toArray, List.set_cons_zero, List.set_cons_succ]
    obtain ⟨d0, d1, d2, d3, g0, g1, g2, g3⟩ := id XE.out
    have zz := XE.out.put (.int .u64 i) (.slice ai n ci) (.slice (some ⟨b, off + k, none⟩) 1 (cl - k)) (.slice ai n ci)
    have hbk2 := HBK.out
    have n1 : w.heap.size ≠ w.heap.size + 1 + 1 := by omega
    have n2 : b ≠ w.heap.size + 1 + 1 := by omega
    obtain ⟨s0, s2, sb⟩ := HS.out _ H0
    clear XE H0
    generalize w5.drew = wd at d0 d1 d2 d3 g0 g1 g2 g3 zz s0 s2 sb HBE hHeld ⊢
    refine wpAnyH_ready (rs := [19]) (by kernel_rfl) (by simp) ?_
    refine AllReadyH.cons (o := _) rfl (fun K hK => ?_) AllReadyH.nil
    go_simp
    refine hK.out _ _ ⟨(off_blk n1).trans ((off_blk n1).trans ((off_blk n1).trans ((off_blk n1).trans s0))), (off_blk n1).trans ((off_blk n1).trans ((off_blk n1).trans ((off_blk n1).trans s2))), (off_blk n2).trans ((off_blk n2).trans ((off_blk n2).trans ((off_blk n2).trans sb)))⟩ (fun hHeld => ?_)
    clear hK K
    try simp only [Act.put, List.getElem_toArray, List.getElem_cons_succ, List.getElem_cons_zero, List.setIfInBounds_toArray, List.set_cons_zero, List.set_cons_succ]
    refine wpAnyH_done (by kernel_rfl) ?_ _
    go_wp2
    obtain ⟨z0, z1, z2, z3, -, -, -, -⟩ := zz
    exact bodyPost_ret (v := .agg #[.int .u64 i, .slice ai n ci, .slice (some ⟨b, off + k, none⟩) 1 (cl - k), .slice ai n ci]) (by simp [results, Try.results21, go_sem, z0, z1, z2, z3]) rfl
      ⟨ai, some ⟨b, off + k, none⟩, ai, ci, cl - k, ci, by rw [HL.out, HN.out, HI.out]; rfl, by rw [HL.out]; exact HRES.out, below_put4 HBE.out (by omega)⟩
end Go.Proofs.Ytbpfhclcjedkcaa
