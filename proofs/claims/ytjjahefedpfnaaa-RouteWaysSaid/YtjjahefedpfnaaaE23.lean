import Derived.Test.YtjjahefedpfnaaaE22
namespace Go.Proofs.Ytjjahefedpfnaaa
open Go.RowKit
theorem leadsR_is {V : View} {am al ad : Option Addr} {cm cl cd : Nat} {x y : Int} {w : World} {b : Bool} (h : Hid (decide ((x, y) ∈ V.ds) = b)) (hV : ViewR w am al ad V) (hf : Fine V) :
   Calls Try.prog 88 #[viewV V am al ad cm cl cd, .agg #[.int .u16 x, .int .u32 y]] w fun e w' => e = .returned (.bool b) ∧ Below w.heap.size w w' := by
  have hB2 : Below w.heap.size w ((w.alloc (.cells (vcells V am al ad cm cl cd) 68)).alloc (.cells #[.int .u16 x, .int .u32 y] 32)) := ((Below.refl _ _).alloc (Nat.le_refl _) _).alloc (by simp) _
  have F2 := Frv.made w V am al ad cm cl cd x y
  have hV2 := hV.ext hB2
  obtain ⟨a0, a1, a2, a3⟩ := F2.vb
  have c0 := F2.c0
  have c1 := F2.c1
  have hld := hf.ds
  go_enter Try.func88, Try.ntmps88
  go_wp2_with (go_at_call 36; refine (hasR_is h (by omega) hV2.ds).mono ?_; rintro e w3 ⟨rfl, hb3⟩)
  go_ret
  exact ⟨rfl, hB2.trans (hb3.mono hB2.size)⟩
theorem hasR_ext {a : Option Addr} {c n : Nat} {xs : List Pid} {id inc : Int} {w0 : World} {U : ExtW w0} {bm : Bool} (hn : Hid (xs.length = n)) (h : Hid (decide ((id, inc) ∈ xs) = bm)) (hl : xs.length ≤ 549755813888) (hrow : PidRow w0 a xs) :
   Calls Try.prog 36 #[.slice a n c, .agg #[.int .u16 id, .int .u32 inc]] U.W fun e w' => e = .returned (.bool bm) ∧ ∃ U' : ExtW w0, w' = U'.W :=
  quiet_of (by have := hasR_any a c xs id inc U.W (by omega) (hrow.ext U.h); rw [hn.out] at this; exact this) (by rw [h.out])
set_option maxRecDepth 100000 in
set_option maxHeartbeats 3200000 in
theorem shares_is {V : View} {am al ad : Option Addr} {cm cl cd : Nat} {x y u v : Int} {w : World} {b : Bool} (h : Hid (decide ((u, v) ∈ leafP V (x, y)) = b)) (hV : ViewR w am al ad V) (hf : Fine V) :
   Calls Try.prog 87 #[viewV V am al ad cm cl cd, .agg #[.int .u16 x, .int .u32 y], .agg #[.int .u16 u, .int .u32 v]] w fun e w' => e = .returned (.bool b) ∧ Below w.heap.size w w' := by
  have hB2 : Below w.heap.size w ((w.alloc (.cells (vcells V am al ad cm cl cd) 68)).alloc (.cells #[.int .u16 x, .int .u32 y] 32)) := ((Below.refl _ _).alloc (Nat.le_refl _) _).alloc (by simp) _
  have hb23 : Below ((w.alloc (.cells (vcells V am al ad cm cl cd) 68)).alloc (.cells #[.int .u16 x, .int .u32 y] 32)).heap.size ((w.alloc (.cells (vcells V am al ad cm cl cd) 68)).alloc (.cells #[.int .u16 x, .int .u32 y] 32)) (((w.alloc (.cells (vcells V am al ad cm cl cd) 68)).alloc (.cells #[.int .u16 x, .int .u32 y] 32)).alloc (.cells #[.int .u16 u, .int .u32 v] 32)) := (Below.refl _ _).alloc (Nat.le_refl _) _
  have F3 := (Frv.made w V am al ad cm cl cd x y).ext hb23
  have hp := Box2.made ((w.alloc (.cells (vcells V am al ad cm cl cd) 68)).alloc (.cells #[.int .u16 x, .int .u32 y] 32)) (v0 := .int .u16 u) (v1 := .int .u32 v) 32
  simp only [World.size_alloc] at hp
  have hB3 := hB2.trans (hb23.mono hB2.size)
  have hV3 := hV.ext hB3
  have hnl := hf.nl
  obtain ⟨w3, hw3⟩ : ∃ w3, ((w.alloc (.cells (vcells V am al ad cm cl cd) 68)).alloc (.cells #[.int .u16 x, .int .u32 y] 32)).alloc (.cells #[.int .u16 u, .int .u32 v] 32) = w3 := ⟨_, rfl⟩
  rw [hw3] at F3 hp hB3 hV3
  clear hb23 hB2
  obtain ⟨a0, a1, a2, a3⟩ := F3.vb
  have c0 := F3.c0
  have c1 := F3.c1
  obtain ⟨A, hA⟩ : ∃ A, leafIx V.ls (x, y) = A := ⟨_, rfl⟩
  have HA := hid hA
  by_cases hneg : A < 0
  · have hneg' : decide (0 ≤ A) = false := by simp; omega
    have HX : Hid (b = false) := hid (by rw [← h.out, leafP_neg (by omega)]; simp)
    clear hA h
    go_enter Try.func87, Try.ntmps87
    go_wp2_with (go_at_call 85; refine (leafR_is HA hV3).mono ?_; rintro e w4 ⟨rfl, hb4⟩)
    have z0 := cell_extw (cell_to a2 hb4)
    have z1 := cell_extw (cell_to hp.c0 hb4)
    have z2 := cell_extw (cell_to hp.c1 hb4)
    clear a0 a1 a2 a3 c0 c1
    refine wp_region_ext (w := w4) (Below.refl _ _) (by kernel_rfl) (by kernel_rfl) ?_
    repeat (go_big_quiet_step (fail))
    refine wpQuiet_nil ?_
    rintro _ ⟨⟨w9, hb9⟩, rfl⟩
    go_wp2
    go_ret
    exact ⟨by rw [HX.out]; rfl, (hB3.trans (hb4.mono hB3.size)).trans (hb9.mono (by have := hb4.size; have := hB3.size; omega))⟩
  · have hneg' : decide (0 ≤ A) = true := by simp; omega
    obtain ⟨k, rfl⟩ := Int.eq_ofNat_of_zero_le (by omega : 0 ≤ A)
    have hk : k < V.ls.length := by have := leafIx_bound (j := 0) hA; omega
    obtain ⟨lb, lo, ai, ci, l, e1, hx, d1, d2⟩ := hV3.ls.at (Below.refl _ _) rfl hk
    have hll : l.length ≤ 549755813888 := hf.ls l (by rw [hx]; exact List.getElem_mem _)
    have HIN : Hid (decide ((u, v) ∈ l) = b) := hid (by rw [← h.out, leafP_get hA hk, hx])
    obtain ⟨N, hN⟩ : ∃ N, l.length = N := ⟨_, rfl⟩
    rw [hN] at d1
    have HN := hid hN
    subst e1
    have hk2 : decide ((k : Int) < (V.ls.length : Int)) = true := by simp; omega
    clear hA h hx hN
    go_enter Try.func87, Try.ntmps87
    go_wp2_with (go_at_call 85; refine (leafR_is HA hV3).mono ?_; rintro e w4 ⟨rfl, hb4⟩)
    have z0 := cell_extw (cell_to a2 hb4)
    have z1 := cell_extw (cell_to hp.c0 hb4)
    have z2 := cell_extw (cell_to hp.c1 hb4)
    have z3 := cell_extw (cell_to d1 hb4)
    have d4 := d2.ext hb4
    clear a0 a1 a2 a3 c0 c1 d1 d2
    refine wp_region_ext (w := w4) (Below.refl _ _) (by kernel_rfl) (by kernel_rfl) ?_
    repeat (go_big_quiet_step (exact hasR_ext HN HIN hll d4))
    refine wpQuiet_nil ?_
    rintro _ ⟨⟨w9, hb9⟩, rfl⟩
    go_wp2
    go_ret
    exact ⟨rfl, (hB3.trans (hb4.mono hB3.size)).trans (hb9.mono (by have := hb4.size; have := hB3.size; omega))⟩
theorem some_drop {S : Pid → Bool} {ls : List (List Pid)} {k : Nat} (h : k < ls.length) {l : List Pid} (hl : l = ls[k]) (p : Pid) : decide (p ∈ (ls.drop k).filterMap (firstP S)) = (decide (firstP S l = some p) || decide (p ∈ (ls.drop (k + 1)).filterMap (firstP S))) := by
  rw [speakers_drop h hl, Bool.eq_iff_iff]
  cases firstP S l with
  | none => simp
  | some q =>
    simp only [List.mem_cons, Bool.or_eq_true, decide_eq_true_eq, Option.some.injEq]
    constructor
    · rintro (h | h)
      · exact .inl h.symm
      · exact .inr h
    · rintro (h | h)
      · exact .inl h.symm
      · exact .inr h
set_option maxRecDepth 100000 in
set_option maxHeartbeats 6400000 in
theorem speaksSome_any (r : Nat → Int) (V : View) (am al ad : Option Addr) (cm cl cd : Nat) (x y : Int) (w : World) (hV : ViewR w am al ad V) (hf : Fine V) :
    Calls Try.prog 86 #[viewV V am al ad cm cl cd, .agg (RL r).toArray, .agg #[.int .u16 x, .int .u32 y]] w fun e w' => e = .returned (.bool (decide ((x, y) ∈ speakersP V (hasRu r)))) ∧ Below w.heap.size w w' := by
  have hB3 : Below w.heap.size w (((w.alloc (.cells (vcells V am al ad cm cl cd) 68)).alloc (.cells (RL r).toArray 70)).alloc (.cells #[.int .u16 x, .int .u32 y] 32)) := (((Below.refl _ _).alloc (Nat.le_refl _) _).alloc (by simp) _).alloc (by simp; omega) _
  have F3 := Frm.made w V am al ad cm cl cd r x y
  have hV3 := hV.ext hB3
  have hnl := hf.nl
  obtain ⟨b, hbv⟩ : ∃ b, decide ((x, y) ∈ speakersP V (hasRu r)) = b := ⟨_, rfl⟩
  rw [hbv]
  have HBV := hid hbv
  clear hbv
  go_enter Try.func86, Try.ntmps86
  go_wp2
  generalize (((w.alloc (.cells (vcells V am al ad cm cl cd) 68)).alloc (.cells (RL r).toArray 70)).alloc (.cells #[.int .u16 x, .int .u32 y] 32)) = w3 at hB3 F3 hV3 ⊢
  go_loopw [6, 7] (fun rs i wr => rs = .bool false ∧ ∃ k : Nat, k ≤ V.ls.length ∧ i = .int .i64 k ∧ Hid (b = decide ((x, y) ∈ (V.ls.drop k).filterMap (firstP (hasRu r)))) ∧ Below w3.heap.size w3 wr) (fun _ i _ => V.ls.length - (intOf i).toNat)
  case atStart => exact ⟨rfl, 0, Nat.zero_le _, rfl, hid HBV.out.symm, Below.refl _ _⟩
  case round =>
    obtain ⟨rfl, k, hk, rfl, hM, hb⟩ := hrel
    have hs0 := hb.size
    have Fr := F3.ext hb
    have hVr := hV3.ext hb
    obtain ⟨a0, a1, a2, a3⟩ := Fr.vb
    have c0 := Fr.c0
    have c1 := Fr.c1
    have hRr := Fr.rb
    by_cases hlt : k < V.ls.length
    · have hlt' : decide (k < V.ls.length) = true := by simpa using hlt
      have hsd := some_drop (S := hasRu r) hlt rfl (x, y)
      have hsp := speakP_at (S := hasRu r) hlt rfl
      cases hfp : firstP (hasRu r) V.ls[k] with
      | none =>
        rw [hfp] at hsd hsp
        have HSD := hid hsd
        have HSP := hid hsp
        clear hsd hsp hfp
        go_wp2_with (first
          | (refine wpList_loadRw hRr (by rfl) rfl rfl ?_)
          | (go_at_call 53; refine (speakerRef_none HSP hVr hf).mono ?_; rintro e w4 ⟨rfl, hb4⟩))
        have hz4 := hb4.size
        go_roundw
        case rel => exact ⟨rfl, k + 1, by omega, by go_num, hid (hM.out.trans (by rw [HSD.out]; simp)), (hb.trans (hb4.mono hs0)).alloc (by omega) _⟩
        case measure => simp [intOf]; omega
      | some q =>
        obtain ⟨u, v⟩ := q
        rw [hfp] at hsd hsp
        have he := fun w => eql_pid u v x y w
        cases hq : decide ((u, v) = (x, y))
        · rw [hq] at he
          have hne : (u, v) ≠ (x, y) := by simpa using hq
          have HSD : Hid (decide ((x, y) ∈ (V.ls.drop k).filterMap (firstP (hasRu r))) = decide ((x, y) ∈ (V.ls.drop (k + 1)).filterMap (firstP (hasRu r)))) := hid (by rw [hsd, decide_eq_false (by simpa using hne)]; rfl)
          have HSP := hid hsp
          clear hsd hsp hfp hq hne
          go_wp2_with (first
            | (refine wpList_loadRw hRr (by rfl) rfl rfl ?_)
            | (go_at_call 53; refine (speakerRef_some HSP hVr hf).mono ?_; rintro e w4 ⟨rfl, hb4⟩; have z0 := cell_to c0 hb4; have z1 := cell_to c1 hb4; have hz5 := World.block_lt_of_cell? w4 _ z0; simp only at hz5))
          have hz4 := hb4.size
          go_roundw
          case rel => exact ⟨rfl, k + 1, by omega, by go_num, hid (hM.out.trans HSD.out), (hb.trans (hb4.mono hs0)).alloc (by omega) _⟩
          case measure => simp [intOf]; omega
        · rw [hq] at he
          have heq : (u, v) = (x, y) := by simpa using hq
          have HB : Hid (b = true) := hid (by rw [hM.out, hsd, decide_eq_true (by rw [heq])]; rfl)
          have HSP := hid hsp
          clear hsd hsp hfp hq heq
          go_wp2_with (first
            | (refine wpList_loadRw hRr (by rfl) rfl rfl ?_)
            | (go_at_call 53; refine (speakerRef_some HSP hVr hf).mono ?_; rintro e w4 ⟨rfl, hb4⟩; have z0 := cell_to c0 hb4; have z1 := cell_to c1 hb4; have hz5 := World.block_lt_of_cell? w4 _ z0; simp only at hz5))
          have hz4 := hb4.size
          go_ret
          exact ⟨by rw [HB.out]; rfl, (hB3.trans (hb.mono hB3.size)).trans (((Below.refl _ _).trans hb4).alloc (by omega) _ |>.mono (by have := hB3.size; omega))⟩
    · have hlt' : decide (k < V.ls.length) = false := by simpa using hlt
      have HB : Hid (b = false) := hid (by rw [hM.out, List.drop_eq_nil_of_le (by omega)]; simp)
      go_wp2
      go_ret
      exact ⟨by rw [HB.out]; rfl, hB3.trans (hb.mono hB3.size)⟩
theorem speaksSome_is {r : Nat → Int} {V : View} {am al ad : Option Addr} {cm cl cd : Nat} {x y : Int} {w : World} {b : Bool} (h : Hid (decide ((x, y) ∈ speakersP V (hasRu r)) = b)) (hV : ViewR w am al ad V) (hf : Fine V) :
    Calls Try.prog 86 #[viewV V am al ad cm cl cd, .agg (RL r).toArray, .agg #[.int .u16 x, .int .u32 y]] w fun e w' => e = .returned (.bool b) ∧ Below w.heap.size w w' := by
  have := speaksSome_any r V am al ad cm cl cd x y w hV hf
  rw [h.out] at this; exact this
theorem speaksRef_is {r : Nat → Int} {V : View} {am al ad : Option Addr} {cm cl cd : Nat} {x y : Int} {w : World} {b : Bool} (h : Hid (speaksB V (hasRu r) (x, y) = b)) (hV : ViewR w am al ad V) (hf : Fine V) :
    Calls Try.prog 56 #[viewV V am al ad cm cl cd, .agg (RL r).toArray, .agg #[.int .u16 x, .int .u32 y]] w fun e w' => e = .returned (.bool b) ∧ Below w.heap.size w w' := by
  have := speaksRef_any r V am al ad cm cl cd x y w hV hf
  rw [h.out] at this; exact this
end Go.Proofs.Ytjjahefedpfnaaa
