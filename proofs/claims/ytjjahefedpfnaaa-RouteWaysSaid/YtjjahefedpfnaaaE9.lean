import Derived.Test.YtjjahefedpfnaaaE8
namespace Go.Proofs.Ytjjahefedpfnaaa
open Go.RowKit
theorem leafA_is {V : View} {am al ad : Option Addr} {cm cl cd : Nat} {x y : Int} {w : World} {A : Int} (h : Hid (leafIx V.ls (x, y) = A)) (hV : ViewR w am al ad V) :
   Calls Try.prog 77 #[viewV V am al ad cm cl cd, .agg #[.int .u16 x, .int .u32 y]] w fun e w' => e = .returned (.int .i64 A) ∧ Below w.heap.size w w' := by
  have := leaf_any V am al ad cm cl cd x y w hV
  rw [h.out] at this
  exact this
theorem leafR_is {V : View} {am al ad : Option Addr} {cm cl cd : Nat} {x y : Int} {w : World} {A : Int} (h : Hid (leafIx V.ls (x, y) = A)) (hV : ViewR w am al ad V) :
   Calls Try.prog 85 #[viewV V am al ad cm cl cd, .agg #[.int .u16 x, .int .u32 y]] w fun e w' => e = .returned (.int .i64 A) ∧ Below w.heap.size w w' := by
  have := refLeaf_any V am al ad cm cl cd x y w hV
  rw [h.out] at this
  exact this
theorem vw_bounds {V : View} (hf : Fine V) : V.ms.length ≤ 549755813888 := hf.ms

set_option maxRecDepth 100000 in
set_option maxHeartbeats 3200000 in
theorem speaks_any (r : Nat → Int) (V : View) (am al ad : Option Addr) (cm cl cd : Nat) (x y : Int) (w : World) (hV : ViewR w am al ad V) (hf : Fine V) :
    Calls Try.prog 55 #[viewV V am al ad cm cl cd, .agg (RL r).toArray, .agg #[.int .u16 x, .int .u32 y]] w fun e w' => e = .returned (.bool (speaksB V (hasRu r) (x, y))) ∧ Below w.heap.size w w' := by
  have hB3 : Below w.heap.size w (((w.alloc (.cells (vcells V am al ad cm cl cd) 68)).alloc (.cells (RL r).toArray 70)).alloc (.cells #[.int .u16 x, .int .u32 y] 32)) := (((Below.refl _ _).alloc (Nat.le_refl _) _).alloc (by simp) _).alloc (by simp; omega) _
  have hR3 := (RumBox.madeV (w.alloc (.cells (vcells V am al ad cm cl cd) 68)) r).ext (B := w.heap.size + 1 + 1) ((Below.refl _ _).alloc (by simp) (.cells #[.int .u16 x, .int .u32 y] 32)) (by simp)
  have hV3 := hV.ext hB3
  have hp2 := Box2.made ((w.alloc (.cells (vcells V am al ad cm cl cd) 68)).alloc (.cells (RL r).toArray 70)) (v0 := .int .u16 x) (v1 := .int .u32 y) 32
  have hvb := ((ViewBox.made (V := V) (am := am) (al := al) (ad := ad) (cm := cm) (cl := cl) (cd := cd) w).ext (B := w.heap.size + 1) ((Below.refl _ _).alloc (by simp) (.cells (RL r).toArray 70)) (by omega)).ext (B := w.heap.size + 1) ((Below.refl _ _).alloc (by simp) (.cells #[.int .u16 x, .int .u32 y] 32)) (by omega)
  have hz3 : (((w.alloc (.cells (vcells V am al ad cm cl cd) 68)).alloc (.cells (RL r).toArray 70)).alloc (.cells #[.int .u16 x, .int .u32 y] 32)).heap.size = w.heap.size + 1 + 1 + 1 := by simp
  simp only [World.size_alloc] at hR3 hp2
  have k0 := hp2.c0
  have k1 := hp2.c1
  clear hp2
  obtain ⟨A, hA⟩ : ∃ A, leafIx V.ls (x, y) = A := ⟨_, rfl⟩
  obtain ⟨o, ho⟩ : ∃ o, speakP V (hasRu r) A = o := ⟨_, rfl⟩
  have HA := hid hA
  have hu70 := Try.underlying70
  have hi70 := info70L r
  obtain ⟨w3, hw3⟩ : ∃ w3, (((w.alloc (.cells (vcells V am al ad cm cl cd) 68)).alloc (.cells (RL r).toArray 70)).alloc (.cells #[.int .u16 x, .int .u32 y] 32)) = w3 := ⟨_, rfl⟩
  have HW3 := hid hw3
  rw [hw3] at hB3 hR3 hV3 k0 k1 hvb hz3
  have HZ := hid hz3
  have hz : w.heap.size + 1 + 1 < w3.heap.size := by omega
  have HS : Hid (∀ W, Below w3.heap.size w3 W → Below w3.heap.size w3 W ∧ W.rangeAt (w.heap.size + 1) 0 (RL r) ∧ W.cell? ⟨w.heap.size, 0, none⟩ = some (.int .u64 V.id) ∧ W.cell? ⟨w.heap.size, 1, none⟩ = some (.slice am V.ms.length cm) ∧ W.cell? ⟨w.heap.size, 2, none⟩ = some (.slice al V.ls.length cl) ∧ W.cell? ⟨w.heap.size, 3, none⟩ = some (.slice ad V.ds.length cd) ∧ W.cell? ⟨w.heap.size + 1 + 1, 0, none⟩ = some (.int .u16 x) ∧ W.cell? ⟨w.heap.size + 1 + 1, 1, none⟩ = some (.int .u32 y)) := hid fun W h => ⟨h, (hR3.ext h (by omega)).range, (hvb.ext h (by omega)).c0, (hvb.ext h (by omega)).c1, (hvb.ext h (by omega)).c2, (hvb.ext h (by omega)).c3, cell_to k0 h, cell_to k1 h⟩
  have H0 : Below w3.heap.size w3 w3.drew := (Below.refl _ _).drew
  have C1 : Hid (∀ W, Below w3.heap.size w3 W → Calls Try.prog 77 #[viewV V am al ad cm cl cd, .agg #[.int .u16 x, .int .u32 y]] W fun e w' => e = .returned (.int .i64 A) ∧ Below W.heap.size W w' ∧ Below w3.heap.size w3 w') := hid fun W h => ((leafA_is HA (hV3.ext h)).mono fun e w' ⟨h1, h2⟩ => ⟨h1, h2, h.trans (h2.mono h.size)⟩)
  clear hz3 hvb hA hw3
  cases o with
  | none =>
    have HB : Hid (speaksB V (hasRu r) (x, y) = false) := hid (by unfold speaksB; rw [HA.out, ho]; simp)
    rw [HB.out]
    have HO := hid ho
    clear ho
    have C2 : Hid (∀ W, Below w3.heap.size w3 W → Calls Try.prog 52 #[viewV V am al ad cm cl cd, .agg (RL r).toArray, .int .i64 A] W fun e w' => e = .returned (.tuple #[.agg #[.int .u16 0, .int .u32 0], .bool false]) ∧ Below W.heap.size W w' ∧ Below w3.heap.size w3 w') := hid fun W h => ((speaker_none HO (hV3.ext h) hf).mono fun e w' ⟨h1, h2⟩ => ⟨h1, h2, h.trans (h2.mono h.size)⟩)
    clear hV3 hV hf
    go_enter Try.func55, Try.ntmps55
    go_wp2
    rw [HW3.out]
    go_region_held3 (fun W => Below w3.heap.size w3 W ∧ W.rangeAt (w.heap.size + 1) 0 (RL r) ∧ W.cell? ⟨w.heap.size, 0, none⟩ = some (.int .u64 V.id) ∧ W.cell? ⟨w.heap.size, 1, none⟩ = some (.slice am V.ms.length cm) ∧ W.cell? ⟨w.heap.size, 2, none⟩ = some (.slice al V.ls.length cl) ∧ W.cell? ⟨w.heap.size, 3, none⟩ = some (.slice ad V.ds.length cd) ∧ W.cell? ⟨w.heap.size + 1 + 1, 0, none⟩ = some (.int .u16 x) ∧ W.cell? ⟨w.heap.size + 1 + 1, 1, none⟩ = some (.int .u32 y)) (first | exact HS.out _ H0 | exact HS.out _ (by assumption) | exact HS.out _ (Below.alloc (by assumption) (Below.size (by assumption)) _) | exact HS.out _ (below_put (by assumption) (by first | exact Nat.le_refl _ | exact Below.size (by assumption)) _ _)) (first | ((go_at_call 77; refine (C1.out _ (by first | assumption | exact Below.alloc (by assumption) (Below.size (by assumption)) _)).mono ?_; rintro e w5 ⟨rfl, hbb5, hb5⟩; obtain ⟨hc5, hf5⟩ := bcell hbb5; try (have hs5 : w3.heap.size < w5.heap.size := by have := hbb5.size; simp at this; omega))) | ((go_at_call 52; refine (C2.out _ (by first | assumption | exact Below.alloc (by assumption) (Below.size (by assumption)) _)).mono ?_; rintro e w6 ⟨rfl, hbb6, hb6⟩; obtain ⟨hc6, hf6⟩ := bcell hbb6; (first | (have hs6 : w5.heap.size < w6.heap.size := by have := hbb6.size; simp at this; omega) | skip); (first | (have hs7 : w3.heap.size < w6.heap.size := by have := hbb6.size; have := hbb5.size; simp at *; omega) | skip))))
    all_goals (
      obtain ⟨hBx, -, -, -, -, -, z0, z1⟩ := ‹Below w3.heap.size w3 _ ∧ _›
      go_wp2
      go_ret
      exact ⟨rfl, hB3.trans (hBx.mono (by have := hB3.size; omega))⟩)
  | some q =>
    obtain ⟨u, v⟩ := q
    have he := fun w => eql_pid x y u v w
    cases hq : decide ((x, y) = (u, v))
    · have HB : Hid (speaksB V (hasRu r) (x, y) = false) := hid (by unfold speaksB; rw [HA.out, ho]; simp at hq; simp; omega)
      rw [hq] at he
      rw [HB.out]
      have HO := hid ho
      clear ho hq
      have C2 : Hid (∀ W, Below w3.heap.size w3 W → Calls Try.prog 52 #[viewV V am al ad cm cl cd, .agg (RL r).toArray, .int .i64 A] W fun e w' => e = .returned (.tuple #[.agg #[.int .u16 u, .int .u32 v], .bool true]) ∧ Below W.heap.size W w' ∧ Below w3.heap.size w3 w') := hid fun W h => ((speaker_some HO (hV3.ext h) hf).mono fun e w' ⟨h1, h2⟩ => ⟨h1, h2, h.trans (h2.mono h.size)⟩)
      clear hV3 hV hf
      go_enter Try.func55, Try.ntmps55
      go_wp2
      rw [HW3.out]
      go_region_held3 (fun W => Below w3.heap.size w3 W ∧ W.rangeAt (w.heap.size + 1) 0 (RL r) ∧ W.cell? ⟨w.heap.size, 0, none⟩ = some (.int .u64 V.id) ∧ W.cell? ⟨w.heap.size, 1, none⟩ = some (.slice am V.ms.length cm) ∧ W.cell? ⟨w.heap.size, 2, none⟩ = some (.slice al V.ls.length cl) ∧ W.cell? ⟨w.heap.size, 3, none⟩ = some (.slice ad V.ds.length cd) ∧ W.cell? ⟨w.heap.size + 1 + 1, 0, none⟩ = some (.int .u16 x) ∧ W.cell? ⟨w.heap.size + 1 + 1, 1, none⟩ = some (.int .u32 y)) (first | exact HS.out _ H0 | exact HS.out _ (by assumption) | exact HS.out _ (Below.alloc (by assumption) (Below.size (by assumption)) _) | exact HS.out _ (below_put (by assumption) (by first | exact Nat.le_refl _ | exact Below.size (by assumption)) _ _)) (first | ((go_at_call 77; refine (C1.out _ (by first | assumption | exact Below.alloc (by assumption) (Below.size (by assumption)) _)).mono ?_; rintro e w5 ⟨rfl, hbb5, hb5⟩; obtain ⟨hc5, hf5⟩ := bcell hbb5; try (have hs5 : w3.heap.size < w5.heap.size := by have := hbb5.size; simp at this; omega))) | ((go_at_call 52; refine (C2.out _ (by first | assumption | exact Below.alloc (by assumption) (Below.size (by assumption)) _)).mono ?_; rintro e w6 ⟨rfl, hbb6, hb6⟩; obtain ⟨hc6, hf6⟩ := bcell hbb6; (first | (have hs6 : w5.heap.size < w6.heap.size := by have := hbb6.size; simp at this; omega) | skip); (first | (have hs7 : w3.heap.size < w6.heap.size := by have := hbb6.size; have := hbb5.size; simp at *; omega) | skip))))
      all_goals (
        obtain ⟨hBx, -, -, -, -, -, z0, z1⟩ := ‹Below w3.heap.size w3 _ ∧ _›
        go_wp2
        go_ret
        exact ⟨rfl, hB3.trans (hBx.mono (by have := hB3.size; omega))⟩)
    · have HB : Hid (speaksB V (hasRu r) (x, y) = true) := hid (by unfold speaksB; rw [HA.out, ho]; simp at hq; simp; omega)
      rw [hq] at he
      rw [HB.out]
      have HO := hid ho
      clear ho hq
      have C2 : Hid (∀ W, Below w3.heap.size w3 W → Calls Try.prog 52 #[viewV V am al ad cm cl cd, .agg (RL r).toArray, .int .i64 A] W fun e w' => e = .returned (.tuple #[.agg #[.int .u16 u, .int .u32 v], .bool true]) ∧ Below W.heap.size W w' ∧ Below w3.heap.size w3 w') := hid fun W h => ((speaker_some HO (hV3.ext h) hf).mono fun e w' ⟨h1, h2⟩ => ⟨h1, h2, h.trans (h2.mono h.size)⟩)
      clear hV3 hV hf
      go_enter Try.func55, Try.ntmps55
      go_wp2
      rw [HW3.out]
      go_region_held3 (fun W => Below w3.heap.size w3 W ∧ W.rangeAt (w.heap.size + 1) 0 (RL r) ∧ W.cell? ⟨w.heap.size, 0, none⟩ = some (.int .u64 V.id) ∧ W.cell? ⟨w.heap.size, 1, none⟩ = some (.slice am V.ms.length cm) ∧ W.cell? ⟨w.heap.size, 2, none⟩ = some (.slice al V.ls.length cl) ∧ W.cell? ⟨w.heap.size, 3, none⟩ = some (.slice ad V.ds.length cd) ∧ W.cell? ⟨w.heap.size + 1 + 1, 0, none⟩ = some (.int .u16 x) ∧ W.cell? ⟨w.heap.size + 1 + 1, 1, none⟩ = some (.int .u32 y)) (first | exact HS.out _ H0 | exact HS.out _ (by assumption) | exact HS.out _ (Below.alloc (by assumption) (Below.size (by assumption)) _) | exact HS.out _ (below_put (by assumption) (by first | exact Nat.le_refl _ | exact Below.size (by assumption)) _ _)) (first | ((go_at_call 77; refine (C1.out _ (by first | assumption | exact Below.alloc (by assumption) (Below.size (by assumption)) _)).mono ?_; rintro e w5 ⟨rfl, hbb5, hb5⟩; obtain ⟨hc5, hf5⟩ := bcell hbb5; try (have hs5 : w3.heap.size < w5.heap.size := by have := hbb5.size; simp at this; omega))) | ((go_at_call 52; refine (C2.out _ (by first | assumption | exact Below.alloc (by assumption) (Below.size (by assumption)) _)).mono ?_; rintro e w6 ⟨rfl, hbb6, hb6⟩; obtain ⟨hc6, hf6⟩ := bcell hbb6; (first | (have hs6 : w5.heap.size < w6.heap.size := by have := hbb6.size; simp at this; omega) | skip); (first | (have hs7 : w3.heap.size < w6.heap.size := by have := hbb6.size; have := hbb5.size; simp at *; omega) | skip))))
      all_goals (
        obtain ⟨hBx, -, -, -, -, -, z0, z1⟩ := ‹Below w3.heap.size w3 _ ∧ _›
        go_wp2
        go_ret
        exact ⟨rfl, hB3.trans (hBx.mono (by have := hB3.size; omega))⟩)

set_option maxRecDepth 100000 in
set_option maxHeartbeats 3200000 in
theorem speaksRef_any (r : Nat → Int) (V : View) (am al ad : Option Addr) (cm cl cd : Nat) (x y : Int) (w : World) (hV : ViewR w am al ad V) (hf : Fine V) :
    Calls Try.prog 56 #[viewV V am al ad cm cl cd, .agg (RL r).toArray, .agg #[.int .u16 x, .int .u32 y]] w fun e w' => e = .returned (.bool (speaksB V (hasRu r) (x, y))) ∧ Below w.heap.size w w' := by
  have hB3 : Below w.heap.size w (((w.alloc (.cells (vcells V am al ad cm cl cd) 68)).alloc (.cells (RL r).toArray 70)).alloc (.cells #[.int .u16 x, .int .u32 y] 32)) := (((Below.refl _ _).alloc (Nat.le_refl _) _).alloc (by simp) _).alloc (by simp; omega) _
  have hR3 := (RumBox.madeV (w.alloc (.cells (vcells V am al ad cm cl cd) 68)) r).ext (B := w.heap.size + 1 + 1) ((Below.refl _ _).alloc (by simp) (.cells #[.int .u16 x, .int .u32 y] 32)) (by simp)
  have hV3 := hV.ext hB3
  have hp2 := Box2.made ((w.alloc (.cells (vcells V am al ad cm cl cd) 68)).alloc (.cells (RL r).toArray 70)) (v0 := .int .u16 x) (v1 := .int .u32 y) 32
  have hvb := ((ViewBox.made (V := V) (am := am) (al := al) (ad := ad) (cm := cm) (cl := cl) (cd := cd) w).ext (B := w.heap.size + 1) ((Below.refl _ _).alloc (by simp) (.cells (RL r).toArray 70)) (by omega)).ext (B := w.heap.size + 1) ((Below.refl _ _).alloc (by simp) (.cells #[.int .u16 x, .int .u32 y] 32)) (by omega)
  have hz3 : (((w.alloc (.cells (vcells V am al ad cm cl cd) 68)).alloc (.cells (RL r).toArray 70)).alloc (.cells #[.int .u16 x, .int .u32 y] 32)).heap.size = w.heap.size + 1 + 1 + 1 := by simp
  simp only [World.size_alloc] at hR3 hp2
  have k0 := hp2.c0
  have k1 := hp2.c1
  clear hp2
  obtain ⟨A, hA⟩ : ∃ A, leafIx V.ls (x, y) = A := ⟨_, rfl⟩
  obtain ⟨o, ho⟩ : ∃ o, speakP V (hasRu r) A = o := ⟨_, rfl⟩
  have HA := hid hA
  have hu70 := Try.underlying70
  have hi70 := info70L r
  obtain ⟨w3, hw3⟩ : ∃ w3, (((w.alloc (.cells (vcells V am al ad cm cl cd) 68)).alloc (.cells (RL r).toArray 70)).alloc (.cells #[.int .u16 x, .int .u32 y] 32)) = w3 := ⟨_, rfl⟩
  have HW3 := hid hw3
  rw [hw3] at hB3 hR3 hV3 k0 k1 hvb hz3
  have HZ := hid hz3
  have hz : w.heap.size + 1 + 1 < w3.heap.size := by omega
  have HS : Hid (∀ W, Below w3.heap.size w3 W → Below w3.heap.size w3 W ∧ W.rangeAt (w.heap.size + 1) 0 (RL r) ∧ W.cell? ⟨w.heap.size, 0, none⟩ = some (.int .u64 V.id) ∧ W.cell? ⟨w.heap.size, 1, none⟩ = some (.slice am V.ms.length cm) ∧ W.cell? ⟨w.heap.size, 2, none⟩ = some (.slice al V.ls.length cl) ∧ W.cell? ⟨w.heap.size, 3, none⟩ = some (.slice ad V.ds.length cd) ∧ W.cell? ⟨w.heap.size + 1 + 1, 0, none⟩ = some (.int .u16 x) ∧ W.cell? ⟨w.heap.size + 1 + 1, 1, none⟩ = some (.int .u32 y)) := hid fun W h => ⟨h, (hR3.ext h (by omega)).range, (hvb.ext h (by omega)).c0, (hvb.ext h (by omega)).c1, (hvb.ext h (by omega)).c2, (hvb.ext h (by omega)).c3, cell_to k0 h, cell_to k1 h⟩
  have H0 : Below w3.heap.size w3 w3.drew := (Below.refl _ _).drew
  have C1 : Hid (∀ W, Below w3.heap.size w3 W → Calls Try.prog 85 #[viewV V am al ad cm cl cd, .agg #[.int .u16 x, .int .u32 y]] W fun e w' => e = .returned (.int .i64 A) ∧ Below W.heap.size W w' ∧ Below w3.heap.size w3 w') := hid fun W h => ((leafR_is HA (hV3.ext h)).mono fun e w' ⟨h1, h2⟩ => ⟨h1, h2, h.trans (h2.mono h.size)⟩)
  clear hz3 hvb hA hw3
  cases o with
  | none =>
    have HB : Hid (speaksB V (hasRu r) (x, y) = false) := hid (by unfold speaksB; rw [HA.out, ho]; simp)
    rw [HB.out]
    have HO := hid ho
    clear ho
    have C2 : Hid (∀ W, Below w3.heap.size w3 W → Calls Try.prog 53 #[viewV V am al ad cm cl cd, .agg (RL r).toArray, .int .i64 A] W fun e w' => e = .returned (.tuple #[.agg #[.int .u16 0, .int .u32 0], .bool false]) ∧ Below W.heap.size W w' ∧ Below w3.heap.size w3 w') := hid fun W h => ((speakerRef_none HO (hV3.ext h) hf).mono fun e w' ⟨h1, h2⟩ => ⟨h1, h2, h.trans (h2.mono h.size)⟩)
    clear hV3 hV hf
    go_enter Try.func56, Try.ntmps56
    go_wp2
    rw [HW3.out]
    go_region_held3 (fun W => Below w3.heap.size w3 W ∧ W.rangeAt (w.heap.size + 1) 0 (RL r) ∧ W.cell? ⟨w.heap.size, 0, none⟩ = some (.int .u64 V.id) ∧ W.cell? ⟨w.heap.size, 1, none⟩ = some (.slice am V.ms.length cm) ∧ W.cell? ⟨w.heap.size, 2, none⟩ = some (.slice al V.ls.length cl) ∧ W.cell? ⟨w.heap.size, 3, none⟩ = some (.slice ad V.ds.length cd) ∧ W.cell? ⟨w.heap.size + 1 + 1, 0, none⟩ = some (.int .u16 x) ∧ W.cell? ⟨w.heap.size + 1 + 1, 1, none⟩ = some (.int .u32 y)) (first | exact HS.out _ H0 | exact HS.out _ (by assumption) | exact HS.out _ (Below.alloc (by assumption) (Below.size (by assumption)) _) | exact HS.out _ (below_put (by assumption) (by first | exact Nat.le_refl _ | exact Below.size (by assumption)) _ _)) (first | ((go_at_call 85; refine (C1.out _ (by first | assumption | exact Below.alloc (by assumption) (Below.size (by assumption)) _)).mono ?_; rintro e w5 ⟨rfl, hbb5, hb5⟩; obtain ⟨hc5, hf5⟩ := bcell hbb5; try (have hs5 : w3.heap.size < w5.heap.size := by have := hbb5.size; simp at this; omega))) | ((go_at_call 53; refine (C2.out _ (by first | assumption | exact Below.alloc (by assumption) (Below.size (by assumption)) _)).mono ?_; rintro e w6 ⟨rfl, hbb6, hb6⟩; obtain ⟨hc6, hf6⟩ := bcell hbb6; (first | (have hs6 : w5.heap.size < w6.heap.size := by have := hbb6.size; simp at this; omega) | skip); (first | (have hs7 : w3.heap.size < w6.heap.size := by have := hbb6.size; have := hbb5.size; simp at *; omega) | skip))))
    all_goals (
      obtain ⟨hBx, -, -, -, -, -, z0, z1⟩ := ‹Below w3.heap.size w3 _ ∧ _›
      go_wp2
      go_ret
      exact ⟨rfl, hB3.trans (hBx.mono (by have := hB3.size; omega))⟩)
  | some q =>
    obtain ⟨u, v⟩ := q
    have he := fun w => eql_pid u v x y w
    cases hq : decide ((u, v) = (x, y))
    · have HB : Hid (speaksB V (hasRu r) (x, y) = false) := hid (by unfold speaksB; rw [HA.out, ho]; simp at hq; simp; omega)
      rw [hq] at he
      rw [HB.out]
      have HO := hid ho
      clear ho hq
      have C2 : Hid (∀ W, Below w3.heap.size w3 W → Calls Try.prog 53 #[viewV V am al ad cm cl cd, .agg (RL r).toArray, .int .i64 A] W fun e w' => e = .returned (.tuple #[.agg #[.int .u16 u, .int .u32 v], .bool true]) ∧ Below W.heap.size W w' ∧ Below w3.heap.size w3 w') := hid fun W h => ((speakerRef_some HO (hV3.ext h) hf).mono fun e w' ⟨h1, h2⟩ => ⟨h1, h2, h.trans (h2.mono h.size)⟩)
      clear hV3 hV hf
      go_enter Try.func56, Try.ntmps56
      go_wp2
      rw [HW3.out]
      go_region_held3 (fun W => Below w3.heap.size w3 W ∧ W.rangeAt (w.heap.size + 1) 0 (RL r) ∧ W.cell? ⟨w.heap.size, 0, none⟩ = some (.int .u64 V.id) ∧ W.cell? ⟨w.heap.size, 1, none⟩ = some (.slice am V.ms.length cm) ∧ W.cell? ⟨w.heap.size, 2, none⟩ = some (.slice al V.ls.length cl) ∧ W.cell? ⟨w.heap.size, 3, none⟩ = some (.slice ad V.ds.length cd) ∧ W.cell? ⟨w.heap.size + 1 + 1, 0, none⟩ = some (.int .u16 x) ∧ W.cell? ⟨w.heap.size + 1 + 1, 1, none⟩ = some (.int .u32 y)) (first | exact HS.out _ H0 | exact HS.out _ (by assumption) | exact HS.out _ (Below.alloc (by assumption) (Below.size (by assumption)) _) | exact HS.out _ (below_put (by assumption) (by first | exact Nat.le_refl _ | exact Below.size (by assumption)) _ _)) (first | ((go_at_call 85; refine (C1.out _ (by first | assumption | exact Below.alloc (by assumption) (Below.size (by assumption)) _)).mono ?_; rintro e w5 ⟨rfl, hbb5, hb5⟩; obtain ⟨hc5, hf5⟩ := bcell hbb5; try (have hs5 : w3.heap.size < w5.heap.size := by have := hbb5.size; simp at this; omega))) | ((go_at_call 53; refine (C2.out _ (by first | assumption | exact Below.alloc (by assumption) (Below.size (by assumption)) _)).mono ?_; rintro e w6 ⟨rfl, hbb6, hb6⟩; obtain ⟨hc6, hf6⟩ := bcell hbb6; (first | (have hs6 : w5.heap.size < w6.heap.size := by have := hbb6.size; simp at this; omega) | skip); (first | (have hs7 : w3.heap.size < w6.heap.size := by have := hbb6.size; have := hbb5.size; simp at *; omega) | skip))))
      all_goals (
        obtain ⟨hBx, -, -, -, -, -, z0, z1⟩ := ‹Below w3.heap.size w3 _ ∧ _›
        go_wp2
        go_ret
        exact ⟨rfl, hB3.trans (hBx.mono (by have := hB3.size; omega))⟩)
    · have HB : Hid (speaksB V (hasRu r) (x, y) = true) := hid (by unfold speaksB; rw [HA.out, ho]; simp at hq; simp; omega)
      rw [hq] at he
      rw [HB.out]
      have HO := hid ho
      clear ho hq
      have C2 : Hid (∀ W, Below w3.heap.size w3 W → Calls Try.prog 53 #[viewV V am al ad cm cl cd, .agg (RL r).toArray, .int .i64 A] W fun e w' => e = .returned (.tuple #[.agg #[.int .u16 u, .int .u32 v], .bool true]) ∧ Below W.heap.size W w' ∧ Below w3.heap.size w3 w') := hid fun W h => ((speakerRef_some HO (hV3.ext h) hf).mono fun e w' ⟨h1, h2⟩ => ⟨h1, h2, h.trans (h2.mono h.size)⟩)
      clear hV3 hV hf
      go_enter Try.func56, Try.ntmps56
      go_wp2
      rw [HW3.out]
      go_region_held3 (fun W => Below w3.heap.size w3 W ∧ W.rangeAt (w.heap.size + 1) 0 (RL r) ∧ W.cell? ⟨w.heap.size, 0, none⟩ = some (.int .u64 V.id) ∧ W.cell? ⟨w.heap.size, 1, none⟩ = some (.slice am V.ms.length cm) ∧ W.cell? ⟨w.heap.size, 2, none⟩ = some (.slice al V.ls.length cl) ∧ W.cell? ⟨w.heap.size, 3, none⟩ = some (.slice ad V.ds.length cd) ∧ W.cell? ⟨w.heap.size + 1 + 1, 0, none⟩ = some (.int .u16 x) ∧ W.cell? ⟨w.heap.size + 1 + 1, 1, none⟩ = some (.int .u32 y)) (first | exact HS.out _ H0 | exact HS.out _ (by assumption) | exact HS.out _ (Below.alloc (by assumption) (Below.size (by assumption)) _) | exact HS.out _ (below_put (by assumption) (by first | exact Nat.le_refl _ | exact Below.size (by assumption)) _ _)) (first | ((go_at_call 85; refine (C1.out _ (by first | assumption | exact Below.alloc (by assumption) (Below.size (by assumption)) _)).mono ?_; rintro e w5 ⟨rfl, hbb5, hb5⟩; obtain ⟨hc5, hf5⟩ := bcell hbb5; try (have hs5 : w3.heap.size < w5.heap.size := by have := hbb5.size; simp at this; omega))) | ((go_at_call 53; refine (C2.out _ (by first | assumption | exact Below.alloc (by assumption) (Below.size (by assumption)) _)).mono ?_; rintro e w6 ⟨rfl, hbb6, hb6⟩; obtain ⟨hc6, hf6⟩ := bcell hbb6; (first | (have hs6 : w5.heap.size < w6.heap.size := by have := hbb6.size; simp at this; omega) | skip); (first | (have hs7 : w3.heap.size < w6.heap.size := by have := hbb6.size; have := hbb5.size; simp at *; omega) | skip))))
      all_goals (
        obtain ⟨hBx, -, -, -, -, -, z0, z1⟩ := ‹Below w3.heap.size w3 _ ∧ _›
        go_wp2
        go_ret
        exact ⟨rfl, hB3.trans (hBx.mono (by have := hB3.size; omega))⟩)
end Go.Proofs.Ytjjahefedpfnaaa
