import Derived.Test.YtjjahefedpfnaaaE28
namespace Go.Proofs.Ytjjahefedpfnaaa
open Go.RowKit
theorem Frm.extB {w w' : World} {n B : Nat} {V : View} {am al ad : Option Addr} {cm cl cd : Nat} {r : Nat → Int} {x y : Int} (h : Frm w n V am al ad cm cl cd r x y) (hb : Below B w w') (hB : n + 1 + 1 < B) : Frm w' n V am al ad cm cl cd r x y :=
  ⟨h.vb.ext hb (by omega), h.rb.ext hb (by omega), (hb.cell (by exact hB)).trans h.c0, (hb.cell (by exact hB)).trans h.c1⟩
theorem upRef_none {r : Nat → Int} {V : View} {am al ad : Option Addr} {cm cl cd : Nat} {x y : Int} {w : World} (h : Hid (upP V (hasRu r) (x, y) = none)) (hV : ViewR w am al ad V) (hf : Fine V) :
    Calls Try.prog 54 #[viewV V am al ad cm cl cd, .agg (RL r).toArray, .agg #[.int .u16 x, .int .u32 y]] w fun e w' => e = .returned (.tuple #[.agg #[.int .u16 0, .int .u32 0], .bool false]) ∧ Below w.heap.size w w' := by
  have := upRef_any r V am al ad cm cl cd x y w hV hf
  rw [h.out] at this; exact this
theorem upRef_some {r : Nat → Int} {V : View} {am al ad : Option Addr} {cm cl cd : Nat} {x y u v : Int} {w : World} (h : Hid (upP V (hasRu r) (x, y) = some (u, v))) (hV : ViewR w am al ad V) (hf : Fine V) :
    Calls Try.prog 54 #[viewV V am al ad cm cl cd, .agg (RL r).toArray, .agg #[.int .u16 x, .int .u32 y]] w fun e w' => e = .returned (.tuple #[.agg #[.int .u16 u, .int .u32 v], .bool true]) ∧ Below w.heap.size w w' := by
  have := upRef_any r V am al ad cm cl cd x y w hV hf
  rw [h.out] at this; exact this

set_option maxRecDepth 100000 in
set_option maxHeartbeats 12800000 in
theorem pathRef_any (r : Nat → Int) (V : View) (am al ad : Option Addr) (cm cl cd : Nat) (x y : Int) (w : World) (hV : ViewR w am al ad V) (hf : Fine V) :
    Calls Try.prog 63 #[viewV V am al ad cm cl cd, .agg (RL r).toArray, .agg #[.int .u16 x, .int .u32 y]] w fun e w' => ∃ v, e = .returned v ∧ OwnP w' w.heap.size v (pathP V (hasRu r) (x, y)) ∧ Below w.heap.size w w' := by
  have hB2 : Below w.heap.size w (((w.alloc (.cells (vcells V am al ad cm cl cd) 68)).alloc (.cells (RL r).toArray 70)).alloc (.cells #[.int .u16 x, .int .u32 y] 32)) := (((Below.refl _ _).alloc (Nat.le_refl _) _).alloc (by simp) _).alloc (by simp; omega) _
  have F2 := Frm.made w V am al ad cm cl cd r x y
  have hV2 := hV.ext hB2
  have hlm := hf.ms
  obtain ⟨w2, hw2⟩ : ∃ w2, (((w.alloc (.cells (vcells V am al ad cm cl cd) 68)).alloc (.cells (RL r).toArray 70)).alloc (.cells #[.int .u16 x, .int .u32 y] 32)) = w2 := ⟨_, rfl⟩
  rw [hw2] at hB2 F2 hV2
  obtain ⟨a20, a21, a22, a23⟩ := F2.vb
  have c20 := F2.c0
  have c21 := F2.c1
  obtain ⟨A0, hA0⟩ : ∃ A0, atIx V.ms (x, y) = A0 := ⟨_, rfl⟩
  have hAd := atIx_nonneg (p := (x, y)) (xs := V.ms)
  rw [hA0] at hAd
  have HA0 := hid hA0
  have hu70 := Try.underlying70
  have hi70 := info70L r
  by_cases hmem : (x, y) ∈ V.ms
  · have hAn : decide (A0 < 0) = false := by simp [hmem] at hAd; simp; omega
    obtain ⟨PP, hPP⟩ : ∃ PP, pathP V (hasRu r) (x, y) = PP := ⟨_, rfl⟩
    rw [hPP]
    have HPP : Hid (PP = pathGo V (hasRu r) 4 [(x, y)] (x, y)) := hid (by rw [← hPP]; unfold pathP; rw [if_pos hmem])
    clear hPP hmem hA0 hAd
    go_enter Try.func63, Try.ntmps63
    go_wp2_with ((go_at_call 83; refine (at83_is HA0 hlm hV2.ms).mono ?_; rintro e w4 ⟨rfl, hb4⟩; have z0 := cell_to c20 hb4; have z1 := cell_to c21 hb4))
    have F4 := F2.ext hb4
    have hB4 := hB2.trans (hb4.mono hB2.size)
    have hb45 : Below w4.heap.size w4 (w4.alloc (.cells #[.int .u16 x, .int .u32 y] 32)) := (Below.refl _ _).alloc (Nat.le_refl _) _
    have F3 := F4.ext hb45
    have hB3' := hB4.trans (hb45.mono hB4.size)
    have hV3 := (hV2.ext hb4).ext hb45
    have hown3 : OwnP (w4.alloc (.cells #[.int .u16 x, .int .u32 y] 32)) w4.heap.size (.slice (some ⟨w4.heap.size, 0, none⟩) 1 1) [(x, y)] := OwnP.made1 w4 x y (Nat.le_refl _)
    have hs43 := hb45.size
    have hgsn : w.heap.size + 1 + 1 < w4.heap.size := by have := World.block_lt_of_cell? w4 _ z0; simpa using this
    have hB4s := hB4.size
    clear a20 a21 a22 a23 c20 c21 z0 z1 hw2 F2 hV2 hb4 F4 hB2 hb45 hB4
    generalize (w4.alloc (.cells #[.int .u16 x, .int .u32 y] 32)) = w5 at F3 hB3' hV3 hown3 hs43 ⊢
    generalize w4.heap.size = gs at hown3 hs43 hB4s hgsn ⊢
    go_loopw [7, 8] (fun v i wr => ∃ (j : Nat) (got : List Pid) (a b : Int), j ≤ 4 ∧ i = .int .i64 j ∧ got.length = j + 1 ∧ got[j]? = some (a, b) ∧ Hid (PP = pathGo V (hasRu r) (4 - j) got (a, b)) ∧ OwnP wr gs v got ∧ Below gs w5 wr) (fun _ i _ => 4 - (intOf i).toNat)
    case atStart => exact ⟨0, [(x, y)], x, y, by omega, rfl, rfl, rfl, HPP, hown3, Below.refl _ _⟩
    case round =>
      obtain ⟨j, got, a, b, hj, rfl, hgl, hlast0, hM, hown, hb⟩ := hrel
      have hn3 : w.heap.size + 1 + 1 < gs := hgsn
      have hBw : Below w.heap.size w wr := hB3'.trans (hb.mono hB4s)
      have Fr := F3.extB hb hn3
      have hVr := hV.ext hBw
      have hs0 : gs ≤ w5.heap.size := hs43
      have hs1 : w5.heap.size ≤ wr.heap.size := hb.size
      have hs2 : gs ≤ wr.heap.size := by omega
      rcases (show j = 0 ∨ j = 1 ∨ j = 2 ∨ j = 3 ∨ j = 4 by omega) with rfl | rfl | rfl | rfl | rfl
      · obtain ⟨gv, cv, rfl, hrow⟩ := hown.head (by intro h; rw [h] at hgl; simp at hgl)
        obtain ⟨b0, o0, e0, -, hc0⟩ := hrow.get (by rw [hgl]; omega)
        cases e0
        obtain ⟨hJ, hgJ⟩ := List.getElem?_eq_some_iff.1 hlast0
        obtain ⟨e0, e1⟩ := hc0 0 hJ
        rw [hgJ] at e0 e1
        simp only [Nat.zero_add, Nat.zero_mul, Nat.one_mul, Nat.reduceMul, Nat.reduceAdd] at e0 e1
        have hgl' : got.length = 1 := hgl
        rw [hgl'] at hown ⊢
        have HN := hid hgl'
        clear hgl hgl' hc0 hJ hgJ hlast0 hrow
        have hw1 : IntKind.i64.wrap (((1 : Nat) : Int) - 1) = 0 := by decide
        have hw2 : IntKind.i64.wrap ((1 : Int) - 1) = 0 := by decide
        have hw3 : IntKind.i64.wrap (0 : Int) = 0 := by decide
        have hw4 : decide ((0 : Int) < 1) = true := by decide
        cases hu : upP V (hasRu r) (a, b) with
        | none =>
          have HU := hid hu
          have HP : Hid (PP = got) := hid (by rw [hM.out, pathGo_none hu])
          clear hu
          have HS : Hid (∀ W, Below wr.heap.size wr W → Below wr.heap.size wr W ∧ W.rangeAt (w.heap.size + 1) 0 (RL r) ∧ W.cell? ⟨w.heap.size, 0, none⟩ = some (.int .u64 V.id) ∧ W.cell? ⟨w.heap.size, 1, none⟩ = some (.slice am V.ms.length cm) ∧ W.cell? ⟨w.heap.size, 2, none⟩ = some (.slice al V.ls.length cl) ∧ W.cell? ⟨w.heap.size, 3, none⟩ = some (.slice ad V.ds.length cd) ∧ W.cell? ⟨gv, 0, none⟩ = some (.int .u16 a) ∧ W.cell? ⟨gv, 1, none⟩ = some (.int .u32 b)) := hid fun W h => ⟨h, (Fr.ext h).rb.range, (Fr.ext h).vb.c0, (Fr.ext h).vb.c1, (Fr.ext h).vb.c2, (Fr.ext h).vb.c3, cell_to e0 h, cell_to e1 h⟩
          have C1 : Hid (∀ W, Below wr.heap.size wr W → Calls Try.prog 54 #[.agg #[.int .u64 V.id, .slice am V.ms.length cm, .slice al V.ls.length cl, .slice ad V.ds.length cd], .agg (RL r).toArray, .agg #[.int .u16 a, .int .u32 b]] W fun e w' => e = .returned (.tuple #[.agg #[.int .u16 0, .int .u32 0], .bool false]) ∧ Below W.heap.size W w' ∧ Below wr.heap.size wr w') := hid fun W h => ((upRef_none HU (hVr.ext h) hf).mono fun e w' ⟨h1, h2⟩ => ⟨h1, h2, h.trans (h2.mono h.size)⟩)
          have H0 : Below wr.heap.size wr wr.drew := (Below.refl _ _).drew
          go_wp2_with fail
          go_region_held3 (fun W => Below wr.heap.size wr W ∧ W.rangeAt (w.heap.size + 1) 0 (RL r) ∧ W.cell? ⟨w.heap.size, 0, none⟩ = some (.int .u64 V.id) ∧ W.cell? ⟨w.heap.size, 1, none⟩ = some (.slice am V.ms.length cm) ∧ W.cell? ⟨w.heap.size, 2, none⟩ = some (.slice al V.ls.length cl) ∧ W.cell? ⟨w.heap.size, 3, none⟩ = some (.slice ad V.ds.length cd) ∧ W.cell? ⟨gv, 0, none⟩ = some (.int .u16 a) ∧ W.cell? ⟨gv, 1, none⟩ = some (.int .u32 b)) (first | exact HS.out _ H0 | exact HS.out _ (by assumption) | exact HS.out _ (Below.alloc (by assumption) (Below.size (by assumption)) _) | exact HS.out _ (below_put (by assumption) (by first | exact Nat.le_refl _ | exact Below.size (by assumption)) _ _)) ((go_at_call 54; refine (C1.out _ (by first | assumption | exact Below.alloc (by assumption) (Below.size (by assumption)) _)).mono ?_; rintro e w15 ⟨rfl, hbb15, hb15⟩; obtain ⟨hc15, hf15⟩ := bcell hbb15; try (have hs15 : wr.heap.size < w15.heap.size := by have := hbb15.size; simp at this; omega)))
          all_goals (
            obtain ⟨hBx, -⟩ := ‹Below wr.heap.size wr _ ∧ _›
            go_wp2
            go_ret
            exact ⟨_, rfl, by rw [HP.out]; exact OwnP.mono (b := gs) (b' := w.heap.size) (hown.ext hBx) hB4s, hBw.trans (hBx.mono hBw.size)⟩)
        | some q =>
          obtain ⟨u, v⟩ := q
          have HU := hid hu
          have hM2 : Hid (PP = pathGo V (hasRu r) (4 - 1) (got ++ [(u, v)]) (u, v)) := hid (by rw [hM.out]; exact pathGo_some hu)
          clear hu
          have HS : Hid (∀ W, Below wr.heap.size wr W → Below wr.heap.size wr W ∧ W.rangeAt (w.heap.size + 1) 0 (RL r) ∧ W.cell? ⟨w.heap.size, 0, none⟩ = some (.int .u64 V.id) ∧ W.cell? ⟨w.heap.size, 1, none⟩ = some (.slice am V.ms.length cm) ∧ W.cell? ⟨w.heap.size, 2, none⟩ = some (.slice al V.ls.length cl) ∧ W.cell? ⟨w.heap.size, 3, none⟩ = some (.slice ad V.ds.length cd) ∧ W.cell? ⟨gv, 0, none⟩ = some (.int .u16 a) ∧ W.cell? ⟨gv, 1, none⟩ = some (.int .u32 b)) := hid fun W h => ⟨h, (Fr.ext h).rb.range, (Fr.ext h).vb.c0, (Fr.ext h).vb.c1, (Fr.ext h).vb.c2, (Fr.ext h).vb.c3, cell_to e0 h, cell_to e1 h⟩
          have C1 : Hid (∀ W, Below wr.heap.size wr W → Calls Try.prog 54 #[.agg #[.int .u64 V.id, .slice am V.ms.length cm, .slice al V.ls.length cl, .slice ad V.ds.length cd], .agg (RL r).toArray, .agg #[.int .u16 a, .int .u32 b]] W fun e w' => e = .returned (.tuple #[.agg #[.int .u16 u, .int .u32 v], .bool true]) ∧ Below W.heap.size W w' ∧ Below wr.heap.size wr w') := hid fun W h => ((upRef_some HU (hVr.ext h) hf).mono fun e w' ⟨h1, h2⟩ => ⟨h1, h2, h.trans (h2.mono h.size)⟩)
          have H0 : Below wr.heap.size wr wr.drew := (Below.refl _ _).drew
          go_wp2_with fail
          go_region_held3 (fun W => Below wr.heap.size wr W ∧ W.rangeAt (w.heap.size + 1) 0 (RL r) ∧ W.cell? ⟨w.heap.size, 0, none⟩ = some (.int .u64 V.id) ∧ W.cell? ⟨w.heap.size, 1, none⟩ = some (.slice am V.ms.length cm) ∧ W.cell? ⟨w.heap.size, 2, none⟩ = some (.slice al V.ls.length cl) ∧ W.cell? ⟨w.heap.size, 3, none⟩ = some (.slice ad V.ds.length cd) ∧ W.cell? ⟨gv, 0, none⟩ = some (.int .u16 a) ∧ W.cell? ⟨gv, 1, none⟩ = some (.int .u32 b)) (first | exact HS.out _ H0 | exact HS.out _ (by assumption) | exact HS.out _ (Below.alloc (by assumption) (Below.size (by assumption)) _) | exact HS.out _ (below_put (by assumption) (by first | exact Nat.le_refl _ | exact Below.size (by assumption)) _ _)) ((go_at_call 54; refine (C1.out _ (by first | assumption | exact Below.alloc (by assumption) (Below.size (by assumption)) _)).mono ?_; rintro e w15 ⟨rfl, hbb15, hb15⟩; obtain ⟨hc15, hf15⟩ := bcell hbb15; try (have hs15 : wr.heap.size < w15.heap.size := by have := hbb15.size; simp at this; omega)))
          all_goals (
            obtain ⟨hBx, -⟩ := ‹Below wr.heap.size wr _ ∧ _›
            have hownx := hown.ext hBx
            have hszx := hBx.size
            go_wp2_with ((at_builtin; refine wpList_appendP (hownx.alloc _) (PidRow.one' _ (by simp) u v) (by have := HN.out; simp; omega) (Nat.le_trans (Nat.le_trans hs2 hBx.size) (by simp)) rfl rfl rfl rfl ?_; intro v9 w9 hown9 hg9 hnil9))
            have hB9 : Below gs w5 w9 := ((hb.trans (hBx.mono hs2)).alloc (Nat.le_trans hs2 hBx.size) _).grown hg9 (Nat.le_trans (Nat.le_trans hs2 hBx.size) (by simp)) (fun g hg => (World.ownsRow.lt hown g hg).1)
            go_roundw)
          all_goals first
            | (case measure => simp [intOf])
            | (case rel => exact ⟨1, got ++ [(u, v)], u, v, by omega, by go_num, by simp [HN.out], by simp [HN.out], hM2, hown9, hB9⟩)
      · obtain ⟨gv, cv, rfl, hrow⟩ := hown.head (by intro h; rw [h] at hgl; simp at hgl)
        obtain ⟨b0, o0, e0, -, hc0⟩ := hrow.get (by rw [hgl]; omega)
        cases e0
        obtain ⟨hJ, hgJ⟩ := List.getElem?_eq_some_iff.1 hlast0
        obtain ⟨e0, e1⟩ := hc0 1 hJ
        rw [hgJ] at e0 e1
        simp only [Nat.zero_add, Nat.zero_mul, Nat.one_mul, Nat.reduceMul, Nat.reduceAdd] at e0 e1
        have hgl' : got.length = 2 := hgl
        rw [hgl'] at hown ⊢
        have HN := hid hgl'
        clear hgl hgl' hc0 hJ hgJ hlast0 hrow
        have hw1 : IntKind.i64.wrap (((2 : Nat) : Int) - 1) = 1 := by decide
        have hw2 : IntKind.i64.wrap ((2 : Int) - 1) = 1 := by decide
        have hw3 : IntKind.i64.wrap (1 : Int) = 1 := by decide
        have hw4 : decide ((1 : Int) < 2) = true := by decide
        cases hu : upP V (hasRu r) (a, b) with
        | none =>
          have HU := hid hu
          have HP : Hid (PP = got) := hid (by rw [hM.out, pathGo_none hu])
          clear hu
          have HS : Hid (∀ W, Below wr.heap.size wr W → Below wr.heap.size wr W ∧ W.rangeAt (w.heap.size + 1) 0 (RL r) ∧ W.cell? ⟨w.heap.size, 0, none⟩ = some (.int .u64 V.id) ∧ W.cell? ⟨w.heap.size, 1, none⟩ = some (.slice am V.ms.length cm) ∧ W.cell? ⟨w.heap.size, 2, none⟩ = some (.slice al V.ls.length cl) ∧ W.cell? ⟨w.heap.size, 3, none⟩ = some (.slice ad V.ds.length cd) ∧ W.cell? ⟨gv, 2, none⟩ = some (.int .u16 a) ∧ W.cell? ⟨gv, 3, none⟩ = some (.int .u32 b)) := hid fun W h => ⟨h, (Fr.ext h).rb.range, (Fr.ext h).vb.c0, (Fr.ext h).vb.c1, (Fr.ext h).vb.c2, (Fr.ext h).vb.c3, cell_to e0 h, cell_to e1 h⟩
          have C1 : Hid (∀ W, Below wr.heap.size wr W → Calls Try.prog 54 #[.agg #[.int .u64 V.id, .slice am V.ms.length cm, .slice al V.ls.length cl, .slice ad V.ds.length cd], .agg (RL r).toArray, .agg #[.int .u16 a, .int .u32 b]] W fun e w' => e = .returned (.tuple #[.agg #[.int .u16 0, .int .u32 0], .bool false]) ∧ Below W.heap.size W w' ∧ Below wr.heap.size wr w') := hid fun W h => ((upRef_none HU (hVr.ext h) hf).mono fun e w' ⟨h1, h2⟩ => ⟨h1, h2, h.trans (h2.mono h.size)⟩)
          have H0 : Below wr.heap.size wr wr.drew := (Below.refl _ _).drew
          go_wp2_with fail
          go_region_held3 (fun W => Below wr.heap.size wr W ∧ W.rangeAt (w.heap.size + 1) 0 (RL r) ∧ W.cell? ⟨w.heap.size, 0, none⟩ = some (.int .u64 V.id) ∧ W.cell? ⟨w.heap.size, 1, none⟩ = some (.slice am V.ms.length cm) ∧ W.cell? ⟨w.heap.size, 2, none⟩ = some (.slice al V.ls.length cl) ∧ W.cell? ⟨w.heap.size, 3, none⟩ = some (.slice ad V.ds.length cd) ∧ W.cell? ⟨gv, 2, none⟩ = some (.int .u16 a) ∧ W.cell? ⟨gv, 3, none⟩ = some (.int .u32 b)) (first | exact HS.out _ H0 | exact HS.out _ (by assumption) | exact HS.out _ (Below.alloc (by assumption) (Below.size (by assumption)) _) | exact HS.out _ (below_put (by assumption) (by first | exact Nat.le_refl _ | exact Below.size (by assumption)) _ _)) ((go_at_call 54; refine (C1.out _ (by first | assumption | exact Below.alloc (by assumption) (Below.size (by assumption)) _)).mono ?_; rintro e w15 ⟨rfl, hbb15, hb15⟩; obtain ⟨hc15, hf15⟩ := bcell hbb15; try (have hs15 : wr.heap.size < w15.heap.size := by have := hbb15.size; simp at this; omega)))
          all_goals (
            obtain ⟨hBx, -⟩ := ‹Below wr.heap.size wr _ ∧ _›
            go_wp2
            go_ret
            exact ⟨_, rfl, by rw [HP.out]; exact OwnP.mono (b := gs) (b' := w.heap.size) (hown.ext hBx) hB4s, hBw.trans (hBx.mono hBw.size)⟩)
        | some q =>
          obtain ⟨u, v⟩ := q
          have HU := hid hu
          have hM2 : Hid (PP = pathGo V (hasRu r) (4 - 2) (got ++ [(u, v)]) (u, v)) := hid (by rw [hM.out]; exact pathGo_some hu)
          clear hu
          have HS : Hid (∀ W, Below wr.heap.size wr W → Below wr.heap.size wr W ∧ W.rangeAt (w.heap.size + 1) 0 (RL r) ∧ W.cell? ⟨w.heap.size, 0, none⟩ = some (.int .u64 V.id) ∧ W.cell? ⟨w.heap.size, 1, none⟩ = some (.slice am V.ms.length cm) ∧ W.cell? ⟨w.heap.size, 2, none⟩ = some (.slice al V.ls.length cl) ∧ W.cell? ⟨w.heap.size, 3, none⟩ = some (.slice ad V.ds.length cd) ∧ W.cell? ⟨gv, 2, none⟩ = some (.int .u16 a) ∧ W.cell? ⟨gv, 3, none⟩ = some (.int .u32 b)) := hid fun W h => ⟨h, (Fr.ext h).rb.range, (Fr.ext h).vb.c0, (Fr.ext h).vb.c1, (Fr.ext h).vb.c2, (Fr.ext h).vb.c3, cell_to e0 h, cell_to e1 h⟩
          have C1 : Hid (∀ W, Below wr.heap.size wr W → Calls Try.prog 54 #[.agg #[.int .u64 V.id, .slice am V.ms.length cm, .slice al V.ls.length cl, .slice ad V.ds.length cd], .agg (RL r).toArray, .agg #[.int .u16 a, .int .u32 b]] W fun e w' => e = .returned (.tuple #[.agg #[.int .u16 u, .int .u32 v], .bool true]) ∧ Below W.heap.size W w' ∧ Below wr.heap.size wr w') := hid fun W h => ((upRef_some HU (hVr.ext h) hf).mono fun e w' ⟨h1, h2⟩ => ⟨h1, h2, h.trans (h2.mono h.size)⟩)
          have H0 : Below wr.heap.size wr wr.drew := (Below.refl _ _).drew
          go_wp2_with fail
          go_region_held3 (fun W => Below wr.heap.size wr W ∧ W.rangeAt (w.heap.size + 1) 0 (RL r) ∧ W.cell? ⟨w.heap.size, 0, none⟩ = some (.int .u64 V.id) ∧ W.cell? ⟨w.heap.size, 1, none⟩ = some (.slice am V.ms.length cm) ∧ W.cell? ⟨w.heap.size, 2, none⟩ = some (.slice al V.ls.length cl) ∧ W.cell? ⟨w.heap.size, 3, none⟩ = some (.slice ad V.ds.length cd) ∧ W.cell? ⟨gv, 2, none⟩ = some (.int .u16 a) ∧ W.cell? ⟨gv, 3, none⟩ = some (.int .u32 b)) (first | exact HS.out _ H0 | exact HS.out _ (by assumption) | exact HS.out _ (Below.alloc (by assumption) (Below.size (by assumption)) _) | exact HS.out _ (below_put (by assumption) (by first | exact Nat.le_refl _ | exact Below.size (by assumption)) _ _)) ((go_at_call 54; refine (C1.out _ (by first | assumption | exact Below.alloc (by assumption) (Below.size (by assumption)) _)).mono ?_; rintro e w15 ⟨rfl, hbb15, hb15⟩; obtain ⟨hc15, hf15⟩ := bcell hbb15; try (have hs15 : wr.heap.size < w15.heap.size := by have := hbb15.size; simp at this; omega)))
          all_goals (
            obtain ⟨hBx, -⟩ := ‹Below wr.heap.size wr _ ∧ _›
            have hownx := hown.ext hBx
            have hszx := hBx.size
            go_wp2_with ((at_builtin; refine wpList_appendP (hownx.alloc _) (PidRow.one' _ (by simp) u v) (by have := HN.out; simp; omega) (Nat.le_trans (Nat.le_trans hs2 hBx.size) (by simp)) rfl rfl rfl rfl ?_; intro v9 w9 hown9 hg9 hnil9))
            have hB9 : Below gs w5 w9 := ((hb.trans (hBx.mono hs2)).alloc (Nat.le_trans hs2 hBx.size) _).grown hg9 (Nat.le_trans (Nat.le_trans hs2 hBx.size) (by simp)) (fun g hg => (World.ownsRow.lt hown g hg).1)
            go_roundw)
          all_goals first
            | (case measure => simp [intOf])
            | (case rel => exact ⟨2, got ++ [(u, v)], u, v, by omega, by go_num, by simp [HN.out], by simp [HN.out], hM2, hown9, hB9⟩)
      · obtain ⟨gv, cv, rfl, hrow⟩ := hown.head (by intro h; rw [h] at hgl; simp at hgl)
        obtain ⟨b0, o0, e0, -, hc0⟩ := hrow.get (by rw [hgl]; omega)
        cases e0
        obtain ⟨hJ, hgJ⟩ := List.getElem?_eq_some_iff.1 hlast0
        obtain ⟨e0, e1⟩ := hc0 2 hJ
        rw [hgJ] at e0 e1
        simp only [Nat.zero_add, Nat.zero_mul, Nat.one_mul, Nat.reduceMul, Nat.reduceAdd] at e0 e1
        have hgl' : got.length = 3 := hgl
        rw [hgl'] at hown ⊢
        have HN := hid hgl'
        clear hgl hgl' hc0 hJ hgJ hlast0 hrow
        have hw1 : IntKind.i64.wrap (((3 : Nat) : Int) - 1) = 2 := by decide
        have hw2 : IntKind.i64.wrap ((3 : Int) - 1) = 2 := by decide
        have hw3 : IntKind.i64.wrap (2 : Int) = 2 := by decide
        have hw4 : decide ((2 : Int) < 3) = true := by decide
        cases hu : upP V (hasRu r) (a, b) with
        | none =>
          have HU := hid hu
          have HP : Hid (PP = got) := hid (by rw [hM.out, pathGo_none hu])
          clear hu
          have HS : Hid (∀ W, Below wr.heap.size wr W → Below wr.heap.size wr W ∧ W.rangeAt (w.heap.size + 1) 0 (RL r) ∧ W.cell? ⟨w.heap.size, 0, none⟩ = some (.int .u64 V.id) ∧ W.cell? ⟨w.heap.size, 1, none⟩ = some (.slice am V.ms.length cm) ∧ W.cell? ⟨w.heap.size, 2, none⟩ = some (.slice al V.ls.length cl) ∧ W.cell? ⟨w.heap.size, 3, none⟩ = some (.slice ad V.ds.length cd) ∧ W.cell? ⟨gv, 4, none⟩ = some (.int .u16 a) ∧ W.cell? ⟨gv, 5, none⟩ = some (.int .u32 b)) := hid fun W h => ⟨h, (Fr.ext h).rb.range, (Fr.ext h).vb.c0, (Fr.ext h).vb.c1, (Fr.ext h).vb.c2, (Fr.ext h).vb.c3, cell_to e0 h, cell_to e1 h⟩
          have C1 : Hid (∀ W, Below wr.heap.size wr W → Calls Try.prog 54 #[.agg #[.int .u64 V.id, .slice am V.ms.length cm, .slice al V.ls.length cl, .slice ad V.ds.length cd], .agg (RL r).toArray, .agg #[.int .u16 a, .int .u32 b]] W fun e w' => e = .returned (.tuple #[.agg #[.int .u16 0, .int .u32 0], .bool false]) ∧ Below W.heap.size W w' ∧ Below wr.heap.size wr w') := hid fun W h => ((upRef_none HU (hVr.ext h) hf).mono fun e w' ⟨h1, h2⟩ => ⟨h1, h2, h.trans (h2.mono h.size)⟩)
          have H0 : Below wr.heap.size wr wr.drew := (Below.refl _ _).drew
          go_wp2_with fail
          go_region_held3 (fun W => Below wr.heap.size wr W ∧ W.rangeAt (w.heap.size + 1) 0 (RL r) ∧ W.cell? ⟨w.heap.size, 0, none⟩ = some (.int .u64 V.id) ∧ W.cell? ⟨w.heap.size, 1, none⟩ = some (.slice am V.ms.length cm) ∧ W.cell? ⟨w.heap.size, 2, none⟩ = some (.slice al V.ls.length cl) ∧ W.cell? ⟨w.heap.size, 3, none⟩ = some (.slice ad V.ds.length cd) ∧ W.cell? ⟨gv, 4, none⟩ = some (.int .u16 a) ∧ W.cell? ⟨gv, 5, none⟩ = some (.int .u32 b)) (first | exact HS.out _ H0 | exact HS.out _ (by assumption) | exact HS.out _ (Below.alloc (by assumption) (Below.size (by assumption)) _) | exact HS.out _ (below_put (by assumption) (by first | exact Nat.le_refl _ | exact Below.size (by assumption)) _ _)) ((go_at_call 54; refine (C1.out _ (by first | assumption | exact Below.alloc (by assumption) (Below.size (by assumption)) _)).mono ?_; rintro e w15 ⟨rfl, hbb15, hb15⟩; obtain ⟨hc15, hf15⟩ := bcell hbb15; try (have hs15 : wr.heap.size < w15.heap.size := by have := hbb15.size; simp at this; omega)))
          all_goals (
            obtain ⟨hBx, -⟩ := ‹Below wr.heap.size wr _ ∧ _›
            go_wp2
            go_ret
            exact ⟨_, rfl, by rw [HP.out]; exact OwnP.mono (b := gs) (b' := w.heap.size) (hown.ext hBx) hB4s, hBw.trans (hBx.mono hBw.size)⟩)
        | some q =>
          obtain ⟨u, v⟩ := q
          have HU := hid hu
          have hM2 : Hid (PP = pathGo V (hasRu r) (4 - 3) (got ++ [(u, v)]) (u, v)) := hid (by rw [hM.out]; exact pathGo_some hu)
          clear hu
          have HS : Hid (∀ W, Below wr.heap.size wr W → Below wr.heap.size wr W ∧ W.rangeAt (w.heap.size + 1) 0 (RL r) ∧ W.cell? ⟨w.heap.size, 0, none⟩ = some (.int .u64 V.id) ∧ W.cell? ⟨w.heap.size, 1, none⟩ = some (.slice am V.ms.length cm) ∧ W.cell? ⟨w.heap.size, 2, none⟩ = some (.slice al V.ls.length cl) ∧ W.cell? ⟨w.heap.size, 3, none⟩ = some (.slice ad V.ds.length cd) ∧ W.cell? ⟨gv, 4, none⟩ = some (.int .u16 a) ∧ W.cell? ⟨gv, 5, none⟩ = some (.int .u32 b)) := hid fun W h => ⟨h, (Fr.ext h).rb.range, (Fr.ext h).vb.c0, (Fr.ext h).vb.c1, (Fr.ext h).vb.c2, (Fr.ext h).vb.c3, cell_to e0 h, cell_to e1 h⟩
          have C1 : Hid (∀ W, Below wr.heap.size wr W → Calls Try.prog 54 #[.agg #[.int .u64 V.id, .slice am V.ms.length cm, .slice al V.ls.length cl, .slice ad V.ds.length cd], .agg (RL r).toArray, .agg #[.int .u16 a, .int .u32 b]] W fun e w' => e = .returned (.tuple #[.agg #[.int .u16 u, .int .u32 v], .bool true]) ∧ Below W.heap.size W w' ∧ Below wr.heap.size wr w') := hid fun W h => ((upRef_some HU (hVr.ext h) hf).mono fun e w' ⟨h1, h2⟩ => ⟨h1, h2, h.trans (h2.mono h.size)⟩)
          have H0 : Below wr.heap.size wr wr.drew := (Below.refl _ _).drew
          go_wp2_with fail
          go_region_held3 (fun W => Below wr.heap.size wr W ∧ W.rangeAt (w.heap.size + 1) 0 (RL r) ∧ W.cell? ⟨w.heap.size, 0, none⟩ = some (.int .u64 V.id) ∧ W.cell? ⟨w.heap.size, 1, none⟩ = some (.slice am V.ms.length cm) ∧ W.cell? ⟨w.heap.size, 2, none⟩ = some (.slice al V.ls.length cl) ∧ W.cell? ⟨w.heap.size, 3, none⟩ = some (.slice ad V.ds.length cd) ∧ W.cell? ⟨gv, 4, none⟩ = some (.int .u16 a) ∧ W.cell? ⟨gv, 5, none⟩ = some (.int .u32 b)) (first | exact HS.out _ H0 | exact HS.out _ (by assumption) | exact HS.out _ (Below.alloc (by assumption) (Below.size (by assumption)) _) | exact HS.out _ (below_put (by assumption) (by first | exact Nat.le_refl _ | exact Below.size (by assumption)) _ _)) ((go_at_call 54; refine (C1.out _ (by first | assumption | exact Below.alloc (by assumption) (Below.size (by assumption)) _)).mono ?_; rintro e w15 ⟨rfl, hbb15, hb15⟩; obtain ⟨hc15, hf15⟩ := bcell hbb15; try (have hs15 : wr.heap.size < w15.heap.size := by have := hbb15.size; simp at this; omega)))
          all_goals (
            obtain ⟨hBx, -⟩ := ‹Below wr.heap.size wr _ ∧ _›
            have hownx := hown.ext hBx
            have hszx := hBx.size
            go_wp2_with ((at_builtin; refine wpList_appendP (hownx.alloc _) (PidRow.one' _ (by simp) u v) (by have := HN.out; simp; omega) (Nat.le_trans (Nat.le_trans hs2 hBx.size) (by simp)) rfl rfl rfl rfl ?_; intro v9 w9 hown9 hg9 hnil9))
            have hB9 : Below gs w5 w9 := ((hb.trans (hBx.mono hs2)).alloc (Nat.le_trans hs2 hBx.size) _).grown hg9 (Nat.le_trans (Nat.le_trans hs2 hBx.size) (by simp)) (fun g hg => (World.ownsRow.lt hown g hg).1)
            go_roundw)
          all_goals first
            | (case measure => simp [intOf])
            | (case rel => exact ⟨3, got ++ [(u, v)], u, v, by omega, by go_num, by simp [HN.out], by simp [HN.out], hM2, hown9, hB9⟩)
      · obtain ⟨gv, cv, rfl, hrow⟩ := hown.head (by intro h; rw [h] at hgl; simp at hgl)
        obtain ⟨b0, o0, e0, -, hc0⟩ := hrow.get (by rw [hgl]; omega)
        cases e0
        obtain ⟨hJ, hgJ⟩ := List.getElem?_eq_some_iff.1 hlast0
        obtain ⟨e0, e1⟩ := hc0 3 hJ
        rw [hgJ] at e0 e1
        simp only [Nat.zero_add, Nat.zero_mul, Nat.one_mul, Nat.reduceMul, Nat.reduceAdd] at e0 e1
        have hgl' : got.length = 4 := hgl
        rw [hgl'] at hown ⊢
        have HN := hid hgl'
        clear hgl hgl' hc0 hJ hgJ hlast0 hrow
        have hw1 : IntKind.i64.wrap (((4 : Nat) : Int) - 1) = 3 := by decide
        have hw2 : IntKind.i64.wrap ((4 : Int) - 1) = 3 := by decide
        have hw3 : IntKind.i64.wrap (3 : Int) = 3 := by decide
        have hw4 : decide ((3 : Int) < 4) = true := by decide
        cases hu : upP V (hasRu r) (a, b) with
        | none =>
          have HU := hid hu
          have HP : Hid (PP = got) := hid (by rw [hM.out, pathGo_none hu])
          clear hu
          have HS : Hid (∀ W, Below wr.heap.size wr W → Below wr.heap.size wr W ∧ W.rangeAt (w.heap.size + 1) 0 (RL r) ∧ W.cell? ⟨w.heap.size, 0, none⟩ = some (.int .u64 V.id) ∧ W.cell? ⟨w.heap.size, 1, none⟩ = some (.slice am V.ms.length cm) ∧ W.cell? ⟨w.heap.size, 2, none⟩ = some (.slice al V.ls.length cl) ∧ W.cell? ⟨w.heap.size, 3, none⟩ = some (.slice ad V.ds.length cd) ∧ W.cell? ⟨gv, 6, none⟩ = some (.int .u16 a) ∧ W.cell? ⟨gv, 7, none⟩ = some (.int .u32 b)) := hid fun W h => ⟨h, (Fr.ext h).rb.range, (Fr.ext h).vb.c0, (Fr.ext h).vb.c1, (Fr.ext h).vb.c2, (Fr.ext h).vb.c3, cell_to e0 h, cell_to e1 h⟩
          have C1 : Hid (∀ W, Below wr.heap.size wr W → Calls Try.prog 54 #[.agg #[.int .u64 V.id, .slice am V.ms.length cm, .slice al V.ls.length cl, .slice ad V.ds.length cd], .agg (RL r).toArray, .agg #[.int .u16 a, .int .u32 b]] W fun e w' => e = .returned (.tuple #[.agg #[.int .u16 0, .int .u32 0], .bool false]) ∧ Below W.heap.size W w' ∧ Below wr.heap.size wr w') := hid fun W h => ((upRef_none HU (hVr.ext h) hf).mono fun e w' ⟨h1, h2⟩ => ⟨h1, h2, h.trans (h2.mono h.size)⟩)
          have H0 : Below wr.heap.size wr wr.drew := (Below.refl _ _).drew
          go_wp2_with fail
          go_region_held3 (fun W => Below wr.heap.size wr W ∧ W.rangeAt (w.heap.size + 1) 0 (RL r) ∧ W.cell? ⟨w.heap.size, 0, none⟩ = some (.int .u64 V.id) ∧ W.cell? ⟨w.heap.size, 1, none⟩ = some (.slice am V.ms.length cm) ∧ W.cell? ⟨w.heap.size, 2, none⟩ = some (.slice al V.ls.length cl) ∧ W.cell? ⟨w.heap.size, 3, none⟩ = some (.slice ad V.ds.length cd) ∧ W.cell? ⟨gv, 6, none⟩ = some (.int .u16 a) ∧ W.cell? ⟨gv, 7, none⟩ = some (.int .u32 b)) (first | exact HS.out _ H0 | exact HS.out _ (by assumption) | exact HS.out _ (Below.alloc (by assumption) (Below.size (by assumption)) _) | exact HS.out _ (below_put (by assumption) (by first | exact Nat.le_refl _ | exact Below.size (by assumption)) _ _)) ((go_at_call 54; refine (C1.out _ (by first | assumption | exact Below.alloc (by assumption) (Below.size (by assumption)) _)).mono ?_; rintro e w15 ⟨rfl, hbb15, hb15⟩; obtain ⟨hc15, hf15⟩ := bcell hbb15; try (have hs15 : wr.heap.size < w15.heap.size := by have := hbb15.size; simp at this; omega)))
          all_goals (
            obtain ⟨hBx, -⟩ := ‹Below wr.heap.size wr _ ∧ _›
            go_wp2
            go_ret
            exact ⟨_, rfl, by rw [HP.out]; exact OwnP.mono (b := gs) (b' := w.heap.size) (hown.ext hBx) hB4s, hBw.trans (hBx.mono hBw.size)⟩)
        | some q =>
          obtain ⟨u, v⟩ := q
          have HU := hid hu
          have hM2 : Hid (PP = pathGo V (hasRu r) (4 - 4) (got ++ [(u, v)]) (u, v)) := hid (by rw [hM.out]; exact pathGo_some hu)
          clear hu
          have HS : Hid (∀ W, Below wr.heap.size wr W → Below wr.heap.size wr W ∧ W.rangeAt (w.heap.size + 1) 0 (RL r) ∧ W.cell? ⟨w.heap.size, 0, none⟩ = some (.int .u64 V.id) ∧ W.cell? ⟨w.heap.size, 1, none⟩ = some (.slice am V.ms.length cm) ∧ W.cell? ⟨w.heap.size, 2, none⟩ = some (.slice al V.ls.length cl) ∧ W.cell? ⟨w.heap.size, 3, none⟩ = some (.slice ad V.ds.length cd) ∧ W.cell? ⟨gv, 6, none⟩ = some (.int .u16 a) ∧ W.cell? ⟨gv, 7, none⟩ = some (.int .u32 b)) := hid fun W h => ⟨h, (Fr.ext h).rb.range, (Fr.ext h).vb.c0, (Fr.ext h).vb.c1, (Fr.ext h).vb.c2, (Fr.ext h).vb.c3, cell_to e0 h, cell_to e1 h⟩
          have C1 : Hid (∀ W, Below wr.heap.size wr W → Calls Try.prog 54 #[.agg #[.int .u64 V.id, .slice am V.ms.length cm, .slice al V.ls.length cl, .slice ad V.ds.length cd], .agg (RL r).toArray, .agg #[.int .u16 a, .int .u32 b]] W fun e w' => e = .returned (.tuple #[.agg #[.int .u16 u, .int .u32 v], .bool true]) ∧ Below W.heap.size W w' ∧ Below wr.heap.size wr w') := hid fun W h => ((upRef_some HU (hVr.ext h) hf).mono fun e w' ⟨h1, h2⟩ => ⟨h1, h2, h.trans (h2.mono h.size)⟩)
          have H0 : Below wr.heap.size wr wr.drew := (Below.refl _ _).drew
          go_wp2_with fail
          go_region_held3 (fun W => Below wr.heap.size wr W ∧ W.rangeAt (w.heap.size + 1) 0 (RL r) ∧ W.cell? ⟨w.heap.size, 0, none⟩ = some (.int .u64 V.id) ∧ W.cell? ⟨w.heap.size, 1, none⟩ = some (.slice am V.ms.length cm) ∧ W.cell? ⟨w.heap.size, 2, none⟩ = some (.slice al V.ls.length cl) ∧ W.cell? ⟨w.heap.size, 3, none⟩ = some (.slice ad V.ds.length cd) ∧ W.cell? ⟨gv, 6, none⟩ = some (.int .u16 a) ∧ W.cell? ⟨gv, 7, none⟩ = some (.int .u32 b)) (first | exact HS.out _ H0 | exact HS.out _ (by assumption) | exact HS.out _ (Below.alloc (by assumption) (Below.size (by assumption)) _) | exact HS.out _ (below_put (by assumption) (by first | exact Nat.le_refl _ | exact Below.size (by assumption)) _ _)) ((go_at_call 54; refine (C1.out _ (by first | assumption | exact Below.alloc (by assumption) (Below.size (by assumption)) _)).mono ?_; rintro e w15 ⟨rfl, hbb15, hb15⟩; obtain ⟨hc15, hf15⟩ := bcell hbb15; try (have hs15 : wr.heap.size < w15.heap.size := by have := hbb15.size; simp at this; omega)))
          all_goals (
            obtain ⟨hBx, -⟩ := ‹Below wr.heap.size wr _ ∧ _›
            have hownx := hown.ext hBx
            have hszx := hBx.size
            go_wp2_with ((at_builtin; refine wpList_appendP (hownx.alloc _) (PidRow.one' _ (by simp) u v) (by have := HN.out; simp; omega) (Nat.le_trans (Nat.le_trans hs2 hBx.size) (by simp)) rfl rfl rfl rfl ?_; intro v9 w9 hown9 hg9 hnil9))
            have hB9 : Below gs w5 w9 := ((hb.trans (hBx.mono hs2)).alloc (Nat.le_trans hs2 hBx.size) _).grown hg9 (Nat.le_trans (Nat.le_trans hs2 hBx.size) (by simp)) (fun g hg => (World.ownsRow.lt hown g hg).1)
            go_roundw)
          all_goals first
            | (case measure => simp [intOf])
            | (case rel => exact ⟨4, got ++ [(u, v)], u, v, by omega, by go_num, by simp [HN.out], by simp [HN.out], hM2, hown9, hB9⟩)
      · have HP : Hid (PP = got) := hid hM.out
        go_wp2
        go_ret
        exact ⟨_, rfl, by rw [HP.out]; exact OwnP.mono (b := gs) (b' := w.heap.size) hown hB4s, hBw⟩
  · have hAn : decide (A0 < 0) = true := by simp [hmem] at hAd; simp; omega
    have HP : Hid (pathP V (hasRu r) (x, y) = []) := hid (by unfold pathP; rw [if_neg hmem])
    clear hmem hA0 hAd
    go_enter Try.func63, Try.ntmps63
    go_wp2_with ((go_at_call 83; refine (at83_is HA0 hlm hV2.ms).mono ?_; rintro e w4 ⟨rfl, hb4⟩))
    go_ret
    exact ⟨_, rfl, by rw [HP.out]; exact OwnP.nil _ _, hB2.trans (hb4.mono hB2.size)⟩
end Go.Proofs.Ytjjahefedpfnaaa
