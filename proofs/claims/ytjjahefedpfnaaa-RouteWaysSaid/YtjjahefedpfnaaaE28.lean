import Derived.Test.YtjjahefedpfnaaaE22
namespace Go.Proofs.Ytjjahefedpfnaaa
open Go.RowKit
theorem Box2.extB {w w' : World} {b B : Nat} {v0 v1 : Value} (h : Box2 w b v0 v1) (hb : Below B w w') (hB : b < B) : Box2 w' b v0 v1 :=
  ⟨(hb.cell (by exact hB)).trans h.c0, (hb.cell (by exact hB)).trans h.c1, (hb.frozen (by exact hB)).trans h.f0, (hb.frozen (by exact hB)).trans h.f1⟩
theorem but2 (w : World) (b : Nat) (x y : Value) : But b w ((w.setCell ⟨b, 0, none⟩ x).setCell ⟨b, 1, none⟩ y) :=
  ⟨rfl, rfl, rfl, by simp, fun k hk => by rw [Below.heap_setCell _ _ _ _ hk, Below.heap_setCell _ _ _ _ hk]⟩
def pathGo (V : View) (S : Pid → Bool) : Nat → List Pid → Pid → List Pid
  | 0, got, _ => got
  | n + 1, got, p => match upP V S p with
    | none => got
    | some q => pathGo V S n (got ++ [q]) q
def pathP (V : View) (S : Pid → Bool) (p : Pid) : List Pid := if p ∈ V.ms then pathGo V S 4 [p] p else []
theorem pathGo_none {V : View} {S : Pid → Bool} {n : Nat} {got : List Pid} {p : Pid} (h : upP V S p = none) : pathGo V S n got p = got := by
  cases n with
  | zero => rfl
  | succ n => simp only [pathGo, h]
theorem pathGo_some {V : View} {S : Pid → Bool} {n : Nat} {got : List Pid} {p q : Pid} (h : upP V S p = some q) : pathGo V S (n + 1) got p = pathGo V S n (got ++ [q]) q := by simp only [pathGo, h]
theorem pathGo_len {V : View} {S : Pid → Bool} : ∀ {n : Nat} {got : List Pid} {p : Pid}, (pathGo V S n got p).length ≤ got.length + n
  | 0, got, p => by simp [pathGo]
  | n + 1, got, p => by
    unfold pathGo
    cases upP V S p with
    | none => simp
    | some q => have := pathGo_len (V := V) (S := S) (n := n) (got := got ++ [q]) (p := q); simp at this ⊢; omega
theorem up_none {r : Nat → Int} {V : View} {am al ad : Option Addr} {cm cl cd : Nat} {x y : Int} {w : World} (h : Hid (upP V (hasRu r) (x, y) = none)) (hV : ViewR w am al ad V) (hf : Fine V) :
    Calls Try.prog 48 #[viewV V am al ad cm cl cd, .agg (RL r).toArray, .agg #[.int .u16 x, .int .u32 y]] w fun e w' => e = .returned (.tuple #[.agg #[.int .u16 0, .int .u32 0], .bool false]) ∧ Below w.heap.size w w' := by
  have := up_any r V am al ad cm cl cd x y w hV hf
  rw [h.out] at this; exact this
set_option maxRecDepth 100000 in
set_option maxHeartbeats 6400000 in
theorem path_any (r : Nat → Int) (V : View) (am al ad : Option Addr) (cm cl cd : Nat) (x y : Int) (w : World) (hV : ViewR w am al ad V) (hf : Fine V) :
    Calls Try.prog 62 #[viewV V am al ad cm cl cd, .agg (RL r).toArray, .agg #[.int .u16 x, .int .u32 y]] w fun e w' => ∃ v, e = .returned v ∧ OwnP w' w.heap.size v (pathP V (hasRu r) (x, y)) ∧ Below w.heap.size w w' := by
  have hB3 : Below w.heap.size w (((w.alloc (.cells (vcells V am al ad cm cl cd) 68)).alloc (.cells (RL r).toArray 70)).alloc (.cells #[.int .u16 x, .int .u32 y] 32)) := (((Below.refl _ _).alloc (Nat.le_refl _) _).alloc (by simp) _).alloc (by simp; omega) _
  have F3 := Frm.made w V am al ad cm cl cd r x y
  have hbx := Box2.made ((w.alloc (.cells (vcells V am al ad cm cl cd) 68)).alloc (.cells (RL r).toArray 70)) (v0 := .int .u16 x) (v1 := .int .u32 y) 32
  simp only [World.size_alloc] at hbx
  have hV3 := hV.ext hB3
  obtain ⟨w3, hw3⟩ : ∃ w3, (((w.alloc (.cells (vcells V am al ad cm cl cd) 68)).alloc (.cells (RL r).toArray 70)).alloc (.cells #[.int .u16 x, .int .u32 y] 32)) = w3 := ⟨_, rfl⟩
  rw [hw3] at hB3 F3 hV3 hbx
  have hz3 := hbx.lt
  obtain ⟨a30, a31, a32, a33⟩ := F3.vb
  have c30 := F3.c0
  have c31 := F3.c1
  by_cases hmem : (x, y) ∈ V.ms
  · have HM : Hid (decide ((x, y) ∈ V.ms) = true) := hid (by simpa using hmem)
    obtain ⟨PP, hPP⟩ : ∃ PP, pathP V (hasRu r) (x, y) = PP := ⟨_, rfl⟩
    rw [hPP]
    have HPP : Hid (PP = pathGo V (hasRu r) 4 [(x, y)] (x, y)) := hid (by rw [← hPP]; unfold pathP; rw [if_pos hmem])
    clear hPP hmem
    go_enter Try.func62, Try.ntmps62
    go_wp2_with ((go_at_call 75; refine (hasV_is HM hV3).mono ?_; rintro e w4 ⟨rfl, hb4⟩; have z0 := cell_to c30 hb4; have z1 := cell_to c31 hb4))
    have F4 := F3.ext hb4
    have hbx4 := hbx.ext hb4
    have hB4 := hB3.trans (hb4.mono hB3.size)
    have hown4 := OwnP.made1 w4 x y (base := w.heap.size) hB4.size
    have hb45 : Below w4.heap.size w4 (w4.alloc (.cells #[.int .u16 x, .int .u32 y] 32)) := (Below.refl _ _).alloc (Nat.le_refl _) _
    have F5 := F4.ext hb45
    have hbx5 := hbx4.ext hb45
    have hB5 := hB4.trans (hb45.mono hB4.size)
    have hlt5 : w.heap.size + 1 + 1 < w4.heap.size := hbx4.lt
    have hown5 : OwnP (w4.alloc (.cells #[.int .u16 x, .int .u32 y] 32)) w4.heap.size (.slice (some ⟨w4.heap.size, 0, none⟩) 1 1) [(x, y)] := OwnP.made1 w4 x y (Nat.le_refl _)
    clear a30 a31 a32 a33 c30 c31 z0 z1 hw3 hbx F3 hV3 hb4 hbx4 F4 hB3 hown4 hb45
    generalize (w4.alloc (.cells #[.int .u16 x, .int .u32 y] 32)) = w5 at F5 hbx5 hB5 hown5 ⊢
    generalize hgs : w4.heap.size = gs at hown5 hlt5 ⊢
    clear hgs
    have hvb5 := F5.vb
    have hrb5 := F5.rb
    go_loopw [7] (fun v wr => ∃ (j : Nat) (got : List Pid) (a b : Int), j ≤ 4 ∧ got.length = j + 1 ∧ Hid (PP = pathGo V (hasRu r) (4 - j) got (a, b)) ∧ OwnP wr gs v got ∧ Box2 wr (w.heap.size + 1 + 1) (.int .u16 a) (.int .u32 b) ∧ Below (w.heap.size + 1 + 1) w5 wr) (fun v _ => 5 - (match v with | .slice _ n _ => n | _ => 0))
    case atStart => exact ⟨0, [(x, y)], x, y, by omega, rfl, HPP, hown5, hbx5, Below.refl _ _⟩
    case round =>
      obtain ⟨j, got, a, b, hj, hgl, hM, hown, hbo, hb2⟩ := hrel
      have hb := hB5.trans (hb2.mono (by omega))
      have hvb := hvb5.ext hb2 (by omega)
      have hrb := hrb5.ext hb2 (by omega)
      have hVr := hV.ext hb
      obtain ⟨x0, x1, x2, x3⟩ := id hvb
      obtain ⟨y0, y1, y2, y3⟩ := id hbo
      have hlo := hbo.lt
      obtain ⟨gv, cv, rfl, -⟩ := hown.head (by intro h; rw [h] at hgl; simp at hgl)
      have hgv := World.ownsRow.lt hown gv rfl
      rw [hgl] at hown ⊢
      have HN := hid hgl
      clear hgl
      by_cases hj4 : j < 4
      · have hlen : decide ((j : Int) + 1 ≤ 4) = true := by simp; omega
        cases hu : upP V (hasRu r) (a, b) with
        | none =>
          have HU := hid hu
          have HP : Hid (PP = got) := hid (by rw [hM.out, pathGo_none hu])
          clear hu
          go_wp2_with (first
            | (refine wpList_loadRw hrb (by rfl) rfl rfl ?_)
            | (go_at_call 48; refine (up_none HU hVr hf).mono ?_; rintro e w6 ⟨rfl, hb6⟩))
          have hz6 := hb6.size
          have hz5 := hb.size
          go_ret
          exact ⟨_, rfl, by rw [HP.out]; exact OwnP.mono (b := gs) (b' := w.heap.size) ((hown.ext hb6).alloc _) (by omega), (hb.trans (hb6.mono hb.size)).alloc (by omega) _⟩
        | some q =>
          obtain ⟨u, v⟩ := q
          have HU := hid hu
          have hM2 : Hid (PP = pathGo V (hasRu r) (4 - (j + 1)) (got ++ [(u, v)]) (u, v)) := hid (by rw [hM.out, show 4 - j = (4 - (j + 1)) + 1 by omega, pathGo_some hu])
          clear hu
          go_wp2_with (first
            | (refine wpList_loadRw hrb (by rfl) rfl rfl ?_)
            | (go_at_call 48; refine (up_some HU hVr hf).mono ?_; rintro e w6 ⟨rfl, hb6⟩; have hz6 := hb6.size; have hone : PidRow ((w6.alloc (.cells #[.int .u16 u, .int .u32 v] 32)).alloc (.cells #[.int .u16 u, .int .u32 v] 32)) (some ⟨w6.heap.size + 1, 0, none⟩) [(u, v)] := PidRow.one' _ (by simp) u v)
            | (at_builtin; refine wpList_appendP (((hown.ext hb6).alloc _).alloc _) hone (by have := HN.out; simp; omega) (by have := hgv.1; simp; omega) rfl rfl rfl rfl ?_; intro v9 w9 hown9 hg9 hnil9; have hk9 := hg9.block w6.heap.size (by simp; omega) (by simp [Value.ownBlock]; omega); have hB9 : Below (w.heap.size + 1 + 1 + 1) ((w6.alloc (.cells #[.int .u16 u, .int .u32 v] 32)).alloc (.cells #[.int .u16 u, .int .u32 v] 32)) w9 := (Below.refl _ _).grown hg9 (by simp; omega) (fun g hg => by simp [Value.ownBlock] at hg; omega); obtain ⟨d0, d1, d2, d3⟩ := Box2.extB (((hbo.ext hb6).ext ((Below.refl _ _).alloc (Nat.le_refl _) (.cells #[.int .u16 u, .int .u32 v] 32))).ext ((Below.refl _ _).alloc (Nat.le_refl _) (.cells #[.int .u16 u, .int .u32 v] 32))) hB9 (by omega); have e90 : w9.cell? ⟨w6.heap.size, 0, none⟩ = some (.int .u16 u) := (World.cell?_of_block (a := ⟨w6.heap.size, 0, none⟩) hk9).trans (by simp); have e91 : w9.cell? ⟨w6.heap.size, 1, none⟩ = some (.int .u32 v) := (World.cell?_of_block (a := ⟨w6.heap.size, 1, none⟩) hk9).trans (by simp)))
          have hB9w : Below (w.heap.size + 1 + 1) w5 w9 := ((hb2.trans (hb6.mono (by omega))).alloc (by omega) _ |>.alloc (by simp; omega) _).trans (hB9.mono (by omega))
          go_roundw
          case rel => exact ⟨j + 1, got ++ [(u, v)], u, v, by omega, by simp [HN.out], hM2, OwnP.butT hown9 (but2 _ _ _ _) (fun e => by have := (World.ownsRow.lt hown9 _ e.symm).1; omega), (Box2.mk d0 d1 d2 d3).put _ _, below_put hB9w (Nat.le_refl _) _ _⟩
          case measure =>
            obtain ⟨g9, c9, rfl, -⟩ := hown9.head (by simp)
            have := HN.out
            simp; omega
      · have hlen : decide ((j : Int) + 1 ≤ 4) = false := by simp; omega
        have HP : Hid (PP = got) := hid (by rw [hM.out, show 4 - j = 0 by omega]; rfl)
        go_wp2
        go_ret
        exact ⟨_, rfl, by rw [HP.out]; exact OwnP.mono (b := gs) (b' := w.heap.size) hown (by omega), hb⟩
  · have HM : Hid (decide ((x, y) ∈ V.ms) = false) := hid (by simpa using hmem)
    have HP : Hid (pathP V (hasRu r) (x, y) = []) := hid (by unfold pathP; rw [if_neg hmem])
    clear hmem
    go_enter Try.func62, Try.ntmps62
    go_wp2_with ((go_at_call 75; refine (hasV_is HM hV3).mono ?_; rintro e w4 ⟨rfl, hb4⟩))
    go_ret
    exact ⟨_, rfl, by rw [HP.out]; exact OwnP.nil _ _, hB3.trans (hb4.mono hB3.size)⟩
end Go.Proofs.Ytjjahefedpfnaaa
