import Derived.Test.YtjjahefedpfnaaaE18
namespace Go.Proofs.Ytjjahefedpfnaaa
open Go.RowKit
def AtStep (V : View) (S : Pid → Bool) (c p : Pid) (j : Nat) (q : Pid) : Prop := q = c ∨ (j = 0 ∧ q = p) ∨ (j = 1 ∧ upP V S q = some c)
set_option maxRecDepth 100000 in
set_option maxHeartbeats 6400000 in
theorem routeUp_law (V : View) (am al ad : Option Addr) (cm cl cd : Nat) (r : Nat → Int) (w : World) (hV : ViewR w am al ad V) (hw : WfView V) :
    Calls Try.prog 9 #[viewV V am al ad cm cl cd, .agg (RL r).toArray] w fun e w' => e = .returned (.bool true) ∧ Below w.heap.size w w' := by
  have hB2 : Below w.heap.size w ((w.alloc (.cells (vcells V am al ad cm cl cd) 68)).alloc (.cells (RL r).toArray 70)) := ((Below.refl _ _).alloc (Nat.le_refl _) _).alloc (by simp) _
  have F2 := Frr.made w V am al ad cm cl cd r
  have hV2 := hV.ext hB2
  cases hr : rightB V
  · have HR := hid hr
    clear hr F2
    go_enter Try.func9, Try.ntmps9
    go_wp2_with (first
      | (go_at_call 45; refine (right_is HR hV2).mono ?_; rintro e w3 ⟨rfl, hb3⟩)
      | (go_at_call 46; refine (awakeR_any _).mono ?_; rintro e w4 ⟨rfl, hb4⟩))
    go_ret
    exact ⟨rfl, (hB2.trans (hb3.mono hB2.size)).trans (hb4.mono (by have := hb3.size; have := hB2.size; omega))⟩
  · obtain ⟨hs, hg⟩ := right_small hw hr
    have hf := hs.fine
    have hlm := hf.ms
    have HR := hid hr
    clear hr
    cases hc : chiefP V (hasRu r) with
    | none =>
      have HC := hid hc
      clear hc
      go_enter Try.func9, Try.ntmps9
      go_wp2_with (first
        | (go_at_call 45; refine (right_is HR hV2).mono ?_; rintro e w3 ⟨rfl, hb3⟩; have F3 := F2.ext hb3; have hV3 := hV2.ext hb3; have hR3 := F3.rb; obtain ⟨a30, a31, a32, a33⟩ := F3.vb)
        | (refine wpList_loadRw hR3 (by rfl) rfl rfl ?_)
        | (go_at_call 47; refine (chiefA_none HC hV3 hf).mono ?_; rintro e w4 ⟨rfl, hb4⟩; obtain ⟨a40, a41, a42, a43⟩ := (F3.ext hb4).vb; have hlt4 := ((F3.ext hb4).vb).lt))
      have hB4 : Below w.heap.size w (w4.alloc (.cells #[.int .u16 0, .int .u32 0] 32)) := (((hB2.trans (hb3.mono hB2.size)).trans (hb4.mono (by have := hb3.size; have := hB2.size; omega)))).alloc (by have := hb3.size; have := hB2.size; have := hb4.size; omega) _
      have hb5 : w4.heap.size < (w4.alloc (.cells #[.int .u16 0, .int .u32 0] 32)).heap.size := by simp
      have hvb5 := ((F3.ext hb4).vb).ext (B := w4.heap.size) ((Below.refl _ _).alloc (Nat.le_refl _) (.cells #[.int .u16 0, .int .u32 0] 32)) hlt4
      generalize (w4.alloc (.cells #[.int .u16 0, .int .u32 0] 32)) = w5 at hB4 hb5 hvb5 ⊢
      obtain ⟨a50, a51, a52, a53⟩ := hvb5
      by_cases h0 : 0 < V.ms.length
      · have h0' : decide ((0 : Int) < (V.ms.length : Int)) = true := by simp; omega
        go_loopw [7] (fun i wr => i = .int .i64 0 ∧ wr = w5) (fun _ _ => 0)
        case atStart => exact ⟨rfl, rfl⟩
        case round =>
          obtain ⟨rfl, rfl⟩ := hrel
          go_wp2_with (go_at_call 46; refine (awakeR_any _).mono ?_; rintro e w6 ⟨rfl, hb6⟩)
          go_ret
          exact ⟨rfl, hB4.trans (hb6.mono hB4.size)⟩
      · have h0' : decide ((0 : Int) < (V.ms.length : Int)) = false := decide_eq_false (by omega)
        go_loopw [7] (fun i wr => i = .int .i64 0 ∧ wr = w5) (fun _ _ => 0)
        case atStart => exact ⟨rfl, rfl⟩
        case round =>
          obtain ⟨rfl, rfl⟩ := hrel
          go_wp2_with (go_at_call 46; refine (awakeR_any _).mono ?_; rintro e w6 ⟨rfl, hb6⟩)
          go_ret
          exact ⟨rfl, hB4.trans (hb6.mono hB4.size)⟩
    | some q =>
      obtain ⟨u, v⟩ := q
      have hup : ∀ p, p ∈ V.ms → p ≠ (u, v) → ∃ q, upP V (hasRu r) p = some q ∧ (q ≠ (u, v) → upP V (hasRu r) q = some (u, v)) := fun p hp hn => up_law hg hc hp hn
      have HUP := hid hup
      have HC := hid hc
      clear hc hup
      go_enter Try.func9, Try.ntmps9
      go_wp2_with (first
        | (go_at_call 45; refine (right_is HR hV2).mono ?_; rintro e w3 ⟨rfl, hb3⟩; have F3 := F2.ext hb3; have hV3 := hV2.ext hb3; have hR3 := F3.rb; obtain ⟨a30, a31, a32, a33⟩ := F3.vb)
        | (refine wpList_loadRw hR3 (by rfl) rfl rfl ?_)
        | (go_at_call 47; refine (chiefA_some HC hV3 hf).mono ?_; rintro e w4 ⟨rfl, hb4⟩))
      have hB4 : Below w.heap.size w w4 := (hB2.trans (hb3.mono hB2.size)).trans (hb4.mono (by have := hb3.size; have := hB2.size; omega))
      have hb45 : Below w4.heap.size w4 (w4.alloc (.cells #[.int .u16 u, .int .u32 v] 32)) := (Below.refl _ _).alloc (Nat.le_refl _) _
      have F5 := (F3.ext hb4).ext hb45
      have hV5 := (hV3.ext hb4).ext hb45
      have hP5 : PtrTo (w4.alloc (.cells #[.int .u16 u, .int .u32 v] 32)) w4.heap.size (.int .u16 u) (.int .u32 v) := ⟨by simp, by simp⟩
      have hB5 : Below w.heap.size w (w4.alloc (.cells #[.int .u16 u, .int .u32 v] 32)) := hB4.alloc hB4.size _
      clear hb4 hb45 hB4 F3 hV3 hR3 a30 a31 a32 a33 hb3 hB2 F2 hV2
      generalize (w4.alloc (.cells #[.int .u16 u, .int .u32 v] 32)) = w5 at F5 hV5 hP5 hB5 ⊢
      generalize w4.heap.size = g5 at hP5 ⊢
      go_loopw [7] (fun i wr => ∃ k : Nat, k ≤ V.ms.length ∧ i = .int .i64 k ∧ Below w5.heap.size w5 wr) (fun i _ => V.ms.length - (intOf i).toNat)
      case atStart => exact ⟨0, Nat.zero_le _, rfl, Below.refl _ _⟩
      case round =>
        obtain ⟨k, hk, rfl, hb⟩ := hrel
        have hsz := hb.size
        have Fr := F5.ext hb
        have hVr := hV5.ext hb
        have hPr := hP5.ext hb
        obtain ⟨a60, a61, a62, a63⟩ := Fr.vb
        by_cases hlt : k < V.ms.length
        · have hlt' : decide (k < V.ms.length) = true := by simpa using hlt
          obtain ⟨pb, po, x, y, rfl, hpx, d1, d2⟩ := hVr.ms.at (Below.refl _ _) rfl hlt
          have hmem : (x, y) ∈ V.ms := by rw [hpx]; exact List.getElem_mem _
          have HMEM := hid hmem
          have hbA : Below wr.heap.size wr (wr.alloc (.cells #[.int .u16 x, .int .u32 y] 32)) := (Below.refl _ _).alloc (Nat.le_refl _) _
          have hbx := Box2.made wr (v0 := .int .u16 x) (v1 := .int .u32 y) 32
          have hsA : wr.heap.size < (wr.alloc (.cells #[.int .u16 x, .int .u32 y] 32)).heap.size := by simp
          clear hpx hmem
          go_wp2
          generalize (wr.alloc (.cells #[.int .u16 x, .int .u32 y] 32)) = wA at hbA hbx hsA ⊢
          have FA := Fr.ext hbA
          have hVA := hVr.ext hbA
          have hPA := hPr.ext hbA
          have hPl : g5 < wr.heap.size := World.block_lt_of_cell? wr _ hPr.1
          clear a60 a61 a62 a63 d1 d2
          go_loopw [9] (fun i wi => ∃ (j : Nat) (a b : Int), j ≤ 2 ∧ i = .int .i64 j ∧ Hid (AtStep V (hasRu r) (u, v) (x, y) j (a, b)) ∧ Box2 wi wr.heap.size (.int .u16 a) (.int .u32 b) ∧ Below wr.heap.size wr wi) (fun i _ => 2 - (intOf i).toNat)
          case atStart => exact ⟨0, x, y, by omega, rfl, hid (.inr (.inl ⟨rfl, rfl⟩)), hbx, hbA⟩
          case round =>
            rename World => wi
            obtain ⟨j, a, b, hj, rfl, hst, hbi, hbw⟩ := hrel
            have Fi := Fr.ext hbw
            have hVi := hVr.ext hbw
            obtain ⟨c0, c1⟩ := hPr.ext hbw
            obtain ⟨y0, y1, y2, y3⟩ := id hbi
            have hRi := Fi.rb
            obtain ⟨a70, a71, a72, a73⟩ := Fi.vb
            have hsi := hbi.lt
            have he := fun w => neq_pid a b u v w
            cases hq : decide ((a, b) = (u, v))
            · have hne : (a, b) ≠ (u, v) := by simpa using hq
              rw [hq] at he
              by_cases hj2 : j < 2
              · have hj2' : decide ((j : Int) < 2) = true := by simp; omega
                obtain ⟨p, q, hu, hnext⟩ : ∃ p q : Int, upP V (hasRu r) (a, b) = some (p, q) ∧ AtStep V (hasRu r) (u, v) (x, y) (j + 1) (p, q) := by
                  rcases hst.out with h | ⟨h0, h⟩ | ⟨h0, h⟩
                  · exact absurd h hne
                  · rw [h] at hne ⊢
                    obtain ⟨⟨p, q⟩, hq1, hq2⟩ := HUP.out (x, y) HMEM.out hne
                    refine ⟨p, q, hq1, ?_⟩
                    by_cases e : (p, q) = (u, v)
                    · exact .inl e
                    · exact .inr (.inr ⟨by omega, hq2 e⟩)
                  · exact ⟨u, v, h, .inl rfl⟩
                have HU := hid hu
                have HN := hid hnext
                clear hu hnext hq hne
                go_wp2_with (first
                  | (refine wpList_loadRw hRi (by rfl) rfl rfl ?_)
                  | (go_at_call 48; refine (up_some HU hVi hf).mono ?_; rintro e w8 ⟨rfl, hb8⟩; obtain ⟨z0, z1, z2, z3⟩ := hbi.ext hb8; have hz8 := hb8.size; have hz9 : wr.heap.size < w8.heap.size := by omega))
                go_roundw
                case rel => exact ⟨j + 1, p, q, by omega, by go_num, HN, ((Box2.mk z0 z1 z2 z3).put _ _).ext ((Below.refl _ _).alloc (Nat.le_refl _) _), (below_put (hbw.trans (hb8.mono hbw.size)) (Nat.le_refl _) _ _).alloc (by simp; omega) _⟩
                case measure => simp [intOf]; omega
              · exfalso
                rcases hst.out with h | ⟨h0, h⟩ | ⟨h0, h⟩
                · exact hne h
                · omega
                · omega
            · rw [hq] at he
              clear hq
              by_cases hj2 : j < 2
              · have hj2' : decide ((j : Int) < 2) = true := by simp; omega
                go_wp2
                go_roundw
                case rel => exact ⟨k + 1, by omega, by go_num, hb.trans (hbw.mono hsz)⟩
                case measure => simp [intOf]; omega
              · have hj2' : decide ((j : Int) < 2) = false := by simp; omega
                go_wp2
                go_roundw
                case rel => exact ⟨k + 1, by omega, by go_num, hb.trans (hbw.mono hsz)⟩
                case measure => simp [intOf]; omega
        · have hlt' : decide (k < V.ms.length) = false := by simpa using hlt
          go_wp2_with (go_at_call 46; refine (awakeR_any _).mono ?_; rintro e w6 ⟨rfl, hb6⟩)
          go_ret
          exact ⟨rfl, (hB5.trans (hb.mono hB5.size)).trans (hb6.mono (by have := hB5.size; omega))⟩
end Go.Proofs.Ytjjahefedpfnaaa
