import Derived.Test.YtjjahefedpfnaaaE21
namespace Go.Proofs.Ytjjahefedpfnaaa
open Go.RowKit
theorem peers_is {V : View} {am al ad : Option Addr} {cm cl cd : Nat} {x y : Int} {w : World} {D : List Pid} {N : Nat} (h : Hid (peersP V (x, y) = D)) (hn : Hid (D.length = N)) (hV : ViewR w am al ad V) (hs : Small V) :
    Calls Try.prog 60 #[viewV V am al ad cm cl cd, .agg #[.int .u16 x, .int .u32 y]] w fun e w' => ∃ a c, e = .returned (.slice a N c) ∧ PidRow w' a D ∧ Below w.heap.size w w' := by
  refine (peers_any V am al ad cm cl cd x y w hV hs).mono ?_
  rintro e w' ⟨v, rfl, hown, hb⟩
  obtain ⟨a, c, rfl, hrow, -⟩ := hown.row
  rw [h.out, hn.out] at *
  rw [h.out] at hrow
  exact ⟨a, c, rfl, hrow, hb⟩
theorem beats_is {r : Nat → Int} {V : View} {am al ad : Option Addr} {cm cl cd : Nat} {x y : Int} {w : World} {D : List Pid} {N : Nat} (h : Hid (beatsP V (hasRu r) (x, y) = D)) (hn : Hid (D.length = N)) (hV : ViewR w am al ad V) (hs : Small V) :
    Calls Try.prog 58 #[viewV V am al ad cm cl cd, .agg (RL r).toArray, .agg #[.int .u16 x, .int .u32 y]] w fun e w' => ∃ a c, e = .returned (.slice a N c) ∧ PidRow w' a D ∧ Below w.heap.size w w' := by
  refine (beats_any r V am al ad cm cl cd x y w hV hs).mono ?_
  rintro e w' ⟨v, rfl, hown, hb⟩
  obtain ⟨a, c, rfl, hrow, -⟩ := hown.row
  rw [h.out, hn.out] at *
  rw [h.out] at hrow
  exact ⟨a, c, rfl, hrow, hb⟩
theorem beats_len {V : View} {S : Pid → Bool} {p : Pid} : (beatsP V S p).length ≤ V.ms.length := others_len
theorem hasN_is {a : Option Addr} {c n : Nat} {xs : List Pid} {id inc : Int} {w : World} {bm : Bool} (hn : Hid (xs.length = n)) (h : Hid (decide ((id, inc) ∈ xs) = bm)) (hl : xs.length ≤ 70368744177664) (hrow : PidRow w a xs) :
   Calls Try.prog 36 #[.slice a n c, .agg #[.int .u16 id, .int .u32 inc]] w fun e w' => e = .returned (.bool bm) ∧ Below w.heap.size w w' := by
  rw [← hn.out]; exact hasR_is h hl hrow
set_option maxRecDepth 100000 in
set_option maxHeartbeats 12800000 in
theorem routePeers_law (V : View) (am al ad : Option Addr) (cm cl cd : Nat) (r : Nat → Int) (w : World) (hV : ViewR w am al ad V) (hw : WfView V) :
    Calls Try.prog 12 #[viewV V am al ad cm cl cd, .agg (RL r).toArray] w fun e w' => e = .returned (.bool true) ∧ Below w.heap.size w w' := by
  have hB2 : Below w.heap.size w ((w.alloc (.cells (vcells V am al ad cm cl cd) 68)).alloc (.cells (RL r).toArray 70)) := ((Below.refl _ _).alloc (Nat.le_refl _) _).alloc (by simp) _
  have F2 := Frr.made w V am al ad cm cl cd r
  have hV2 := hV.ext hB2
  cases hr : rightB V
  · have HR := hid hr
    clear hr F2
    go_enter Try.func12, Try.ntmps12
    go_wp2_with (first
      | (go_at_call 45; refine (right_is HR hV2).mono ?_; rintro e w3 ⟨rfl, hb3⟩)
      | (go_at_call 46; refine (awakeR_any _).mono ?_; rintro e w4 ⟨rfl, hb4⟩))
    go_ret
    exact ⟨rfl, (hB2.trans (hb3.mono hB2.size)).trans (hb4.mono (by have := hb3.size; have := hB2.size; omega))⟩
  · obtain ⟨hs, hg⟩ := right_small hw hr
    have hf := hs.fine
    have hlm := hf.ms
    have hlaw : ∀ p q, p ∈ V.ms → q ∈ peersP V p → q ≠ p ∧ p ∈ peersP V q ∧ p ∈ beatsP V (hasRu r) q := fun p q hp hq => peers_law hg hp hq
    have HLAW := hid hlaw
    have HR := hid hr
    clear hr hlaw
    have hu70 := Try.underlying70
    have hi70 := info70L r
    go_enter Try.func12, Try.ntmps12
    go_wp2_with (go_at_call 45; refine (right_is HR hV2).mono ?_; rintro e w3 ⟨rfl, hb3⟩)
    have hB3 := hB2.trans (hb3.mono hB2.size)
    have F3 := F2.ext hb3
    have hV3 := hV2.ext hb3
    clear hB2 F2 hV2 hb3
    go_loopw [5] (fun i wr => ∃ k : Nat, k ≤ V.ms.length ∧ i = .int .i64 k ∧ Below w3.heap.size w3 wr) (fun i _ => V.ms.length - (intOf i).toNat)
    case atStart => exact ⟨0, Nat.zero_le _, rfl, Below.refl _ _⟩
    case round =>
      obtain ⟨k, hk, rfl, hb⟩ := hrel
      have hsz := hb.size
      have Fr := F3.ext hb
      have hVr := hV3.ext hb
      obtain ⟨a60, a61, a62, a63⟩ := Fr.vb
      by_cases hlt : k < V.ms.length
      · have hlt' : decide (k < V.ms.length) = true := by simpa using hlt
        obtain ⟨pb, po, x, y, hab, hpx, d1, d2⟩ := hVr.ms.at (Below.refl _ _) rfl hlt
        have hmem : (x, y) ∈ V.ms := by rw [hpx]; exact List.getElem_mem _
        have HMEM := hid hmem
        obtain ⟨D, hD⟩ : ∃ D, peersP V (x, y) = D := ⟨_, rfl⟩
        obtain ⟨N, hN⟩ : ∃ N, D.length = N := ⟨_, rfl⟩
        have hNl : N ≤ 64 := by rw [← hN, ← hD]; exact Nat.le_trans peers_len hs.ms
        have HD := hid hD
        have HN := hid hN
        have hbA : Below wr.heap.size wr (wr.alloc (.cells #[.int .u16 x, .int .u32 y] 32)) := (Below.refl _ _).alloc (Nat.le_refl _) _
        have hPA : PtrTo (wr.alloc (.cells #[.int .u16 x, .int .u32 y] 32)) wr.heap.size (.int .u16 x) (.int .u32 y) := ⟨by simp, by simp⟩
        have hVA := hVr.ext hbA
        have FA := Fr.ext hbA
        subst hab
        clear hpx hmem hD hN
        obtain ⟨a70, a71, a72, a73⟩ := FA.vb
        go_wp2_with (go_at_call 60; refine (peers_is HD HN hVA hs).mono ?_; rintro e w7 ⟨aL, cL, rfl, hrow7, hb7⟩)
        have hb37 : Below w3.heap.size w3 w7 := hb.trans ((hbA.trans (hb7.mono hbA.size)).mono hsz)
        have hP7 := hPA.ext hb7
        clear a60 a61 a62 a63 a70 a71 a72 a73 hbA hPA hVA FA hb7 d1 d2
        generalize wr.heap.size = g6 at hP7 ⊢
        have F7 := F3.ext hb37
        have hV7 := hV3.ext hb37
        go_loopw [8] (fun i wi => ∃ j : Nat, j ≤ N ∧ i = .int .i64 j ∧ Below w7.heap.size w7 wi) (fun i _ => N - (intOf i).toNat)
        case atStart => exact ⟨0, Nat.zero_le _, rfl, Below.refl _ _⟩
        case round =>
          rename World => wi
          obtain ⟨j, hj, rfl, hbi⟩ := hrel
          have hsi := hbi.size
          by_cases hjt : j < N
          · have hjt' : decide (j < N) = true := by simpa using hjt
            obtain ⟨lb, lo, a, b, hlb, hlx, e1, e2⟩ := hrow7.at hbi rfl (k := j) (by rw [HN.out]; exact hjt)
            subst hlb
            have hmq : (a, b) ∈ peersP V (x, y) := by rw [HD.out, hlx]; exact List.getElem_mem _
            obtain ⟨hne, hpq, hbq⟩ := HLAW.out _ _ HMEM.out hmq
            have he := fun w => eql_pid a b x y w
            have hdec : decide ((a, b) = (x, y)) = false := by simpa using hne
            rw [hdec] at he
            obtain ⟨D2, hD2⟩ : ∃ D2, peersP V (a, b) = D2 := ⟨_, rfl⟩
            obtain ⟨N2, hN2⟩ : ∃ N2, D2.length = N2 := ⟨_, rfl⟩
            obtain ⟨D3, hD3⟩ : ∃ D3, beatsP V (hasRu r) (a, b) = D3 := ⟨_, rfl⟩
            obtain ⟨N3, hN3⟩ : ∃ N3, D3.length = N3 := ⟨_, rfl⟩
            have hl2 : D2.length ≤ 64 := by rw [← hD2]; exact Nat.le_trans peers_len hs.ms
            have hl3 : D3.length ≤ 64 := by rw [← hD3]; exact Nat.le_trans beats_len hs.ms
            have HIN2 : Hid (decide ((x, y) ∈ D2) = true) := hid (by rw [← hD2]; simpa using hpq)
            have HIN3 : Hid (decide ((x, y) ∈ D3) = true) := hid (by rw [← hD3]; simpa using hbq)
            have HD2 := hid hD2
            have HN2 := hid hN2
            have HD3 := hid hD3
            have HN3 := hid hN3
            have Fi := F7.ext hbi
            have hVi := hV7.ext hbi
            have hPi := hP7.ext hbi
            have HS : Hid (∀ W, Below wi.heap.size wi W → Below wi.heap.size wi W ∧ W.rangeAt (w.heap.size + 1) 0 (RL r) ∧ W.cell? ⟨w.heap.size, 0, none⟩ = some (.int .u64 V.id) ∧ W.cell? ⟨w.heap.size, 1, none⟩ = some (.slice (some ⟨pb, po, none⟩) V.ms.length cm) ∧ W.cell? ⟨w.heap.size, 2, none⟩ = some (.slice al V.ls.length cl) ∧ W.cell? ⟨w.heap.size, 3, none⟩ = some (.slice ad V.ds.length cd) ∧ W.cell? ⟨lb, lo + j * 2, none⟩ = some (.int .u16 a) ∧ W.cell? ⟨lb, lo + j * 2 + 1, none⟩ = some (.int .u32 b) ∧ W.cell? ⟨g6, 0, none⟩ = some (.int .u16 x) ∧ W.cell? ⟨g6, 1, none⟩ = some (.int .u32 y)) := hid fun W h => ⟨h, (Fi.ext h).rb.range, (Fi.ext h).vb.c0, (Fi.ext h).vb.c1, (Fi.ext h).vb.c2, (Fi.ext h).vb.c3, cell_to e1 h, cell_to e2 h, (hPi.ext h).1, (hPi.ext h).2⟩
            have C1 : Hid (∀ W, Below wi.heap.size wi W → Calls Try.prog 60 #[.agg #[.int .u64 V.id, .slice (some ⟨pb, po, none⟩) V.ms.length cm, .slice al V.ls.length cl, .slice ad V.ds.length cd], .agg #[.int .u16 a, .int .u32 b]] W fun e w' => ∃ a c, e = .returned (.slice a N2 c) ∧ PidRow w' a D2 ∧ Below W.heap.size W w' ∧ Below wi.heap.size wi w') := hid fun W h => ((peers_is HD2 HN2 (hVi.ext h) hs).mono fun e w' ⟨a, c, h1, h2, h3⟩ => ⟨a, c, h1, h2, h3, h.trans (h3.mono h.size)⟩)
            have C2 : Hid (∀ W, Below wi.heap.size wi W → Calls Try.prog 58 #[.agg #[.int .u64 V.id, .slice (some ⟨pb, po, none⟩) V.ms.length cm, .slice al V.ls.length cl, .slice ad V.ds.length cd], .agg (RL r).toArray, .agg #[.int .u16 a, .int .u32 b]] W fun e w' => ∃ a c, e = .returned (.slice a N3 c) ∧ PidRow w' a D3 ∧ Below W.heap.size W w' ∧ Below wi.heap.size wi w') := hid fun W h => ((beats_is HD3 HN3 (hVi.ext h) hs).mono fun e w' ⟨a, c, h1, h2, h3⟩ => ⟨a, c, h1, h2, h3, h.trans (h3.mono h.size)⟩)
            have C3 : Hid (∀ W aa cc, Below wi.heap.size wi W → PidRow W aa D2 → Calls Try.prog 36 #[.slice aa N2 cc, .agg #[.int .u16 x, .int .u32 y]] W fun e w' => e = .returned (.bool true) ∧ Below wi.heap.size wi w') := hid fun W aa cc h hr => rel h (hasN_is HN2 HIN2 (by omega) hr) rfl
            have C4 : Hid (∀ W aa cc, Below wi.heap.size wi W → PidRow W aa D3 → Calls Try.prog 36 #[.slice aa N3 cc, .agg #[.int .u16 x, .int .u32 y]] W fun e w' => e = .returned (.bool true) ∧ Below wi.heap.size wi w') := hid fun W aa cc h hr => rel h (hasN_is HN3 HIN3 (by omega) hr) rfl
            have H0 : Below wi.heap.size wi wi.drew := (Below.refl _ _).drew
            clear hD2 hN2 hD3 hN3 hmq hpq hbq hlx hdec hne e1 e2 hl2 hl3
            go_wp2_with fail
            go_region_held3 (fun W => Below wi.heap.size wi W ∧ W.rangeAt (w.heap.size + 1) 0 (RL r) ∧ W.cell? ⟨w.heap.size, 0, none⟩ = some (.int .u64 V.id) ∧ W.cell? ⟨w.heap.size, 1, none⟩ = some (.slice (some ⟨pb, po, none⟩) V.ms.length cm) ∧ W.cell? ⟨w.heap.size, 2, none⟩ = some (.slice al V.ls.length cl) ∧ W.cell? ⟨w.heap.size, 3, none⟩ = some (.slice ad V.ds.length cd) ∧ W.cell? ⟨lb, lo + j * 2, none⟩ = some (.int .u16 a) ∧ W.cell? ⟨lb, lo + j * 2 + 1, none⟩ = some (.int .u32 b) ∧ W.cell? ⟨g6, 0, none⟩ = some (.int .u16 x) ∧ W.cell? ⟨g6, 1, none⟩ = some (.int .u32 y)) (first | exact HS.out _ H0 | exact HS.out _ (by assumption)) (first
              | ((go_at_call 60; refine (C1.out _ (by first | exact H0 | assumption)).mono ?_; rintro e w21 ⟨a21, c21, rfl, hrow21, hbb21, hb21⟩))
              | ((go_at_call 58; refine (C2.out _ (by first | exact H0 | assumption)).mono ?_; rintro e w22 ⟨a22, c22, rfl, hrow22, hbb22, hb22⟩))
              | ((go_at_call 36; (with_reducible refine (C3.out _ _ _ ?_ ?_).mono ?_); first | exact H0 | assumption; assumption; rintro e w23 ⟨rfl, hb23⟩))
              | ((go_at_call 36; (with_reducible refine (C4.out _ _ _ ?_ ?_).mono ?_); first | exact H0 | assumption; assumption; rintro e w24 ⟨rfl, hb24⟩)))
            all_goals (
              obtain ⟨hBx, -⟩ := ‹Below wi.heap.size wi _ ∧ _›
              go_wp2
              go_roundw)
            all_goals first
              | (case measure => simp [intOf]; omega)
              | (case rel => exact ⟨j + 1, by omega, by go_num, hbi.trans (Below.mono ‹Below wi.heap.size wi _› hsi)⟩)
          · have hjt' : decide (j < N) = false := by simpa using hjt
            go_wp2
            go_roundw
            case rel => exact ⟨k + 1, by omega, by go_num, hb37.trans (hbi.mono hb37.size)⟩
            case measure => simp [intOf]; omega
      · have hlt' : decide (k < V.ms.length) = false := by simpa using hlt
        go_wp2_with (go_at_call 46; refine (awakeR_any _).mono ?_; rintro e w6 ⟨rfl, hb6⟩)
        go_ret
        exact ⟨rfl, (hB3.trans (hb.mono hB3.size)).trans (hb6.mono (by have := hB3.size; omega))⟩
end Go.Proofs.Ytjjahefedpfnaaa
