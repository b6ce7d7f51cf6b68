import Derived.Test.YtjjahefedpfnaaaBW
namespace Go.Proofs.Ytjjahefedpfnaaa
open Go.RowKit
theorem Both.own_lt {n0 : Nat} {w : World} {s r s2 : Nat} {T t : Int} {v : Value} {L M : List Aged} (h : Both n0 w s r s2 T t v L M) {g : Nat} (hg : v.ownBlock = some g) : g < w.heap.size := by
  rcases h.b.own.2 with ⟨rfl, _⟩ | ⟨g', cap, cur, rfl, hbb, hgg, _⟩
  · simp [Value.ownBlock] at hg
  · simp [Value.ownBlock] at hg; subst hg; exact (Array.getElem?_eq_some_iff.1 hgg).1
theorem ageL_none {p : Pid} {L : List (Pid × Int)} (h : look p L = none) : ageL p L = -1 := by simp [ageL, h]
theorem lateRef_is {s : Nat} {T T1 : Int} {v : Value} {L : List Aged} {l : List Pid} {w : World} (h1 : Hid (max T 1 = T1)) (h2 : Hid (lateR T1 L = l)) (hn : L.length ≤ 549755813888) (hW : RefIs w s T v L) :
    Calls Try.prog 26 #[.pointer (some ⟨s, 0, none⟩)] w fun e w' => ∃ a c, e = .returned (.slice a l.length c) ∧ PidRow w' a l ∧ Below w.heap.size w w' := by
  refine (lateRef_any s T v L w hn hW).mono ?_
  rintro e w' ⟨v', rfl, hown, hb⟩
  rw [h1.out, h2.out] at hown
  obtain ⟨a, c, rfl, hrow, -⟩ := hown.row
  exact ⟨a, c, rfl, hrow, hb⟩
theorem tickRef_is {s : Nat} {T T1 : Int} {v : Value} {L L' : List Aged} {w : World} (h1 : Hid (max T 1 = T1)) (h2 : Hid (tickR T1 L = L')) (hn : L.length ≤ 549755813888) (hW : RefIs w s T v L) (hT : T ≤ 9223372036854775807) (hpos : ∀ p ∈ L, 0 ≤ p.2) :
    Calls Try.prog 22 #[.pointer (some ⟨s, 0, none⟩)] w fun e w' => e = .returned (.tuple #[]) ∧ RefIs w' s T v L' ∧ Mut (fun k => v.ownBlock = some k) w w' := by
  have := tickRef_any s T v L w hn hW hT hpos
  rw [h1.out, h2.out] at this
  exact this
theorem followRef_is {s : Nat} {T : Int} {v : Value} {L L' : List Aged} {a : Option Addr} {c : Nat} {xs S : List Pid} {w : World} (hS : Hid (sortR [] xs = S)) (hL : Hid (followR L S = L')) (hn : xs.length ≤ 8192) (hSn : S.length ≤ 8192) (hLn : L.length ≤ 8192) (hrow : PidRow w a xs) (hW : RefIs w s T v L) :
    Calls Try.prog 18 #[.pointer (some ⟨s, 0, none⟩), .slice a xs.length c] w fun e w' => ∃ v', e = .returned (.tuple #[]) ∧ RefIs w' s T v' L' ∧ Mut (fun k => k = s) w w' := by
  rw [← hL.out]; exact followRef_any s T v L a c xs S w hS (by omega) (by omega) (by omega) hrow hW
theorem SameW.pos {T : Int} {L M : List Aged} {n b : Nat} (h : SameW T L M n b) : ∀ p ∈ M, 0 ≤ p.2 := fun p hp => by
  have h1 := look_of_nodup h.ris.nodup (x := p.1) (n := p.2) hp
  rw [← h.same] at h1
  exact (h.age.age _ (mem_of_look h1)).1
theorem SameW.mono {T : Int} {L M : List Aged} {n b n' b' : Nat} (h : SameW T L M n b) (h1 : n ≤ n') (h2 : b ≤ b') : SameW T L M n' b' := ⟨h.same, h.ris, h.age.mono h1 h2, h.top, Nat.le_trans h.len h1⟩

set_option maxRecDepth 100000 in
set_option maxHeartbeats 12800000 in
theorem watchPlays_law (t : Int) (a : Option Addr) (c : Nat) (xs : List Act) (w : World) (ht : -9223372036854775808 ≤ t ∧ t ≤ 9223372036854775807) (hx : ActRow w a xs) (hwf : WfActs xs) (hb : xs.length ≤ 17592186044416 ∧ xs.length ≤ c) :
    Calls Try.prog 3 #[.int .i64 t, .slice a xs.length c] w fun e w' => e = .returned (.bool true) ∧ Below w.heap.size w w' := by
  obtain ⟨t0, t1⟩ := ht
  obtain ⟨hlen, -⟩ := hb
  obtain ⟨n, hn⟩ : ∃ n : Int, max t 1 = n := ⟨_, rfl⟩
  have n0 : 1 ≤ n := by omega
  have HN := hid hn
  have HWF := hid hwf
  clear hn hwf
  go_enter Try.func3, Try.ntmps3
  go_wp2_with fail
  refine (newWatch_is HN.out _).mono ?_
  rintro e w1 ⟨s, r, rfl, hs, hr, hW1, hb1⟩
  have z1 := hb1.size
  have l1 := hW1.lt
  have hT0 : Both w.heap.size (w1.alloc (.cells #[.int .i64 t, .slice none 0 0] 28)) s r w1.heap.size n t (.slice none 0 0) [] [] :=
    ⟨hW1.alloc _, ⟨by simp, by simp, by simp, OwnA.nil _ _⟩, l1, hs, hr⟩
  have hB0 : Below w.heap.size w (w1.alloc (.cells #[.int .i64 t, .slice none 0 0] 28)) := hb1.alloc z1 _
  have hQ0 : SameW n [] [] 41 0 := ⟨fun _ => rfl, List.Pairwise.nil, ⟨by simp [keys], by simp [keys], by simp, by simp⟩, by simp [look], by simp⟩
  obtain ⟨s2, hs2⟩ : ∃ s2, w1.heap.size = s2 := ⟨_, rfl⟩
  rw [hs2] at hT0 l1
  go_wp2
  clear hW1 hb1 hs hr
  go_loopw [4, 7] (fun rs i wr => rs = .bool false ∧ ∃ (k : Nat) (q : Nat) (v : Value) (La Lb : List Aged), k ≤ xs.length ∧ k ≤ 100 ∧ i = .int .i64 k ∧ Both w.heap.size wr s q s2 n t v La Lb ∧ SameW n La Lb 41 k ∧ Below w.heap.size w wr) (fun _ i _ => xs.length - (intOf i).toNat)
  case atStart => exact ⟨rfl, 0, _, _, _, _, Nat.zero_le _, by omega, rfl, hT0, hQ0, hB0⟩
  case round =>
    obtain ⟨rfl, k, q, v, La, Lb, hk, hk100, rfl, hT, hQ, hB⟩ := hrel
    clear hT0 hB0 hQ0
    by_cases hgo : k < xs.length ∧ k < 100
    · obtain ⟨hlt, h100⟩ := hgo
      obtain ⟨b, off, ai, ci, kd, x, y, l, rfl, hxk, d10, d20, d30, d40, hl0⟩ := hx.at hlt
      have d1 := cell_to d10 hB
      have d2 := cell_to d20 hB
      have d3 := cell_to d30 hB
      have d4 := cell_to d40 hB
      have hl := hl0.ext hB
      have HL0 := hid hl0
      clear d10 d20 d30 d40 hl0
      obtain ⟨⟨w0, w1'⟩, ⟨w2, w3, w4, w5⟩, w6, w7⟩ := HWF.out xs[k] (List.getElem_mem _)
      rw [hxk] at w0 w1' w2 w3 w4 w5 w6 w7
      simp only at w0 w1' w2 w3 w4 w5 w6 w7
      have hl1 : decide (k < xs.length) = true := by simpa using hlt
      have hl2 : decide ((k : Int) < (xs.length : Int)) = true := by simp; omega
      have hl3 : decide (k < 100) = true := by simpa using h100
      have hl4 : decide ((k : Int) < 100) = true := by simp; omega
      have HX := hid hxk
      have HW6 : Hid (∀ p ∈ l, Go.Proofs.Ytjjahefedpfnaaa.ok p) := hid w6
      clear hxk w6
      by_cases hl40 : 40 < l.length
      · have h1' : decide (40 < (l.length : Int)) = true := by simp; omega
        go_wp2_with (go_at_call 15; refine (awakeWatch_any _).mono ?_; rintro e w7 ⟨rfl, hb7⟩)
        go_ret
        exact ⟨rfl, (hB.alloc hB.size _).trans (hb7.mono (by simp; have := hB.size; omega))⟩
      · have h1' : decide (40 < (l.length : Int)) = false := by simp; omega
        have z0 := hB.size
        obtain ⟨wa, hwa⟩ : ∃ wa, wr.alloc (.cells #[.int .i64 kd, .int .u16 x, .int .u32 y, .slice ai l.length ci] 35) = wa := ⟨_, rfl⟩
        have hBa0 : Below wr.heap.size wr wa := by rw [← hwa]; exact (Below.refl _ _).alloc (Nat.le_refl _) _
        have q1 : wa.cell? ⟨wr.heap.size, 1, none⟩ = some (.int .u16 x) := by rw [← hwa]; simp
        have q2 : wa.cell? ⟨wr.heap.size, 1 + 1, none⟩ = some (.int .u32 y) := by rw [← hwa]; simp
        have q3 : wa.cell? ⟨wr.heap.size, 2 + 1, none⟩ = some (.slice ai l.length ci) := by rw [← hwa]; simp
        have q33 : wa.cell? ⟨wr.heap.size, 3, none⟩ = some (.slice ai l.length ci) := by rw [← hwa]; simp
        have q0 : wa.cell? ⟨wr.heap.size, 0, none⟩ = some (.int .i64 kd) := by rw [← hwa]; simp
        have hTa := hT.ext hBa0
        have hla := hl.ext hBa0
        have hBa := hB.trans (hBa0.mono z0)
        have za : wr.heap.size < wa.heap.size := by rw [← hwa]; simp
        have gs : wr.heap.size ≠ s := by have := hT.a.lt; omega
        have gq : wr.heap.size ≠ q := by have := hT.a.map.lt; omega
        have gs2 : wr.heap.size ≠ s2 := by have := hT.b.lt; omega
        have gown : v.ownBlock ≠ some wr.heap.size := fun e => by have := hT.own_lt e; omega
        clear hT hl hBa0
        by_cases c0 : kd % 6 = 0
        · have HG := hid c0
          obtain ⟨Le, hLe⟩ : ∃ Le, followL La [] l = Le := ⟨_, rfl⟩
          obtain ⟨S, hS⟩ : ∃ S, sortR [] l = S := ⟨_, rfl⟩
          obtain ⟨Me, hMe⟩ : ∃ Me, followR Lb S = Me := ⟨_, rfl⟩
          have hSn : S.length ≤ 40 := by rw [← hS]; have := sortR_len l (acc := []); simp at this; omega
          have hQe : SameW n Le Me 41 (k + 1) := by
            rw [← hLe, ← hMe, ← hS]
            exact (hQ.follow (by omega) HW6.out (m := 40) (by omega) (by rw [hS]; exact hSn)).mono (by omega) (by omega)
          have HS := hid hS
          have HME := hid hMe
          have HLE := hid hLe
          clear hS hMe hLe
          go_wp2_with (first
            | (go_at_call 16; refine (pick_is HG.out (by omega) (by omega) w0 w1').mono ?_; rintro e w7 ⟨rfl, rfl⟩))
          refine (follow_is HLE.out (by omega) hla hTa.a).mono ?_
          rintro e w8 ⟨r8, rfl, hr8, hW8, hm8⟩
          have hT8 := hTa.turnA hBa.size hr8 hW8 hm8
          have hB8 := hBa.trans (hm8.below hBa.size (fun k hk => by have := hTa.e0; omega))
          have hl8 := HL0.out.ext hB8
          have q18 := (hm8.cell (p := ⟨wr.heap.size, 1, none⟩) (by simp; omega) gs).trans q1
          have q28 := (hm8.cell (p := ⟨wr.heap.size, 1 + 1, none⟩) (by simp; omega) gs).trans q2
          have q38 := (hm8.cell (p := ⟨wr.heap.size, 2 + 1, none⟩) (by simp; omega) gs).trans q3
          have q48 := (hm8.cell (p := ⟨wr.heap.size, 3, none⟩) (by simp; omega) gs).trans q33
          have z8 := hm8.size
          clear hTa hBa hW8 hm8 q1 q2 q3 q33 hla
          go_wp2_with fail
          refine (followRef_is HS HME (by omega) (by omega) (by have := hQ.len; omega) hl8 hT8.b).mono ?_
          rintro e w9 ⟨v9, rfl, hW9, hm9⟩
          have hTe := hT8.turnB hW9 hm9
          have hBe := hB8.trans (hm9.below hB8.size (fun k hk => by have := hT8.d; have := hT8.e0; omega))
          have q1 := (hm9.cell (p := ⟨wr.heap.size, 1, none⟩) (by simp; omega) gs2).trans q18
          have q2 := (hm9.cell (p := ⟨wr.heap.size, 1 + 1, none⟩) (by simp; omega) gs2).trans q28
          clear hT8 hB8 hW9 hm9 q18 q28 q38 q48 hQ gown
          obtain ⟨l5, hl5'⟩ : ∃ l5, lateR n Me = l5 := ⟨_, rfl⟩
          have HL5 := hid hl5'
          have hl5 : sortL (lateL n Le) = l5 := hQe.late.trans hl5'
          have hl5n : l5.length ≤ 70368744177664 := by rw [← hl5']; unfold lateR; have := List.length_filter_le (fun p : Aged => decide (n ≤ p.2)) Me; have := hQe.len; simp; omega
          clear hl5'
          rcases atA_look (p := (x, y)) (L := Me) (k := 0) with ⟨h1, h2⟩ | ⟨j, hj, h1, h2, h3⟩
          · have HA := hid h1
            have hage : Hid (ageL (x, y) Le = -1) := hid (ageL_none (by rw [hQe.same]; exact h2))
            clear h1 h2
            go_wp2_with (first
              | (go_at_call 19; refine (atR_is HA (by have := hQe.len; omega) hTe.b).mono ?_; rintro e w21 ⟨rfl, hb21⟩; have q11 := cell_to q1 hb21; have q21 := cell_to q2 hb21))
            have hTf := hTe.ext hb21
            have hBf := hBe.trans (hb21.mono hBe.size)
            clear hTe hBe
            refine (age_is hage hTf.a).mono ?_
            rintro e v2 ⟨rfl, hc2⟩
            have hTg := hTf.ext hc2
            have y2 := hc2.size
            have hBg := hBf.trans (hc2.mono hBf.size)
            clear hTf hBf hc2
            go_wp2_with fail
            refine (late_is hl5 hTg.a hQe.age.nd hQe.age.ok (by have := hQe.age.len; omega)).mono ?_
            rintro e v3 ⟨a3, c3, rfl, hrow3, hc3⟩
            have hTh := hTg.ext hc3
            have hBh := hBg.trans (hc3.mono hBg.size)
            clear hTg hBg hc3
            go_wp2_with fail
            refine (lateRef_is HN HL5 (by have := hQe.len; omega) hTh.b).mono ?_
            rintro e v4 ⟨a4, c4, rfl, hrow4, hc4⟩
            have hTi := hTh.ext hc4
            have hBi := hBh.trans (hc4.mono hBh.size)
            have hrow3' := hrow3.ext hc4
            clear hTh hBh hc4 hrow3
            go_wp2_with fail
            refine (sameR_is (bm := true) (hid (by simp)) hl5n hl5n hrow3' hrow4).mono ?_
            rintro e v5 ⟨rfl, hc5⟩
            have hTj := hTi.ext hc5
            have hBj := hBi.trans (hc5.mono hBi.size)
            clear hTi hBi hc5 hrow3' hrow4
            go_wp2
            go_roundw
            case rel => exact ⟨rfl, k + 1, _, _, Le, Me, by omega, by omega, by go_num, hTj, hQe, hBj⟩
            case measure => simp [intOf]; omega
          · have hA : atA (x, y) Me 0 = (j : Int) := by rw [h1]; simp
            have HA := hid hA
            obtain ⟨m, hm⟩ : ∃ m, Me[j].2 = m := ⟨_, rfl⟩
            have hage : Hid (ageL (x, y) Le = m) := hid (ageL_some (by rw [hQe.same, h3, hm]))
            obtain ⟨ar, cr, rfl, hrw⟩ := hTe.b.own.row
            have hjL : j < Me.length := hj
            rcases hrw with rfl | ⟨rb, rfl, hrb, hrl, hcell⟩
            · simp at hj
            obtain ⟨-, -, g3⟩ := hcell j hj
            rw [hm] at g3
            have e1 := hTe.b.c1
            have hj0 : decide ((0 : Int) ≤ (j : Int)) = true := by simp
            clear h1 h2 h3 hA hm hcell
            go_wp2_with (first
              | (go_at_call 19; refine (atR_is HA (by have := hQe.len; omega) hTe.b).mono ?_; rintro e w21 ⟨rfl, hb21⟩; have q11 := cell_to q1 hb21; have q21 := cell_to q2 hb21; have q31 := cell_to g3 hb21; have q41 := cell_to e1 hb21))
            have hTf := hTe.ext hb21
            have hBf := hBe.trans (hb21.mono hBe.size)
            clear hTe hBe
            refine (age_is hage hTf.a).mono ?_
            rintro e v2 ⟨rfl, hc2⟩
            have emm : (m != m) = false := by simp
            have hTg := hTf.ext hc2
            have y2 := hc2.size
            have hBg := hBf.trans (hc2.mono hBf.size)
            clear hTf hBf hc2
            go_wp2_with fail
            refine (late_is hl5 hTg.a hQe.age.nd hQe.age.ok (by have := hQe.age.len; omega)).mono ?_
            rintro e v3 ⟨a3, c3, rfl, hrow3, hc3⟩
            have hTh := hTg.ext hc3
            have hBh := hBg.trans (hc3.mono hBg.size)
            clear hTg hBg hc3
            go_wp2_with fail
            refine (lateRef_is HN HL5 (by have := hQe.len; omega) hTh.b).mono ?_
            rintro e v4 ⟨a4, c4, rfl, hrow4, hc4⟩
            have hTi := hTh.ext hc4
            have hBi := hBh.trans (hc4.mono hBh.size)
            have hrow3' := hrow3.ext hc4
            clear hTh hBh hc4 hrow3
            go_wp2_with fail
            refine (sameR_is (bm := true) (hid (by simp)) hl5n hl5n hrow3' hrow4).mono ?_
            rintro e v5 ⟨rfl, hc5⟩
            have hTj := hTi.ext hc5
            have hBj := hBi.trans (hc5.mono hBi.size)
            clear hTi hBi hc5 hrow3' hrow4
            go_wp2
            go_roundw
            case rel => exact ⟨rfl, k + 1, _, _, Le, Me, by omega, by omega, by go_num, hTj, hQe, hBj⟩
            case measure => simp [intOf]; omega
        · by_cases c1 : kd % 6 = 1
          · have HG : Hid (kd % 6 = 1) := hid c1
            clear hla
            rcases atA_look (p := (x, y)) (L := Lb) (k := 0) with ⟨h1, h2⟩ | ⟨j, hj, h1, h2, h3⟩
            · have HA := hid h1
              have hlk : look (x, y) La = none := by rw [hQ.same]; exact h2
              have hbf : (look (x, y) La).isSome = false := by rw [hlk]; rfl
              have hLf : (if (look (x, y) La).isSome = true then ins (x, y) 0 La else La) = La := by rw [hbf]; simp
              have HBF := hid hbf
              have HLF := hid hLf
              have hQe : SameW n La Lb 41 (k + 1) := hQ.mono (Nat.le_refl _) (by omega)
              obtain ⟨Le, hLe⟩ : ∃ Le, Le = La := ⟨_, rfl⟩
              obtain ⟨Me, hMe⟩ : ∃ Me, Me = Lb := ⟨_, rfl⟩
              clear h1 h2 hlk hbf hLf
              go_wp2_with (first
                | (go_at_call 16; refine (pick_is HG.out (by omega) (by omega) w0 w1').mono ?_; rintro e w7 ⟨rfl, rfl⟩)
                | (go_at_call 19; refine (atR_is HA (by have := hQ.len; omega) hTa.b).mono ?_; rintro e w21 ⟨rfl, hb21⟩; have q11 := cell_to q1 hb21; have q21 := cell_to q2 hb21))
              have hT21 := hTa.ext hb21
              have hB21 := hBa.trans (hb21.mono hBa.size)
              have z21 := hb21.size
              clear hTa hBa
              refine (heard_is HBF.out HLF.out hT21.a (fun z hz => (hQ.age.age z hz).1)).mono ?_
              rintro e w22 ⟨rfl, hW22, hm22⟩
              have hTe := hT21.putA hW22 hm22
              have hBe := hB21.trans (hm22.below hB21.size (fun k hk => by have := hT21.e1; omega))
              have q1' := (hm22.cell (p := ⟨wr.heap.size, 1, none⟩) (by simp; omega) gq).trans q11
              have q2' := (hm22.cell (p := ⟨wr.heap.size, 1 + 1, none⟩) (by simp; omega) gq).trans q21
              clear hT21 hB21 hW22 hm22 q1 q2 q3 q33 q11 q21 hb21 HA HBF HLF hQ
              have q1 := q1'
              have q2 := q2'
              clear q1' q2'
              rw [← hLe, ← hMe] at hTe hQe
              clear hLe hMe
              obtain ⟨l5, hl5'⟩ : ∃ l5, lateR n Me = l5 := ⟨_, rfl⟩
              have HL5 := hid hl5'
              have hl5 : sortL (lateL n Le) = l5 := hQe.late.trans hl5'
              have hl5n : l5.length ≤ 70368744177664 := by rw [← hl5']; unfold lateR; have := List.length_filter_le (fun p : Aged => decide (n ≤ p.2)) Me; have := hQe.len; simp; omega
              clear hl5'
              rcases atA_look (p := (x, y)) (L := Me) (k := 0) with ⟨h1, h2⟩ | ⟨j, hj, h1, h2, h3⟩
              · have HA := hid h1
                have hage : Hid (ageL (x, y) Le = -1) := hid (ageL_none (by rw [hQe.same]; exact h2))
                clear h1 h2
                go_wp2_with (first
                  | (go_at_call 19; refine (atR_is HA (by have := hQe.len; omega) hTe.b).mono ?_; rintro e w21 ⟨rfl, hb21⟩; have q11 := cell_to q1 hb21; have q21 := cell_to q2 hb21))
                have hTf := hTe.ext hb21
                have hBf := hBe.trans (hb21.mono hBe.size)
                clear hTe hBe
                refine (age_is hage hTf.a).mono ?_
                rintro e v2 ⟨rfl, hc2⟩
                have hTg := hTf.ext hc2
                have y2 := hc2.size
                have hBg := hBf.trans (hc2.mono hBf.size)
                clear hTf hBf hc2
                go_wp2_with fail
                refine (late_is hl5 hTg.a hQe.age.nd hQe.age.ok (by have := hQe.age.len; omega)).mono ?_
                rintro e v3 ⟨a3, c3, rfl, hrow3, hc3⟩
                have hTh := hTg.ext hc3
                have hBh := hBg.trans (hc3.mono hBg.size)
                clear hTg hBg hc3
                go_wp2_with fail
                refine (lateRef_is HN HL5 (by have := hQe.len; omega) hTh.b).mono ?_
                rintro e v4 ⟨a4, c4, rfl, hrow4, hc4⟩
                have hTi := hTh.ext hc4
                have hBi := hBh.trans (hc4.mono hBh.size)
                have hrow3' := hrow3.ext hc4
                clear hTh hBh hc4 hrow3
                go_wp2_with fail
                refine (sameR_is (bm := true) (hid (by simp)) hl5n hl5n hrow3' hrow4).mono ?_
                rintro e v5 ⟨rfl, hc5⟩
                have hTj := hTi.ext hc5
                have hBj := hBi.trans (hc5.mono hBi.size)
                clear hTi hBi hc5 hrow3' hrow4
                go_wp2
                go_roundw
                case rel => exact ⟨rfl, k + 1, _, _, Le, Me, by omega, by omega, by go_num, hTj, hQe, hBj⟩
                case measure => simp [intOf]; omega
              · have hA : atA (x, y) Me 0 = (j : Int) := by rw [h1]; simp
                have HA := hid hA
                obtain ⟨m, hm⟩ : ∃ m, Me[j].2 = m := ⟨_, rfl⟩
                have hage : Hid (ageL (x, y) Le = m) := hid (ageL_some (by rw [hQe.same, h3, hm]))
                obtain ⟨ar, cr, rfl, hrw⟩ := hTe.b.own.row
                have hjL : j < Me.length := hj
                rcases hrw with rfl | ⟨rb, rfl, hrb, hrl, hcell⟩
                · simp at hj
                obtain ⟨-, -, g3⟩ := hcell j hj
                rw [hm] at g3
                have e1 := hTe.b.c1
                have hj0 : decide ((0 : Int) ≤ (j : Int)) = true := by simp
                clear h1 h2 h3 hA hm hcell
                go_wp2_with (first
                  | (go_at_call 19; refine (atR_is HA (by have := hQe.len; omega) hTe.b).mono ?_; rintro e w21 ⟨rfl, hb21⟩; have q11 := cell_to q1 hb21; have q21 := cell_to q2 hb21; have q31 := cell_to g3 hb21; have q41 := cell_to e1 hb21))
                have hTf := hTe.ext hb21
                have hBf := hBe.trans (hb21.mono hBe.size)
                clear hTe hBe
                refine (age_is hage hTf.a).mono ?_
                rintro e v2 ⟨rfl, hc2⟩
                have emm : (m != m) = false := by simp
                have hTg := hTf.ext hc2
                have y2 := hc2.size
                have hBg := hBf.trans (hc2.mono hBf.size)
                clear hTf hBf hc2
                go_wp2_with fail
                refine (late_is hl5 hTg.a hQe.age.nd hQe.age.ok (by have := hQe.age.len; omega)).mono ?_
                rintro e v3 ⟨a3, c3, rfl, hrow3, hc3⟩
                have hTh := hTg.ext hc3
                have hBh := hBg.trans (hc3.mono hBg.size)
                clear hTg hBg hc3
                go_wp2_with fail
                refine (lateRef_is HN HL5 (by have := hQe.len; omega) hTh.b).mono ?_
                rintro e v4 ⟨a4, c4, rfl, hrow4, hc4⟩
                have hTi := hTh.ext hc4
                have hBi := hBh.trans (hc4.mono hBh.size)
                have hrow3' := hrow3.ext hc4
                clear hTh hBh hc4 hrow3
                go_wp2_with fail
                refine (sameR_is (bm := true) (hid (by simp)) hl5n hl5n hrow3' hrow4).mono ?_
                rintro e v5 ⟨rfl, hc5⟩
                have hTj := hTi.ext hc5
                have hBj := hBi.trans (hc5.mono hBi.size)
                clear hTi hBi hc5 hrow3' hrow4
                go_wp2
                go_roundw
                case rel => exact ⟨rfl, k + 1, _, _, Le, Me, by omega, by omega, by go_num, hTj, hQe, hBj⟩
                case measure => simp [intOf]; omega
            · have hA : atA (x, y) Lb 0 = (j : Int) := by rw [h1]; simp
              have HA := hid hA
              obtain ⟨Le, hLe⟩ : ∃ Le, (if (look (x, y) La).isSome = true then ins (x, y) 0 La else La) = Le := ⟨_, rfl⟩
              have hQe : SameW n Le (Lb.set j ((x, y), 0)) 41 (k + 1) := by rw [← hLe]; exact (hQ.heard (by omega) hj h2).mono (Nat.le_refl _) (by omega)
              have hbt : (look (x, y) La).isSome = true := by rw [hQ.same, h3]; rfl
              obtain ⟨ar, cr, rfl, hrw⟩ := hTa.b.own.row
              have hjL : j < Lb.length := hj
              rcases hrw with rfl | ⟨rb, rfl, hrb, hrl, -⟩
              · simp at hj
              have hj0 : decide ((0 : Int) ≤ (j : Int)) = true := by simp
              have grb : wr.heap.size ≠ rb := fun e => gown (by simp [Value.ownBlock, e])
              have HLE := hid hLe
              have HBT := hid hbt
              have H2 := hid h2
              clear h1 h3 hA hbt hLe h2
              go_wp2_with (first
                | (go_at_call 16; refine (pick_is HG.out (by omega) (by omega) w0 w1').mono ?_; rintro e w7 ⟨rfl, rfl⟩)
                | (go_at_call 19; refine (atR_is HA (by have := hQ.len; omega) hTa.b).mono ?_; rintro e w21 ⟨rfl, hb21⟩; have q11 := cell_to q1 hb21; have q21 := cell_to q2 hb21; have hT21 := hTa.ext hb21; obtain ⟨-, -, g3, g4, -⟩ := hT21.b.own.at hj; have e1 := hT21.b.c1; have q12 : (w21.setCell ⟨rb, j * 3 + 2, none⟩ (.int .i64 0)).cell? ⟨wr.heap.size, 1, none⟩ = some (.int .u16 x) := (World.cell?_setCell_other _ _ _ _ (by intro e; injection e with e1; omega)).trans q11; have q22 : (w21.setCell ⟨rb, j * 3 + 2, none⟩ (.int .i64 0)).cell? ⟨wr.heap.size, 1 + 1, none⟩ = some (.int .u32 y) := (World.cell?_setCell_other _ _ _ _ (by intro e; injection e with e1; omega)).trans q21))
              have hbs : But rb w21 (w21.setCell ⟨rb, j * 3 + 2, none⟩ (.int .i64 0)) := ⟨rfl, rfl, rfl, by simp, fun k hk => Below.heap_setCell _ _ _ _ hk⟩
              have hset := hT21.b.own.set hj 0
              rw [H2.out] at hset
              have hRs : RefIs (w21.setCell ⟨rb, j * 3 + 2, none⟩ (.int .i64 0)) s2 t (.slice (some ⟨rb, 0, none⟩) Lb.length cr) (Lb.set j ((x, y), 0)) := by
                refine ⟨?_, ?_, ?_, hset⟩
                · rw [World.cell?_setCell_other _ _ _ _ (by intro e; injection e with e1; omega)]; exact hT21.b.c0
                · rw [World.cell?_setCell_other _ _ _ _ (by intro e; injection e with e1; omega)]; exact hT21.b.c1
                · simp [hT21.b.f1]
              have hTs := hT21.putB hRs (Mut.of_but hbs rfl)
              have hB21 := hBa.trans (hb21.mono hBa.size)
              have hrbw : w.heap.size ≤ rb := by have := hT21.own_ge (g := rb) rfl; have := hT21.d; have := hT21.e0; omega
              have hBs : Below w.heap.size w (w21.setCell ⟨rb, j * 3 + 2, none⟩ (.int .i64 0)) := hB21.trans ((Mut.of_but (F := fun k => k = rb) hbs rfl).below hB21.size (fun k hk => by omega))
              have zs := hb21.size
              have zz : (w21.setCell ⟨rb, j * 3 + 2, none⟩ (.int .i64 0)).heap.size = w21.heap.size := by simp
              refine (heard_is HBT.out HLE.out hTs.a (fun z hz => (hQ.age.age z hz).1)).mono ?_
              rintro e w22 ⟨rfl, hW22, hm22⟩
              have hTe := hTs.putA hW22 hm22
              have hBe := hBs.trans (hm22.below hBs.size (fun k hk => by have := hTs.e1; omega))
              have q1' := (hm22.cell (p := ⟨wr.heap.size, 1, none⟩) (by simp; omega) gq).trans q12
              have q2' := (hm22.cell (p := ⟨wr.heap.size, 1 + 1, none⟩) (by simp; omega) gq).trans q22
              clear hTs hB21 hBs hW22 hm22 q1 q2 q3 q33 q11 q21 q12 q22 hb21 HA HBT HLE hQ hTa hBa hT21 g3 g4 e1 hRs hset hbs zz
              have q1 := q1'
              have q2 := q2'
              clear q1' q2' H2
              obtain ⟨Me, hMe⟩ : ∃ Me, Lb.set j ((x, y), 0) = Me := ⟨_, rfl⟩
              obtain ⟨ve, hve⟩ : ∃ ve, Value.slice (some ⟨rb, 0, none⟩) Lb.length cr = ve := ⟨_, rfl⟩
              rw [hMe] at hTe hQe
              rw [hve] at hTe
              clear hMe hj hjL hve grb gown
              obtain ⟨l5, hl5'⟩ : ∃ l5, lateR n Me = l5 := ⟨_, rfl⟩
              have HL5 := hid hl5'
              have hl5 : sortL (lateL n Le) = l5 := hQe.late.trans hl5'
              have hl5n : l5.length ≤ 70368744177664 := by rw [← hl5']; unfold lateR; have := List.length_filter_le (fun p : Aged => decide (n ≤ p.2)) Me; have := hQe.len; simp; omega
              clear hl5'
              rcases atA_look (p := (x, y)) (L := Me) (k := 0) with ⟨h1, h2⟩ | ⟨j, hj, h1, h2, h3⟩
              · have HA := hid h1
                have hage : Hid (ageL (x, y) Le = -1) := hid (ageL_none (by rw [hQe.same]; exact h2))
                clear h1 h2
                go_wp2_with (first
                  | (go_at_call 19; refine (atR_is HA (by have := hQe.len; omega) hTe.b).mono ?_; rintro e w21 ⟨rfl, hb21⟩; have q11 := cell_to q1 hb21; have q21 := cell_to q2 hb21))
                have hTf := hTe.ext hb21
                have hBf := hBe.trans (hb21.mono hBe.size)
                clear hTe hBe
                refine (age_is hage hTf.a).mono ?_
                rintro e v2 ⟨rfl, hc2⟩
                have hTg := hTf.ext hc2
                have y2 := hc2.size
                have hBg := hBf.trans (hc2.mono hBf.size)
                clear hTf hBf hc2
                go_wp2_with fail
                refine (late_is hl5 hTg.a hQe.age.nd hQe.age.ok (by have := hQe.age.len; omega)).mono ?_
                rintro e v3 ⟨a3, c3, rfl, hrow3, hc3⟩
                have hTh := hTg.ext hc3
                have hBh := hBg.trans (hc3.mono hBg.size)
                clear hTg hBg hc3
                go_wp2_with fail
                refine (lateRef_is HN HL5 (by have := hQe.len; omega) hTh.b).mono ?_
                rintro e v4 ⟨a4, c4, rfl, hrow4, hc4⟩
                have hTi := hTh.ext hc4
                have hBi := hBh.trans (hc4.mono hBh.size)
                have hrow3' := hrow3.ext hc4
                clear hTh hBh hc4 hrow3
                go_wp2_with fail
                refine (sameR_is (bm := true) (hid (by simp)) hl5n hl5n hrow3' hrow4).mono ?_
                rintro e v5 ⟨rfl, hc5⟩
                have hTj := hTi.ext hc5
                have hBj := hBi.trans (hc5.mono hBi.size)
                clear hTi hBi hc5 hrow3' hrow4
                go_wp2
                go_roundw
                case rel => exact ⟨rfl, k + 1, _, _, Le, Me, by omega, by omega, by go_num, hTj, hQe, hBj⟩
                case measure => simp [intOf]; omega
              · have hA : atA (x, y) Me 0 = (j : Int) := by rw [h1]; simp
                have HA := hid hA
                obtain ⟨m, hm⟩ : ∃ m, Me[j].2 = m := ⟨_, rfl⟩
                have hage : Hid (ageL (x, y) Le = m) := hid (ageL_some (by rw [hQe.same, h3, hm]))
                obtain ⟨ar, cr, rfl, hrw⟩ := hTe.b.own.row
                have hjL : j < Me.length := hj
                rcases hrw with rfl | ⟨rb, rfl, hrb, hrl, hcell⟩
                · simp at hj
                obtain ⟨-, -, g3⟩ := hcell j hj
                rw [hm] at g3
                have e1 := hTe.b.c1
                have hj0 : decide ((0 : Int) ≤ (j : Int)) = true := by simp
                clear h1 h2 h3 hA hm hcell
                go_wp2_with (first
                  | (go_at_call 19; refine (atR_is HA (by have := hQe.len; omega) hTe.b).mono ?_; rintro e w21 ⟨rfl, hb21⟩; have q11 := cell_to q1 hb21; have q21 := cell_to q2 hb21; have q31 := cell_to g3 hb21; have q41 := cell_to e1 hb21))
                have hTf := hTe.ext hb21
                have hBf := hBe.trans (hb21.mono hBe.size)
                clear hTe hBe
                refine (age_is hage hTf.a).mono ?_
                rintro e v2 ⟨rfl, hc2⟩
                have emm : (m != m) = false := by simp
                have hTg := hTf.ext hc2
                have y2 := hc2.size
                have hBg := hBf.trans (hc2.mono hBf.size)
                clear hTf hBf hc2
                go_wp2_with fail
                refine (late_is hl5 hTg.a hQe.age.nd hQe.age.ok (by have := hQe.age.len; omega)).mono ?_
                rintro e v3 ⟨a3, c3, rfl, hrow3, hc3⟩
                have hTh := hTg.ext hc3
                have hBh := hBg.trans (hc3.mono hBg.size)
                clear hTg hBg hc3
                go_wp2_with fail
                refine (lateRef_is HN HL5 (by have := hQe.len; omega) hTh.b).mono ?_
                rintro e v4 ⟨a4, c4, rfl, hrow4, hc4⟩
                have hTi := hTh.ext hc4
                have hBi := hBh.trans (hc4.mono hBh.size)
                have hrow3' := hrow3.ext hc4
                clear hTh hBh hc4 hrow3
                go_wp2_with fail
                refine (sameR_is (bm := true) (hid (by simp)) hl5n hl5n hrow3' hrow4).mono ?_
                rintro e v5 ⟨rfl, hc5⟩
                have hTj := hTi.ext hc5
                have hBj := hBi.trans (hc5.mono hBi.size)
                clear hTi hBi hc5 hrow3' hrow4
                go_wp2
                go_roundw
                case rel => exact ⟨rfl, k + 1, _, _, Le, Me, by omega, by omega, by go_num, hTj, hQe, hBj⟩
                case measure => simp [intOf]; omega
          · by_cases c2 : kd % 6 = 2
            · have HG : Hid (kd % 6 = 2) := hid c2
              clear hla
              rcases atA_look (p := (x, y)) (L := Lb) (k := 0) with ⟨h1, h2⟩ | ⟨j, hj, h1, h2, h3⟩
              · have HA := hid h1
                have hlk : look (x, y) La = none := by rw [hQ.same]; exact h2
                have hbf : (look (x, y) La).isSome = false := by rw [hlk]; rfl
                have hLf : (if (look (x, y) La).isSome = true then ins (x, y) 0 La else La) = La := by rw [hbf]; simp
                have HBF := hid hbf
                have HLF := hid hLf
                have hQe : SameW n La Lb 41 (k + 1) := hQ.mono (Nat.le_refl _) (by omega)
                obtain ⟨Le, hLe⟩ : ∃ Le, Le = La := ⟨_, rfl⟩
                obtain ⟨Me, hMe⟩ : ∃ Me, Me = Lb := ⟨_, rfl⟩
                clear h1 h2 hlk hbf hLf
                go_wp2_with (first
                  | (go_at_call 16; refine (pick_is HG.out (by omega) (by omega) w0 w1').mono ?_; rintro e w7 ⟨rfl, rfl⟩)
                  | (go_at_call 19; refine (atR_is HA (by have := hQ.len; omega) hTa.b).mono ?_; rintro e w21 ⟨rfl, hb21⟩; have q11 := cell_to q1 hb21; have q21 := cell_to q2 hb21))
                have hT21 := hTa.ext hb21
                have hB21 := hBa.trans (hb21.mono hBa.size)
                have z21 := hb21.size
                clear hTa hBa
                refine (heard_is HBF.out HLF.out hT21.a (fun z hz => (hQ.age.age z hz).1)).mono ?_
                rintro e w22 ⟨rfl, hW22, hm22⟩
                have hTe := hT21.putA hW22 hm22
                have hBe := hB21.trans (hm22.below hB21.size (fun k hk => by have := hT21.e1; omega))
                have q1' := (hm22.cell (p := ⟨wr.heap.size, 1, none⟩) (by simp; omega) gq).trans q11
                have q2' := (hm22.cell (p := ⟨wr.heap.size, 1 + 1, none⟩) (by simp; omega) gq).trans q21
                clear hT21 hB21 hW22 hm22 q1 q2 q3 q33 q11 q21 hb21 HA HBF HLF hQ
                have q1 := q1'
                have q2 := q2'
                clear q1' q2'
                rw [← hLe, ← hMe] at hTe hQe
                clear hLe hMe
                obtain ⟨l5, hl5'⟩ : ∃ l5, lateR n Me = l5 := ⟨_, rfl⟩
                have HL5 := hid hl5'
                have hl5 : sortL (lateL n Le) = l5 := hQe.late.trans hl5'
                have hl5n : l5.length ≤ 70368744177664 := by rw [← hl5']; unfold lateR; have := List.length_filter_le (fun p : Aged => decide (n ≤ p.2)) Me; have := hQe.len; simp; omega
                clear hl5'
                rcases atA_look (p := (x, y)) (L := Me) (k := 0) with ⟨h1, h2⟩ | ⟨j, hj, h1, h2, h3⟩
                · have HA := hid h1
                  have hage : Hid (ageL (x, y) Le = -1) := hid (ageL_none (by rw [hQe.same]; exact h2))
                  clear h1 h2
                  go_wp2_with (first
                    | (go_at_call 19; refine (atR_is HA (by have := hQe.len; omega) hTe.b).mono ?_; rintro e w21 ⟨rfl, hb21⟩; have q11 := cell_to q1 hb21; have q21 := cell_to q2 hb21))
                  have hTf := hTe.ext hb21
                  have hBf := hBe.trans (hb21.mono hBe.size)
                  clear hTe hBe
                  refine (age_is hage hTf.a).mono ?_
                  rintro e v2 ⟨rfl, hc2⟩
                  have hTg := hTf.ext hc2
                  have y2 := hc2.size
                  have hBg := hBf.trans (hc2.mono hBf.size)
                  clear hTf hBf hc2
                  go_wp2_with fail
                  refine (late_is hl5 hTg.a hQe.age.nd hQe.age.ok (by have := hQe.age.len; omega)).mono ?_
                  rintro e v3 ⟨a3, c3, rfl, hrow3, hc3⟩
                  have hTh := hTg.ext hc3
                  have hBh := hBg.trans (hc3.mono hBg.size)
                  clear hTg hBg hc3
                  go_wp2_with fail
                  refine (lateRef_is HN HL5 (by have := hQe.len; omega) hTh.b).mono ?_
                  rintro e v4 ⟨a4, c4, rfl, hrow4, hc4⟩
                  have hTi := hTh.ext hc4
                  have hBi := hBh.trans (hc4.mono hBh.size)
                  have hrow3' := hrow3.ext hc4
                  clear hTh hBh hc4 hrow3
                  go_wp2_with fail
                  refine (sameR_is (bm := true) (hid (by simp)) hl5n hl5n hrow3' hrow4).mono ?_
                  rintro e v5 ⟨rfl, hc5⟩
                  have hTj := hTi.ext hc5
                  have hBj := hBi.trans (hc5.mono hBi.size)
                  clear hTi hBi hc5 hrow3' hrow4
                  go_wp2
                  go_roundw
                  case rel => exact ⟨rfl, k + 1, _, _, Le, Me, by omega, by omega, by go_num, hTj, hQe, hBj⟩
                  case measure => simp [intOf]; omega
                · have hA : atA (x, y) Me 0 = (j : Int) := by rw [h1]; simp
                  have HA := hid hA
                  obtain ⟨m, hm⟩ : ∃ m, Me[j].2 = m := ⟨_, rfl⟩
                  have hage : Hid (ageL (x, y) Le = m) := hid (ageL_some (by rw [hQe.same, h3, hm]))
                  obtain ⟨ar, cr, rfl, hrw⟩ := hTe.b.own.row
                  have hjL : j < Me.length := hj
                  rcases hrw with rfl | ⟨rb, rfl, hrb, hrl, hcell⟩
                  · simp at hj
                  obtain ⟨-, -, g3⟩ := hcell j hj
                  rw [hm] at g3
                  have e1 := hTe.b.c1
                  have hj0 : decide ((0 : Int) ≤ (j : Int)) = true := by simp
                  clear h1 h2 h3 hA hm hcell
                  go_wp2_with (first
                    | (go_at_call 19; refine (atR_is HA (by have := hQe.len; omega) hTe.b).mono ?_; rintro e w21 ⟨rfl, hb21⟩; have q11 := cell_to q1 hb21; have q21 := cell_to q2 hb21; have q31 := cell_to g3 hb21; have q41 := cell_to e1 hb21))
                  have hTf := hTe.ext hb21
                  have hBf := hBe.trans (hb21.mono hBe.size)
                  clear hTe hBe
                  refine (age_is hage hTf.a).mono ?_
                  rintro e v2 ⟨rfl, hc2⟩
                  have emm : (m != m) = false := by simp
                  have hTg := hTf.ext hc2
                  have y2 := hc2.size
                  have hBg := hBf.trans (hc2.mono hBf.size)
                  clear hTf hBf hc2
                  go_wp2_with fail
                  refine (late_is hl5 hTg.a hQe.age.nd hQe.age.ok (by have := hQe.age.len; omega)).mono ?_
                  rintro e v3 ⟨a3, c3, rfl, hrow3, hc3⟩
                  have hTh := hTg.ext hc3
                  have hBh := hBg.trans (hc3.mono hBg.size)
                  clear hTg hBg hc3
                  go_wp2_with fail
                  refine (lateRef_is HN HL5 (by have := hQe.len; omega) hTh.b).mono ?_
                  rintro e v4 ⟨a4, c4, rfl, hrow4, hc4⟩
                  have hTi := hTh.ext hc4
                  have hBi := hBh.trans (hc4.mono hBh.size)
                  have hrow3' := hrow3.ext hc4
                  clear hTh hBh hc4 hrow3
                  go_wp2_with fail
                  refine (sameR_is (bm := true) (hid (by simp)) hl5n hl5n hrow3' hrow4).mono ?_
                  rintro e v5 ⟨rfl, hc5⟩
                  have hTj := hTi.ext hc5
                  have hBj := hBi.trans (hc5.mono hBi.size)
                  clear hTi hBi hc5 hrow3' hrow4
                  go_wp2
                  go_roundw
                  case rel => exact ⟨rfl, k + 1, _, _, Le, Me, by omega, by omega, by go_num, hTj, hQe, hBj⟩
                  case measure => simp [intOf]; omega
              · have hA : atA (x, y) Lb 0 = (j : Int) := by rw [h1]; simp
                have HA := hid hA
                obtain ⟨Le, hLe⟩ : ∃ Le, (if (look (x, y) La).isSome = true then ins (x, y) 0 La else La) = Le := ⟨_, rfl⟩
                have hQe : SameW n Le (Lb.set j ((x, y), 0)) 41 (k + 1) := by rw [← hLe]; exact (hQ.heard (by omega) hj h2).mono (Nat.le_refl _) (by omega)
                have hbt : (look (x, y) La).isSome = true := by rw [hQ.same, h3]; rfl
                obtain ⟨ar, cr, rfl, hrw⟩ := hTa.b.own.row
                have hjL : j < Lb.length := hj
                rcases hrw with rfl | ⟨rb, rfl, hrb, hrl, -⟩
                · simp at hj
                have hj0 : decide ((0 : Int) ≤ (j : Int)) = true := by simp
                have grb : wr.heap.size ≠ rb := fun e => gown (by simp [Value.ownBlock, e])
                have HLE := hid hLe
                have HBT := hid hbt
                have H2 := hid h2
                clear h1 h3 hA hbt hLe h2
                go_wp2_with (first
                  | (go_at_call 16; refine (pick_is HG.out (by omega) (by omega) w0 w1').mono ?_; rintro e w7 ⟨rfl, rfl⟩)
                  | (go_at_call 19; refine (atR_is HA (by have := hQ.len; omega) hTa.b).mono ?_; rintro e w21 ⟨rfl, hb21⟩; have q11 := cell_to q1 hb21; have q21 := cell_to q2 hb21; have hT21 := hTa.ext hb21; obtain ⟨-, -, g3, g4, -⟩ := hT21.b.own.at hj; have e1 := hT21.b.c1; have q12 : (w21.setCell ⟨rb, j * 3 + 2, none⟩ (.int .i64 0)).cell? ⟨wr.heap.size, 1, none⟩ = some (.int .u16 x) := (World.cell?_setCell_other _ _ _ _ (by intro e; injection e with e1; omega)).trans q11; have q22 : (w21.setCell ⟨rb, j * 3 + 2, none⟩ (.int .i64 0)).cell? ⟨wr.heap.size, 1 + 1, none⟩ = some (.int .u32 y) := (World.cell?_setCell_other _ _ _ _ (by intro e; injection e with e1; omega)).trans q21))
                have hbs : But rb w21 (w21.setCell ⟨rb, j * 3 + 2, none⟩ (.int .i64 0)) := ⟨rfl, rfl, rfl, by simp, fun k hk => Below.heap_setCell _ _ _ _ hk⟩
                have hset := hT21.b.own.set hj 0
                rw [H2.out] at hset
                have hRs : RefIs (w21.setCell ⟨rb, j * 3 + 2, none⟩ (.int .i64 0)) s2 t (.slice (some ⟨rb, 0, none⟩) Lb.length cr) (Lb.set j ((x, y), 0)) := by
                  refine ⟨?_, ?_, ?_, hset⟩
                  · rw [World.cell?_setCell_other _ _ _ _ (by intro e; injection e with e1; omega)]; exact hT21.b.c0
                  · rw [World.cell?_setCell_other _ _ _ _ (by intro e; injection e with e1; omega)]; exact hT21.b.c1
                  · simp [hT21.b.f1]
                have hTs := hT21.putB hRs (Mut.of_but hbs rfl)
                have hB21 := hBa.trans (hb21.mono hBa.size)
                have hrbw : w.heap.size ≤ rb := by have := hT21.own_ge (g := rb) rfl; have := hT21.d; have := hT21.e0; omega
                have hBs : Below w.heap.size w (w21.setCell ⟨rb, j * 3 + 2, none⟩ (.int .i64 0)) := hB21.trans ((Mut.of_but (F := fun k => k = rb) hbs rfl).below hB21.size (fun k hk => by omega))
                have zs := hb21.size
                have zz : (w21.setCell ⟨rb, j * 3 + 2, none⟩ (.int .i64 0)).heap.size = w21.heap.size := by simp
                refine (heard_is HBT.out HLE.out hTs.a (fun z hz => (hQ.age.age z hz).1)).mono ?_
                rintro e w22 ⟨rfl, hW22, hm22⟩
                have hTe := hTs.putA hW22 hm22
                have hBe := hBs.trans (hm22.below hBs.size (fun k hk => by have := hTs.e1; omega))
                have q1' := (hm22.cell (p := ⟨wr.heap.size, 1, none⟩) (by simp; omega) gq).trans q12
                have q2' := (hm22.cell (p := ⟨wr.heap.size, 1 + 1, none⟩) (by simp; omega) gq).trans q22
                clear hTs hB21 hBs hW22 hm22 q1 q2 q3 q33 q11 q21 q12 q22 hb21 HA HBT HLE hQ hTa hBa hT21 g3 g4 e1 hRs hset hbs zz
                have q1 := q1'
                have q2 := q2'
                clear q1' q2' H2
                obtain ⟨Me, hMe⟩ : ∃ Me, Lb.set j ((x, y), 0) = Me := ⟨_, rfl⟩
                obtain ⟨ve, hve⟩ : ∃ ve, Value.slice (some ⟨rb, 0, none⟩) Lb.length cr = ve := ⟨_, rfl⟩
                rw [hMe] at hTe hQe
                rw [hve] at hTe
                clear hMe hj hjL hve grb gown
                obtain ⟨l5, hl5'⟩ : ∃ l5, lateR n Me = l5 := ⟨_, rfl⟩
                have HL5 := hid hl5'
                have hl5 : sortL (lateL n Le) = l5 := hQe.late.trans hl5'
                have hl5n : l5.length ≤ 70368744177664 := by rw [← hl5']; unfold lateR; have := List.length_filter_le (fun p : Aged => decide (n ≤ p.2)) Me; have := hQe.len; simp; omega
                clear hl5'
                rcases atA_look (p := (x, y)) (L := Me) (k := 0) with ⟨h1, h2⟩ | ⟨j, hj, h1, h2, h3⟩
                · have HA := hid h1
                  have hage : Hid (ageL (x, y) Le = -1) := hid (ageL_none (by rw [hQe.same]; exact h2))
                  clear h1 h2
                  go_wp2_with (first
                    | (go_at_call 19; refine (atR_is HA (by have := hQe.len; omega) hTe.b).mono ?_; rintro e w21 ⟨rfl, hb21⟩; have q11 := cell_to q1 hb21; have q21 := cell_to q2 hb21))
                  have hTf := hTe.ext hb21
                  have hBf := hBe.trans (hb21.mono hBe.size)
                  clear hTe hBe
                  refine (age_is hage hTf.a).mono ?_
                  rintro e v2 ⟨rfl, hc2⟩
                  have hTg := hTf.ext hc2
                  have y2 := hc2.size
                  have hBg := hBf.trans (hc2.mono hBf.size)
                  clear hTf hBf hc2
                  go_wp2_with fail
                  refine (late_is hl5 hTg.a hQe.age.nd hQe.age.ok (by have := hQe.age.len; omega)).mono ?_
                  rintro e v3 ⟨a3, c3, rfl, hrow3, hc3⟩
                  have hTh := hTg.ext hc3
                  have hBh := hBg.trans (hc3.mono hBg.size)
                  clear hTg hBg hc3
                  go_wp2_with fail
                  refine (lateRef_is HN HL5 (by have := hQe.len; omega) hTh.b).mono ?_
                  rintro e v4 ⟨a4, c4, rfl, hrow4, hc4⟩
                  have hTi := hTh.ext hc4
                  have hBi := hBh.trans (hc4.mono hBh.size)
                  have hrow3' := hrow3.ext hc4
                  clear hTh hBh hc4 hrow3
                  go_wp2_with fail
                  refine (sameR_is (bm := true) (hid (by simp)) hl5n hl5n hrow3' hrow4).mono ?_
                  rintro e v5 ⟨rfl, hc5⟩
                  have hTj := hTi.ext hc5
                  have hBj := hBi.trans (hc5.mono hBi.size)
                  clear hTi hBi hc5 hrow3' hrow4
                  go_wp2
                  go_roundw
                  case rel => exact ⟨rfl, k + 1, _, _, Le, Me, by omega, by omega, by go_num, hTj, hQe, hBj⟩
                  case measure => simp [intOf]; omega
                · have hA : atA (x, y) Me 0 = (j : Int) := by rw [h1]; simp
                  have HA := hid hA
                  obtain ⟨m, hm⟩ : ∃ m, Me[j].2 = m := ⟨_, rfl⟩
                  have hage : Hid (ageL (x, y) Le = m) := hid (ageL_some (by rw [hQe.same, h3, hm]))
                  obtain ⟨ar, cr, rfl, hrw⟩ := hTe.b.own.row
                  have hjL : j < Me.length := hj
                  rcases hrw with rfl | ⟨rb, rfl, hrb, hrl, hcell⟩
                  · simp at hj
                  obtain ⟨-, -, g3⟩ := hcell j hj
                  rw [hm] at g3
                  have e1 := hTe.b.c1
                  have hj0 : decide ((0 : Int) ≤ (j : Int)) = true := by simp
                  clear h1 h2 h3 hA hm hcell
                  go_wp2_with (first
                    | (go_at_call 19; refine (atR_is HA (by have := hQe.len; omega) hTe.b).mono ?_; rintro e w21 ⟨rfl, hb21⟩; have q11 := cell_to q1 hb21; have q21 := cell_to q2 hb21; have q31 := cell_to g3 hb21; have q41 := cell_to e1 hb21))
                  have hTf := hTe.ext hb21
                  have hBf := hBe.trans (hb21.mono hBe.size)
                  clear hTe hBe
                  refine (age_is hage hTf.a).mono ?_
                  rintro e v2 ⟨rfl, hc2⟩
                  have emm : (m != m) = false := by simp
                  have hTg := hTf.ext hc2
                  have y2 := hc2.size
                  have hBg := hBf.trans (hc2.mono hBf.size)
                  clear hTf hBf hc2
                  go_wp2_with fail
                  refine (late_is hl5 hTg.a hQe.age.nd hQe.age.ok (by have := hQe.age.len; omega)).mono ?_
                  rintro e v3 ⟨a3, c3, rfl, hrow3, hc3⟩
                  have hTh := hTg.ext hc3
                  have hBh := hBg.trans (hc3.mono hBg.size)
                  clear hTg hBg hc3
                  go_wp2_with fail
                  refine (lateRef_is HN HL5 (by have := hQe.len; omega) hTh.b).mono ?_
                  rintro e v4 ⟨a4, c4, rfl, hrow4, hc4⟩
                  have hTi := hTh.ext hc4
                  have hBi := hBh.trans (hc4.mono hBh.size)
                  have hrow3' := hrow3.ext hc4
                  clear hTh hBh hc4 hrow3
                  go_wp2_with fail
                  refine (sameR_is (bm := true) (hid (by simp)) hl5n hl5n hrow3' hrow4).mono ?_
                  rintro e v5 ⟨rfl, hc5⟩
                  have hTj := hTi.ext hc5
                  have hBj := hBi.trans (hc5.mono hBi.size)
                  clear hTi hBi hc5 hrow3' hrow4
                  go_wp2
                  go_roundw
                  case rel => exact ⟨rfl, k + 1, _, _, Le, Me, by omega, by omega, by go_num, hTj, hQe, hBj⟩
                  case measure => simp [intOf]; omega
            · obtain ⟨g, hg, e0, e1, e2⟩ : ∃ g : Int, kd % 6 = g ∧ g ≠ 0 ∧ g ≠ 1 ∧ g ≠ 2 := ⟨_, rfl, c0, c1, c2⟩
              have HG := hid hg
              have f0 : (g == 0) = false := by simpa using e0
              have f1 : (g == 1) = false := by simpa using e1
              have f2 : (g == 2) = false := by simpa using e2
              obtain ⟨Le, hLe⟩ : ∃ Le, tickL n La = Le := ⟨_, rfl⟩
              obtain ⟨Me, hMe⟩ : ∃ Me, tickR n Lb = Me := ⟨_, rfl⟩
              have hQe : SameW n Le Me 41 (k + 1) := by rw [← hLe, ← hMe]; exact hQ.tick n0
              have HME := hid hMe
              have HLE := hid hLe
              clear hLe hMe hg hla
              go_wp2_with (first
                | (go_at_call 16; refine (pick_is HG.out (by omega) (by omega) w0 w1').mono ?_; rintro e w7 ⟨rfl, rfl⟩))
              refine (tick_is HLE.out hTa.a hQ.age.nd (hQ.age.bound (by omega))).mono ?_
              rintro e w8 ⟨rfl, hW8, hm8⟩
              have hT8 := hTa.putA hW8 hm8
              have hB8 := hBa.trans (hm8.below hBa.size (fun k hk => by have := hTa.e1; omega))
              have q18 := (hm8.cell (p := ⟨wr.heap.size, 1, none⟩) (by simp; omega) gq).trans q1
              have q28 := (hm8.cell (p := ⟨wr.heap.size, 1 + 1, none⟩) (by simp; omega) gq).trans q2
              have z8 := hm8.size
              clear hTa hBa hW8 hm8 q1 q2 q3 q33
              go_wp2_with fail
              refine (tickRef_is HN HME (by have := hQ.len; omega) hT8.b t1 hQ.pos).mono ?_
              rintro e w9 ⟨rfl, hW9, hm9⟩
              have hTe := hT8.putB hW9 hm9
              have hBe := hB8.trans (hm9.below hB8.size (fun k hk => by have := hT8.own_ge hk; have := hT8.d; have := hT8.e0; omega))
              have q1 := (hm9.cell (p := ⟨wr.heap.size, 1, none⟩) (by simp; omega) gown).trans q18
              have q2 := (hm9.cell (p := ⟨wr.heap.size, 1 + 1, none⟩) (by simp; omega) gown).trans q28
              clear hT8 hB8 hW9 hm9 q18 q28 hQ
              obtain ⟨l5, hl5'⟩ : ∃ l5, lateR n Me = l5 := ⟨_, rfl⟩
              have HL5 := hid hl5'
              have hl5 : sortL (lateL n Le) = l5 := hQe.late.trans hl5'
              have hl5n : l5.length ≤ 70368744177664 := by rw [← hl5']; unfold lateR; have := List.length_filter_le (fun p : Aged => decide (n ≤ p.2)) Me; have := hQe.len; simp; omega
              clear hl5'
              rcases atA_look (p := (x, y)) (L := Me) (k := 0) with ⟨h1, h2⟩ | ⟨j, hj, h1, h2, h3⟩
              · have HA := hid h1
                have hage : Hid (ageL (x, y) Le = -1) := hid (ageL_none (by rw [hQe.same]; exact h2))
                clear h1 h2
                go_wp2_with (first
                  | (go_at_call 19; refine (atR_is HA (by have := hQe.len; omega) hTe.b).mono ?_; rintro e w21 ⟨rfl, hb21⟩; have q11 := cell_to q1 hb21; have q21 := cell_to q2 hb21))
                have hTf := hTe.ext hb21
                have hBf := hBe.trans (hb21.mono hBe.size)
                clear hTe hBe
                refine (age_is hage hTf.a).mono ?_
                rintro e v2 ⟨rfl, hc2⟩
                have hTg := hTf.ext hc2
                have y2 := hc2.size
                have hBg := hBf.trans (hc2.mono hBf.size)
                clear hTf hBf hc2
                go_wp2_with fail
                refine (late_is hl5 hTg.a hQe.age.nd hQe.age.ok (by have := hQe.age.len; omega)).mono ?_
                rintro e v3 ⟨a3, c3, rfl, hrow3, hc3⟩
                have hTh := hTg.ext hc3
                have hBh := hBg.trans (hc3.mono hBg.size)
                clear hTg hBg hc3
                go_wp2_with fail
                refine (lateRef_is HN HL5 (by have := hQe.len; omega) hTh.b).mono ?_
                rintro e v4 ⟨a4, c4, rfl, hrow4, hc4⟩
                have hTi := hTh.ext hc4
                have hBi := hBh.trans (hc4.mono hBh.size)
                have hrow3' := hrow3.ext hc4
                clear hTh hBh hc4 hrow3
                go_wp2_with fail
                refine (sameR_is (bm := true) (hid (by simp)) hl5n hl5n hrow3' hrow4).mono ?_
                rintro e v5 ⟨rfl, hc5⟩
                have hTj := hTi.ext hc5
                have hBj := hBi.trans (hc5.mono hBi.size)
                clear hTi hBi hc5 hrow3' hrow4
                go_wp2
                go_roundw
                case rel => exact ⟨rfl, k + 1, _, _, Le, Me, by omega, by omega, by go_num, hTj, hQe, hBj⟩
                case measure => simp [intOf]; omega
              · have hA : atA (x, y) Me 0 = (j : Int) := by rw [h1]; simp
                have HA := hid hA
                obtain ⟨m, hm⟩ : ∃ m, Me[j].2 = m := ⟨_, rfl⟩
                have hage : Hid (ageL (x, y) Le = m) := hid (ageL_some (by rw [hQe.same, h3, hm]))
                obtain ⟨ar, cr, rfl, hrw⟩ := hTe.b.own.row
                have hjL : j < Me.length := hj
                rcases hrw with rfl | ⟨rb, rfl, hrb, hrl, hcell⟩
                · simp at hj
                obtain ⟨-, -, g3⟩ := hcell j hj
                rw [hm] at g3
                have e1 := hTe.b.c1
                have hj0 : decide ((0 : Int) ≤ (j : Int)) = true := by simp
                clear h1 h2 h3 hA hm hcell
                go_wp2_with (first
                  | (go_at_call 19; refine (atR_is HA (by have := hQe.len; omega) hTe.b).mono ?_; rintro e w21 ⟨rfl, hb21⟩; have q11 := cell_to q1 hb21; have q21 := cell_to q2 hb21; have q31 := cell_to g3 hb21; have q41 := cell_to e1 hb21))
                have hTf := hTe.ext hb21
                have hBf := hBe.trans (hb21.mono hBe.size)
                clear hTe hBe
                refine (age_is hage hTf.a).mono ?_
                rintro e v2 ⟨rfl, hc2⟩
                have emm : (m != m) = false := by simp
                have hTg := hTf.ext hc2
                have y2 := hc2.size
                have hBg := hBf.trans (hc2.mono hBf.size)
                clear hTf hBf hc2
                go_wp2_with fail
                refine (late_is hl5 hTg.a hQe.age.nd hQe.age.ok (by have := hQe.age.len; omega)).mono ?_
                rintro e v3 ⟨a3, c3, rfl, hrow3, hc3⟩
                have hTh := hTg.ext hc3
                have hBh := hBg.trans (hc3.mono hBg.size)
                clear hTg hBg hc3
                go_wp2_with fail
                refine (lateRef_is HN HL5 (by have := hQe.len; omega) hTh.b).mono ?_
                rintro e v4 ⟨a4, c4, rfl, hrow4, hc4⟩
                have hTi := hTh.ext hc4
                have hBi := hBh.trans (hc4.mono hBh.size)
                have hrow3' := hrow3.ext hc4
                clear hTh hBh hc4 hrow3
                go_wp2_with fail
                refine (sameR_is (bm := true) (hid (by simp)) hl5n hl5n hrow3' hrow4).mono ?_
                rintro e v5 ⟨rfl, hc5⟩
                have hTj := hTi.ext hc5
                have hBj := hBi.trans (hc5.mono hBi.size)
                clear hTi hBi hc5 hrow3' hrow4
                go_wp2
                go_roundw
                case rel => exact ⟨rfl, k + 1, _, _, Le, Me, by omega, by omega, by go_num, hTj, hQe, hBj⟩
                case measure => simp [intOf]; omega
    · by_cases hlt : k < xs.length
      · have hl1 : decide (k < xs.length) = true := by simpa using hlt
        have hl2 : decide ((k : Int) < (xs.length : Int)) = true := by simp; omega
        have hl3 : decide (k < 100) = false := by simp; omega
        have hl4 : decide ((k : Int) < 100) = false := by simp; omega
        go_wp2_with (go_at_call 15; refine (awakeWatch_any _).mono ?_; rintro e w7 ⟨rfl, hb7⟩)
        go_ret
        exact ⟨rfl, hB.trans (hb7.mono hB.size)⟩
      · have hl1 : decide (k < xs.length) = false := by simp; omega
        have hl2 : decide ((k : Int) < (xs.length : Int)) = false := by simp; omega
        go_wp2_with (go_at_call 15; refine (awakeWatch_any _).mono ?_; rintro e w7 ⟨rfl, hb7⟩)
        go_ret
        exact ⟨rfl, hB.trans (hb7.mono hB.size)⟩
end Go.Proofs.Ytjjahefedpfnaaa
