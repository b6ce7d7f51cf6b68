import Derived.Test.YtjjahefedpfnaaaQ1
import Derived.Test.YtjjahefedpfnaaaB4
import Derived.Test.YtjjahefedpfnaaaOpenA
namespace Go.Proofs.Ytjjahefedpfnaaa
open Go.RowKit
theorem pick_is {x n : Int} {w : World} {k : Int} (h : x % n = k) (hn : 0 < n) (hn2 : n ≤ 4611686018427387904) (hx : -9223372036854775808 ≤ x) (hx2 : x ≤ 9223372036854775807) :
   Calls Try.prog 16 #[.int .i64 x, .int .i64 n] w fun e w' => e = .returned (.int .i64 k) ∧ w' = w := by
  refine (pick_any x n w hn hn2 hx hx2).mono ?_
  rintro e w' ⟨rfl, rfl⟩
  exact ⟨by rw [h], rfl⟩
theorem ageL_on (m : Int) : ageL (1, 1) (onL m) = m := by simp [ageL, look]
theorem ageL_some {p : Pid} {L : List (Pid × Int)} {m : Int} (h : look p L = some m) : ageL p L = m := by simp [ageL, h]

/-- two watches apart from each other, both in blocks from n0 on -/
structure Two (n0 : Nat) (w : World) (s r s2 r2 : Nat) (T : Int) (L M : List (Pid × Int)) : Prop where
  a : WatchIs w s r T L
  b : WatchIs w s2 r2 T M
  d0 : s ≠ s2
  d1 : s ≠ r2
  d2 : r ≠ s2
  d3 : r ≠ r2
  e0 : n0 ≤ s
  e1 : n0 ≤ r
  e2 : n0 ≤ s2
  e3 : n0 ≤ r2
theorem Two.ext {n0 : Nat} {w w' : World} {s r s2 r2 : Nat} {T : Int} {L M : List (Pid × Int)} (h : Two n0 w s r s2 r2 T L M) (hb : Below w.heap.size w w') : Two n0 w' s r s2 r2 T L M :=
  ⟨h.a.ext hb, h.b.ext hb, h.d0, h.d1, h.d2, h.d3, h.e0, h.e1, h.e2, h.e3⟩
theorem Two.swap {n0 : Nat} {w : World} {s r s2 r2 : Nat} {T : Int} {L M : List (Pid × Int)} (h : Two n0 w s r s2 r2 T L M) : Two n0 w s2 r2 s r T M L :=
  ⟨h.b, h.a, h.d0.symm, h.d2.symm, h.d1.symm, h.d3.symm, h.e2, h.e3, h.e0, h.e1⟩
theorem Two.put {n0 : Nat} {w w' : World} {s r s2 r2 : Nat} {T : Int} {L L' M : List (Pid × Int)} (h : Two n0 w s r s2 r2 T L M) (ha : WatchIs w' s r T L') (hm : Mut (fun k => k = r) w w') : Two n0 w' s r s2 r2 T L' M :=
  ⟨ha, h.b.mut hm (fun e => h.d2 e.symm) (fun e => h.d3 e.symm), h.d0, h.d1, h.d2, h.d3, h.e0, h.e1, h.e2, h.e3⟩
theorem Two.turn {n0 : Nat} {w w' : World} {s r s2 r2 r' : Nat} {T : Int} {L L' M : List (Pid × Int)} (h : Two n0 w s r s2 r2 T L M) (h0 : n0 ≤ w.heap.size) (hr : w.heap.size ≤ r') (ha : WatchIs w' s r' T L') (hm : Mut (fun k => k = s) w w') : Two n0 w' s r' s2 r2 T L' M := by
  have := h.b.lt
  have := h.b.map.lt
  exact ⟨ha, h.b.mut hm (fun e => h.d0 e.symm) (fun e => h.d1 e.symm), h.d0, h.d1, by omega, by omega, h.e0, by omega, h.e2, h.e3⟩
theorem PidRow.app_nil {w : World} {b : Nat} (hg : w.heap[b]? = some (.cells #[] 32)) : OwnP w b (.slice (some ⟨b, 0, none⟩) 0 0) [] := by
  refine ⟨rfl, .inr ⟨b, 0, #[], rfl, Nat.le_refl _, hg, by simp, by simp, by simp, by simp [pidCells]⟩⟩
theorem alloc2_at (w : World) (A E : Obj) : ((w.alloc A).alloc E).heap[w.heap.size + 1]? = some E := by
  show ((w.heap.push A).push E)[w.heap.size + 1]? = some E
  rw [← Array.size_push (xs := w.heap) A]
  simp only [Array.getElem?_push_size]
theorem look_app {L M : List (Pid × Int)} {xs : List Pid} {m : Int} (h : look (1, 1) L = some m) (hM : followL L [] (xs ++ [(1, 1)]) = M) : look (1, 1) M = some m := by
  rw [← hM, look_follow, if_pos (by simp), h]; rfl
set_option maxRecDepth 100000 in
set_option maxHeartbeats 3200000 in
theorem watchOthers_law (t : Int) (a : Option Addr) (c : Nat) (xs : List Act) (w : World) (ht : 0 ≤ t ∧ t ≤ 255) (hx : ActRow w a xs) (hwf : WfActs xs) (hb : xs.length ≤ 17592186044416 ∧ xs.length ≤ c) :
    Calls Try.prog 5 #[.int .u8 t, .slice a xs.length c] w fun e w' => e = .returned (.bool true) ∧ Below w.heap.size w w' := by
  obtain ⟨t0, t1⟩ := ht
  obtain ⟨hlen, -⟩ := hb
  obtain ⟨n, hn⟩ : ∃ n : Int, max t 1 = n := ⟨_, rfl⟩
  have n0 : 1 ≤ n := by omega
  have n1 : n ≤ 255 := by omega
  have HN := hid hn
  have HWF := hid hwf
  clear hn hwf
  go_enter Try.func5, Try.ntmps5
  go_wp2_with fail
  refine (newWatch_is HN.out _).mono ?_
  rintro e w1 ⟨s, r, rfl, hs, hr, hW1, hb1⟩
  have z1 := hb1.size
  go_wp2_with fail
  refine (newWatch_is HN.out _).mono ?_
  rintro e w2 ⟨s2, r2, rfl, hs2, hr2, hV2, hb2⟩
  have hW2 := hW1.ext hb2
  have z2 := hb2.size
  have l1 := hW1.lt
  have l2 := hW1.map.lt
  have hB2 := hb1.trans (hb2.mono z1)
  clear hW1 hb1 hb2
  go_wp2_with fail
  refine (one_any _).mono ?_
  rintro e w3 ⟨rfl, hb3⟩
  have z3 := hb3.size
  go_wp2_with fail
  refine (follow_is (L' := onL 0) (by decide) (by decide) (PidRow.one _ 1 1) ((hW2.ext hb3).alloc _)).mono ?_
  rintro e w4 ⟨r3, rfl, hr3, hW4, hm4⟩
  have hT4 : Two w.heap.size w4 s r3 s2 r2 n (onL 0) [] := by
    have hr3' : w3.heap.size ≤ r3 := by simp at hr3; omega
    have := hV2.lt
    have := hV2.map.lt
    exact ⟨hW4, ((hV2.ext hb3).alloc _).mut hm4 (by omega) (by omega), by omega, by omega, by omega, by omega, by omega, by omega, by omega, by omega⟩
  have hB4 : Below w.heap.size w w4 := ((hB2.trans (hb3.mono (by omega))).alloc (by omega) _).trans (hm4.below (by simp; omega) (fun k hk => by omega))
  clear hW4 hm4 hV2 hB2 hb3 z1 z2 z3 hW2 l1 l2 hr hr3 hs hs2 hr2 r
  have z4 := hB4.size
  go_wp2_with fail
  refine (one_any _).mono ?_
  rintro e w5 ⟨rfl, hb5⟩
  have z5 := hb5.size
  have hT5 := (hT4.ext hb5).ext ((Below.refl _ _).alloc (Nat.le_refl _) (.cells #[.int .u16 1, .int .u32 1] 32))
  go_wp2_with fail
  refine (follow_is (L' := onL 0) (by decide) (by decide) (PidRow.one _ 1 1) hT5.b).mono ?_
  rintro e w6 ⟨r6, rfl, hr6, hW6, hm6⟩
  have hT6 := (hT5.swap.turn (by simp; omega) hr6 hW6 hm6).swap
  have hB6 : Below w.heap.size w w6 := ((hB4.trans (hb5.mono (by omega))).alloc (by omega) _).trans (hm6.below (by simp; omega) (fun k hk => by have := hT5.e2; omega))
  clear hT4 hT5 hB4 hb5 z4 z5 hW6 hm6 hr6
  go_wp2_with fail
  go_loopw [4, 7] (fun rs i wr => rs = .bool false ∧ ∃ (k : Nat) (p q : Nat) (La : List (Pid × Int)) (m : Int), k ≤ xs.length ∧ k ≤ 100 ∧ i = .int .i64 k ∧ Two w.heap.size wr s p s2 q n La (onL m) ∧ look (1, 1) La = some m ∧ (0 ≤ m ∧ m ≤ 100) ∧ AgeOk La 41 k ∧ Below w.heap.size w wr) (fun _ i _ => xs.length - (intOf i).toNat)
  case atStart => exact ⟨rfl, 0, _, _, onL 0, 0, Nat.zero_le _, by omega, rfl, hT6, by simp [look], by omega, ⟨onL_nd _, onL_ok _, by simp, by simp⟩, hB6⟩
  case round =>
    obtain ⟨rfl, k, p, q, La, m, hk, hk100, rfl, hT, hlk, ⟨m0, m1⟩, hA, hB⟩ := hrel
    clear hT6 hB6
    by_cases hgo : k < xs.length ∧ k < 100
    · obtain ⟨hlt, h100⟩ := hgo
      obtain ⟨b, off, ai, ci, kd, x, y, l, rfl, hxk, d1, d2, d3, d4, hl⟩ := (hx.ext hB).at hlt
      obtain ⟨⟨w0, w1⟩, ⟨w2, w3, w4, w5⟩, w6, w7⟩ := HWF.out xs[k] (List.getElem_mem _)
      rw [hxk] at w0 w1 w2 w3 w4 w5 w6 w7
      simp only at w0 w1 w2 w3 w4 w5 w6 w7
      have hl1 : decide (k < xs.length) = true := by simpa using hlt
      have hl2 : decide ((k : Int) < (xs.length : Int)) = true := by simp; omega
      have hl3 : decide (k < 100) = true := by simpa using h100
      have hl4 : decide ((k : Int) < 100) = true := by simp; omega
      have HX := hid hxk
      have HW6 := hid w6
      clear hxk w6
      by_cases hl40 : 40 < l.length
      · have h1' : decide (40 < (l.length : Int)) = true := by simp; omega
        go_wp2_with (go_at_call 15; refine (awakeWatch_any _).mono ?_; rintro e w7 ⟨rfl, hb7⟩)
        go_ret
        exact ⟨rfl, (hB.alloc hB.size _).trans (hb7.mono (by simp; have := hB.size; omega))⟩
      · have h1' : decide (40 < (l.length : Int)) = false := by simp; omega
        by_cases c0 : kd % 6 = 0
        · have HG := hid c0
          have hE : ∀ (A : Obj), ((wr.alloc A).alloc (.cells #[] 32)).heap[wr.heap.size + 1]? = some (.cells #[] 32) := fun A => alloc2_at wr A _
          have HE := @hid _ hE
          have hBf : ∀ (A : Obj), Below wr.heap.size wr ((wr.alloc A).alloc (.cells #[] 32)) := fun A => ((Below.refl _ _).alloc (Nat.le_refl _) _).alloc (by simp) _
          have HBf := @hid _ hBf
          have HB := hid hB
          have HT := hid hT
          have HL := hid hl
          clear hE hBf hB hT hl
          go_wp2_with (first
            | (go_at_call 16; refine (pick_is HG.out (by omega) (by omega) w0 w1).mono ?_; rintro e w7 ⟨rfl, rfl⟩)
            | (at_builtin; refine wpList_appendP (PidRow.app_nil (HE.out _)) (HL.out.ext (HBf.out _)) ?cb ?cz rfl rfl rfl rfl ?_; rotate_right; intro v8 w8 hown8 hg8 hnil8))
          case cb => simp; omega
          case cz => simp
          have hown8' : OwnP w8 (wr.heap.size + 1) v8 l := by simpa using hown8
          have hB8 : Below wr.heap.size wr w8 := (HBf.out _).grown hg8 (by simp; omega) (fun g hg => by simp [Value.ownBlock] at hg; omega)
          have z8 := hB8.size
          go_wp2_with fail
          refine (one_any _).mono ?_
          rintro e w9 ⟨rfl, hb9⟩
          have z9 := hb9.size
          go_wp2_with (at_builtin; refine wpList_appendP ((hown8'.ext hb9).alloc _) (PidRow.one _ 1 1) ?cb ?cz rfl rfl rfl rfl ?_; rotate_right; intro v10 w10 hown10 hg10 hnil10)
          case cb => simp; omega
          case cz => simp; omega
          have hB10 : Below wr.heap.size wr w10 := ((hB8.trans (hb9.mono z8)).alloc (by omega) _).grown hg10 (by simp; omega) (fun g hg => by have := (World.ownsRow.lt hown8 g hg).1; omega)
          obtain ⟨l2, hl2'⟩ : ∃ l2, l ++ [((1, 1) : Pid)] = l2 := ⟨_, rfl⟩
          rw [hl2'] at hown10
          have hl2n : l2.length ≤ 41 := by rw [← hl2']; simp; omega
          obtain ⟨a10, c10, rfl, hrow10, -⟩ := hown10.row
          obtain ⟨Le, hLe⟩ : ∃ Le, followL La [] l2 = Le := ⟨_, rfl⟩
          have hlke : look (1, 1) Le = some m := look_app (xs := l) hlk (by rw [hl2']; exact hLe)
          have hAe : AgeOk Le 41 (k + 1) := by
            rw [← hLe]
            refine (hA.follow (m := 41) (fun z hz => ?_) hl2n).mono (Nat.le_refl _) (by omega)
            rw [← hl2'] at hz
            rcases List.mem_append.1 hz with hz | hz
            · exact HW6.out z hz
            · rw [List.mem_singleton.1 hz]; simp [Go.Proofs.Ytjjahefedpfnaaa.ok]
          clear hl2' HW6 hown10 hg10 hnil10 hg8 hnil8 hown8 hown8' hb9 HBf HE
          have hT10 := HT.out.ext hB10
          have hBo := HB.out.trans (hB10.mono HB.out.size)
          clear HT HB HL
          go_wp2_with fail
          refine (follow_is hLe (by omega) hrow10 hT10.a).mono ?_
          rintro e w11 ⟨r11, rfl, hr11, hW11, hm11⟩
          have hTe := hT10.turn hBo.size hr11 hW11 hm11
          have hBe : Below w.heap.size w w11 := hBo.trans (hm11.below hBo.size (fun k hk => by have := hT10.e0; omega))
          obtain ⟨me, hme⟩ : ∃ me : Int, me = m := ⟨_, rfl⟩
          subst hme
          clear hT10 hBo hW11 hm11 hr11 hrow10 hB10 hB8
          have y0 := hBe.size
          go_wp2_with fail
          refine (one_any _).mono ?_
          rintro e v1 ⟨rfl, hc1⟩
          have hTf := hTe.ext hc1
          have y1 := hc1.size
          go_wp2_with fail
          refine (age_is (n := me) (hid (ageL_some hlke)) hTf.a).mono ?_
          rintro e v2 ⟨rfl, hc2⟩
          have hTg := hTf.ext hc2
          have y2 := hc2.size
          go_wp2_with fail
          refine (one_any _).mono ?_
          rintro e v3 ⟨rfl, hc3⟩
          have hTh := hTg.ext hc3
          have y3 := hc3.size
          go_wp2_with fail
          refine (age_is (n := me) (hid (ageL_on me)) hTh.b).mono ?_
          rintro e v4 ⟨rfl, hc4⟩
          have hTi := hTh.ext hc4
          have hBi : Below w.heap.size w v4 := (((hBe.trans (hc1.mono y0)).trans (hc2.mono (by omega))).trans (hc3.mono (by omega))).trans (hc4.mono (by omega))
          clear hTe hTf hTg hTh hBe hc1 hc2 hc3 hc4
          go_wp2
          go_roundw
          case rel => exact ⟨rfl, k + 1, _, _, Le, me, by omega, by omega, by go_num, hTi, hlke, ⟨by omega, by omega⟩, hAe, hBi⟩
          case measure => simp [intOf]; omega
        · by_cases c1 : kd % 6 = 1
          · have HG : Hid (kd % 6 = 1) := hid c1
            have HB := hid hB
            have HT := hid hT
            clear hB hT hl
            obtain ⟨Le, hLe⟩ : ∃ Le, (if (look (x, y) La).isSome = true then ins (x, y) 0 La else La) = Le := ⟨_, rfl⟩
            have hAe : AgeOk Le 41 (k + 1) := by rw [← hLe]; exact hA.heard.mono (Nat.le_refl _) (by omega)
            go_wp2_with (go_at_call 16; refine (pick_is HG.out (by omega) (by omega) w0 w1).mono ?_; rintro e w7 ⟨rfl, rfl⟩)
            refine (heard_is rfl hLe (HT.out.a.alloc _) (fun z hz => (hA.age z hz).1)).mono ?_
            rintro e w11 ⟨rfl, hW11, hm11⟩
            have hT11 := (HT.out.ext ((Below.refl _ _).alloc (Nat.le_refl _) _)).put hW11 hm11
            have hB11 := (HB.out.alloc HB.out.size _).trans (hm11.below (by simp; have := HB.out.size; omega) (fun k hk => by have := HT.out.e1; omega))
            have hne : wr.heap.size ≠ p := by have := HT.out.a.map.lt; omega
            have q1 : w11.cell? ⟨wr.heap.size, 1, none⟩ = some (.int .u16 x) := (hm11.cell (p := ⟨wr.heap.size, 1, none⟩) (by simp) hne).trans (by simp)
            have q2 : w11.cell? ⟨wr.heap.size, 1 + 1, none⟩ = some (.int .u32 y) := (hm11.cell (p := ⟨wr.heap.size, 2, none⟩) (by simp) hne).trans (by simp)
            clear hW11 hm11 HT HB
            have y11 := hB11.size
            by_cases hxy : x = 1 ∧ y = 1
            · obtain ⟨rfl, rfl⟩ := hxy
              go_wp2_with fail
              go_region_with (first
                | (go_at_call 27; refine (one_any _).mono ?_; rintro e w12 ⟨rfl, hb12'⟩; have hb12 := (Below.refl w11.heap.size w11).drew.trans hb12'; have q3 := cell_to q1 hb12; have q4 := cell_to q2 hb12))
              all_goals (
                have hT12 := hT11.ext hb12
                have hB12 := hB11.trans (hb12.mono y11)
                clear hT11 hB11 q3 q4 q1 q2 hb12'
                have y12 := hB12.size
                have hlke : look (1, 1) Le = some 0 := by rw [← hLe, if_pos (by rw [hlk]; rfl), look_ins, if_pos rfl]
                go_wp2_with fail
                refine (one_any _).mono ?_
                rintro e w13 ⟨rfl, hb13⟩
                have hT13 := hT12.ext hb13
                have hB13 := hB12.trans (hb13.mono y12)
                have y13 := hB13.size
                clear hT12 hB12 hb12 hb13
                go_wp2_with fail
                refine (heard_is (b := true) (L' := onL 0) (by simp [look]) (by simp [look, ins]) hT13.b (by simp; omega)).mono ?_
                rintro e w14 ⟨rfl, hW14, hm14⟩
                have hTe := (hT13.swap.put hW14 hm14).swap
                have hBe := hB13.trans (hm14.below y13 (fun k hk => by have := hT13.e3; omega))
                obtain ⟨me, hme⟩ : ∃ me : Int, me = 0 := ⟨_, rfl⟩
                rw [← hme] at hlke hTe
                clear hT13 hB13 hW14 hm14
                have y0 := hBe.size
                go_wp2_with fail
                refine (one_any _).mono ?_
                rintro e v1 ⟨rfl, hc1⟩
                have hTf := hTe.ext hc1
                have y1 := hc1.size
                go_wp2_with fail
                refine (age_is (n := me) (hid (ageL_some hlke)) hTf.a).mono ?_
                rintro e v2 ⟨rfl, hc2⟩
                have hTg := hTf.ext hc2
                have y2 := hc2.size
                go_wp2_with fail
                refine (one_any _).mono ?_
                rintro e v3 ⟨rfl, hc3⟩
                have hTh := hTg.ext hc3
                have y3 := hc3.size
                go_wp2_with fail
                refine (age_is (n := me) (hid (ageL_on me)) hTh.b).mono ?_
                rintro e v4 ⟨rfl, hc4⟩
                have hTi := hTh.ext hc4
                have hBi : Below w.heap.size w v4 := (((hBe.trans (hc1.mono y0)).trans (hc2.mono (by omega))).trans (hc3.mono (by omega))).trans (hc4.mono (by omega))
                clear hTe hTf hTg hTh hBe hc1 hc2 hc3 hc4
                go_wp2
                go_roundw
                case rel => exact ⟨rfl, k + 1, _, _, Le, me, by omega, by omega, by go_num, hTi, hlke, ⟨by omega, by omega⟩, hAe, hBi⟩
                case measure => simp [intOf]; omega)
            · have he := fun w => eql_pid x y 1 1 w
              have hxy1 : decide ((x, y) = ((1 : Int), (1 : Int))) = false := by simpa using hxy
              rw [hxy1] at he
              have HXY : Hid (¬ (x = 1 ∧ y = 1)) := hxy
              clear hxy hxy1
              go_wp2_with fail
              go_region_with (first
                | (go_at_call 27; refine (one_any _).mono ?_; rintro e w12 ⟨rfl, hb12'⟩; have hb12 := (Below.refl w11.heap.size w11).drew.trans hb12'; have q3 := cell_to q1 hb12; have q4 := cell_to q2 hb12))
              all_goals (
                have hTe := hT11.ext hb12
                have hBe := hB11.trans (hb12.mono y11)
                clear hT11 hB11 q3 q4 q1 q2 hb12' hb12
                have hlke : look (1, 1) Le = some m := by
                  rw [← hLe]
                  split
                  · rw [look_ins, if_neg (fun e => HXY.out (by simpa [eq_comm] using e))]; exact hlk
                  · exact hlk
                obtain ⟨me, hme⟩ : ∃ me : Int, me = m := ⟨_, rfl⟩
                subst hme
                have y0 := hBe.size
                go_wp2_with fail
                refine (one_any _).mono ?_
                rintro e v1 ⟨rfl, hc1⟩
                have hTf := hTe.ext hc1
                have y1 := hc1.size
                go_wp2_with fail
                refine (age_is (n := me) (hid (ageL_some hlke)) hTf.a).mono ?_
                rintro e v2 ⟨rfl, hc2⟩
                have hTg := hTf.ext hc2
                have y2 := hc2.size
                go_wp2_with fail
                refine (one_any _).mono ?_
                rintro e v3 ⟨rfl, hc3⟩
                have hTh := hTg.ext hc3
                have y3 := hc3.size
                go_wp2_with fail
                refine (age_is (n := me) (hid (ageL_on me)) hTh.b).mono ?_
                rintro e v4 ⟨rfl, hc4⟩
                have hTi := hTh.ext hc4
                have hBi : Below w.heap.size w v4 := (((hBe.trans (hc1.mono y0)).trans (hc2.mono (by omega))).trans (hc3.mono (by omega))).trans (hc4.mono (by omega))
                clear hTe hTf hTg hTh hBe hc1 hc2 hc3 hc4
                go_wp2
                go_roundw
                case rel => exact ⟨rfl, k + 1, _, _, Le, me, by omega, by omega, by go_num, hTi, hlke, ⟨by omega, by omega⟩, hAe, hBi⟩
                case measure => simp [intOf]; omega)
          · by_cases c2 : kd % 6 = 2
            · have HG : Hid (kd % 6 = 2) := hid c2
              have HB := hid hB
              have HT := hid hT
              clear hB hT hl
              obtain ⟨Le, hLe⟩ : ∃ Le, (if (look (x, y) La).isSome = true then ins (x, y) 0 La else La) = Le := ⟨_, rfl⟩
              have hAe : AgeOk Le 41 (k + 1) := by rw [← hLe]; exact hA.heard.mono (Nat.le_refl _) (by omega)
              go_wp2_with (go_at_call 16; refine (pick_is HG.out (by omega) (by omega) w0 w1).mono ?_; rintro e w7 ⟨rfl, rfl⟩)
              refine (heard_is rfl hLe (HT.out.a.alloc _) (fun z hz => (hA.age z hz).1)).mono ?_
              rintro e w11 ⟨rfl, hW11, hm11⟩
              have hT11 := (HT.out.ext ((Below.refl _ _).alloc (Nat.le_refl _) _)).put hW11 hm11
              have hB11 := (HB.out.alloc HB.out.size _).trans (hm11.below (by simp; have := HB.out.size; omega) (fun k hk => by have := HT.out.e1; omega))
              have hne : wr.heap.size ≠ p := by have := HT.out.a.map.lt; omega
              have q1 : w11.cell? ⟨wr.heap.size, 1, none⟩ = some (.int .u16 x) := (hm11.cell (p := ⟨wr.heap.size, 1, none⟩) (by simp) hne).trans (by simp)
              have q2 : w11.cell? ⟨wr.heap.size, 1 + 1, none⟩ = some (.int .u32 y) := (hm11.cell (p := ⟨wr.heap.size, 2, none⟩) (by simp) hne).trans (by simp)
              clear hW11 hm11 HT HB
              have y11 := hB11.size
              by_cases hxy : x = 1 ∧ y = 1
              · obtain ⟨rfl, rfl⟩ := hxy
                go_wp2_with fail
                go_region_with (first
                  | (go_at_call 27; refine (one_any _).mono ?_; rintro e w12 ⟨rfl, hb12'⟩; have hb12 := (Below.refl w11.heap.size w11).drew.trans hb12'; have q3 := cell_to q1 hb12; have q4 := cell_to q2 hb12))
                all_goals (
                  have hT12 := hT11.ext hb12
                  have hB12 := hB11.trans (hb12.mono y11)
                  clear hT11 hB11 q3 q4 q1 q2 hb12'
                  have y12 := hB12.size
                  have hlke : look (1, 1) Le = some 0 := by rw [← hLe, if_pos (by rw [hlk]; rfl), look_ins, if_pos rfl]
                  go_wp2_with fail
                  refine (one_any _).mono ?_
                  rintro e w13 ⟨rfl, hb13⟩
                  have hT13 := hT12.ext hb13
                  have hB13 := hB12.trans (hb13.mono y12)
                  have y13 := hB13.size
                  clear hT12 hB12 hb12 hb13
                  go_wp2_with fail
                  refine (heard_is (b := true) (L' := onL 0) (by simp [look]) (by simp [look, ins]) hT13.b (by simp; omega)).mono ?_
                  rintro e w14 ⟨rfl, hW14, hm14⟩
                  have hTe := (hT13.swap.put hW14 hm14).swap
                  have hBe := hB13.trans (hm14.below y13 (fun k hk => by have := hT13.e3; omega))
                  obtain ⟨me, hme⟩ : ∃ me : Int, me = 0 := ⟨_, rfl⟩
                  rw [← hme] at hlke hTe
                  clear hT13 hB13 hW14 hm14
                  have y0 := hBe.size
                  go_wp2_with fail
                  refine (one_any _).mono ?_
                  rintro e v1 ⟨rfl, hc1⟩
                  have hTf := hTe.ext hc1
                  have y1 := hc1.size
                  go_wp2_with fail
                  refine (age_is (n := me) (hid (ageL_some hlke)) hTf.a).mono ?_
                  rintro e v2 ⟨rfl, hc2⟩
                  have hTg := hTf.ext hc2
                  have y2 := hc2.size
                  go_wp2_with fail
                  refine (one_any _).mono ?_
                  rintro e v3 ⟨rfl, hc3⟩
                  have hTh := hTg.ext hc3
                  have y3 := hc3.size
                  go_wp2_with fail
                  refine (age_is (n := me) (hid (ageL_on me)) hTh.b).mono ?_
                  rintro e v4 ⟨rfl, hc4⟩
                  have hTi := hTh.ext hc4
                  have hBi : Below w.heap.size w v4 := (((hBe.trans (hc1.mono y0)).trans (hc2.mono (by omega))).trans (hc3.mono (by omega))).trans (hc4.mono (by omega))
                  clear hTe hTf hTg hTh hBe hc1 hc2 hc3 hc4
                  go_wp2
                  go_roundw
                  case rel => exact ⟨rfl, k + 1, _, _, Le, me, by omega, by omega, by go_num, hTi, hlke, ⟨by omega, by omega⟩, hAe, hBi⟩
                  case measure => simp [intOf]; omega)
              · have he := fun w => eql_pid x y 1 1 w
                have hxy1 : decide ((x, y) = ((1 : Int), (1 : Int))) = false := by simpa using hxy
                rw [hxy1] at he
                have HXY : Hid (¬ (x = 1 ∧ y = 1)) := hxy
                clear hxy hxy1
                go_wp2_with fail
                go_region_with (first
                  | (go_at_call 27; refine (one_any _).mono ?_; rintro e w12 ⟨rfl, hb12'⟩; have hb12 := (Below.refl w11.heap.size w11).drew.trans hb12'; have q3 := cell_to q1 hb12; have q4 := cell_to q2 hb12))
                all_goals (
                  have hTe := hT11.ext hb12
                  have hBe := hB11.trans (hb12.mono y11)
                  clear hT11 hB11 q3 q4 q1 q2 hb12' hb12
                  have hlke : look (1, 1) Le = some m := by
                    rw [← hLe]
                    split
                    · rw [look_ins, if_neg (fun e => HXY.out (by simpa [eq_comm] using e))]; exact hlk
                    · exact hlk
                  obtain ⟨me, hme⟩ : ∃ me : Int, me = m := ⟨_, rfl⟩
                  subst hme
                  have y0 := hBe.size
                  go_wp2_with fail
                  refine (one_any _).mono ?_
                  rintro e v1 ⟨rfl, hc1⟩
                  have hTf := hTe.ext hc1
                  have y1 := hc1.size
                  go_wp2_with fail
                  refine (age_is (n := me) (hid (ageL_some hlke)) hTf.a).mono ?_
                  rintro e v2 ⟨rfl, hc2⟩
                  have hTg := hTf.ext hc2
                  have y2 := hc2.size
                  go_wp2_with fail
                  refine (one_any _).mono ?_
                  rintro e v3 ⟨rfl, hc3⟩
                  have hTh := hTg.ext hc3
                  have y3 := hc3.size
                  go_wp2_with fail
                  refine (age_is (n := me) (hid (ageL_on me)) hTh.b).mono ?_
                  rintro e v4 ⟨rfl, hc4⟩
                  have hTi := hTh.ext hc4
                  have hBi : Below w.heap.size w v4 := (((hBe.trans (hc1.mono y0)).trans (hc2.mono (by omega))).trans (hc3.mono (by omega))).trans (hc4.mono (by omega))
                  clear hTe hTf hTg hTh hBe hc1 hc2 hc3 hc4
                  go_wp2
                  go_roundw
                  case rel => exact ⟨rfl, k + 1, _, _, Le, me, by omega, by omega, by go_num, hTi, hlke, ⟨by omega, by omega⟩, hAe, hBi⟩
                  case measure => simp [intOf]; omega)
            · have HB := hid hB
              have HT := hid hT
              have gg : ∃ g : Int, kd % 6 = g ∧ g ≠ 0 ∧ g ≠ 1 ∧ g ≠ 2 := ⟨_, rfl, c0, c1, c2⟩
              obtain ⟨g, hg, e0, e1, e2⟩ := gg
              have HG := hid hg
              have f0 : (g == 0) = false := by simpa using e0
              have f1 : (g == 1) = false := by simpa using e1
              have f2 : (g == 2) = false := by simpa using e2
              clear hB hT hl hg
              obtain ⟨Le, hLe⟩ : ∃ Le, tickL n La = Le := ⟨_, rfl⟩
              have hAe : AgeOk Le 41 (k + 1) := by rw [← hLe]; exact hA.tick n0
              obtain ⟨me, hme⟩ : ∃ me : Int, min (m + 1) n = me := ⟨_, rfl⟩
              have hlke : look (1, 1) Le = some me := by rw [← hLe, ← hme]; exact ageL_tick hlk
              have hme' := onL_tick hme
              have hmk : m ≤ k := (hA.age _ (mem_of_look hlk)).2
              go_wp2_with (go_at_call 16; refine (pick_is HG.out (by omega) (by omega) w0 w1).mono ?_; rintro e w7 ⟨rfl, rfl⟩)
              refine (tick_is hLe (HT.out.a.alloc _) hA.nd (hA.bound (by omega))).mono ?_
              rintro e w11 ⟨rfl, hW11, hm11⟩
              have hT11 := (HT.out.ext ((Below.refl _ _).alloc (Nat.le_refl _) _)).put hW11 hm11
              have hB11 := (HB.out.alloc HB.out.size _).trans (hm11.below (by simp; have := HB.out.size; omega) (fun k hk => by have := HT.out.e1; omega))
              clear hW11 hm11 HT HB
              have y11 := hB11.size
              go_wp2_with fail
              refine (tick_is hme' hT11.b (onL_nd _) (by simp; omega)).mono ?_
              rintro e w12 ⟨rfl, hW12, hm12⟩
              have hTe := (hT11.swap.put hW12 hm12).swap
              have hBe := hB11.trans (hm12.below y11 (fun k hk => by have := hT11.e3; omega))
              clear hT11 hB11 y11 hW12 hm12
              have y0 := hBe.size
              go_wp2_with fail
              refine (one_any _).mono ?_
              rintro e v1 ⟨rfl, hc1⟩
              have hTf := hTe.ext hc1
              have y1 := hc1.size
              go_wp2_with fail
              refine (age_is (n := me) (hid (ageL_some hlke)) hTf.a).mono ?_
              rintro e v2 ⟨rfl, hc2⟩
              have hTg := hTf.ext hc2
              have y2 := hc2.size
              go_wp2_with fail
              refine (one_any _).mono ?_
              rintro e v3 ⟨rfl, hc3⟩
              have hTh := hTg.ext hc3
              have y3 := hc3.size
              go_wp2_with fail
              refine (age_is (n := me) (hid (ageL_on me)) hTh.b).mono ?_
              rintro e v4 ⟨rfl, hc4⟩
              have hTi := hTh.ext hc4
              have hBi : Below w.heap.size w v4 := (((hBe.trans (hc1.mono y0)).trans (hc2.mono (by omega))).trans (hc3.mono (by omega))).trans (hc4.mono (by omega))
              clear hTe hTf hTg hTh hBe hc1 hc2 hc3 hc4
              go_wp2
              go_roundw
              case rel => exact ⟨rfl, k + 1, _, _, Le, me, by omega, by omega, by go_num, hTi, hlke, ⟨by omega, by omega⟩, hAe, hBi⟩
              case measure => simp [intOf]; omega
    · have hL : Hid (k = xs.length ∨ k = 100) := hid (by omega)
      have hpost : True := trivial
      by_cases hlt : k < xs.length
      · have hl1 : decide (k < xs.length) = true := by simpa using hlt
        have hl2 : decide ((k : Int) < (xs.length : Int)) = true := by simp; omega
        have hl3 : decide (k < 100) = false := by simp; omega
        have hl4 : decide ((k : Int) < 100) = false := by simp; omega
        go_wp2_with (go_at_call 15; refine (awakeWatch_any _).mono ?_; rintro e w7 ⟨rfl, hb7⟩)
        go_ret
        exact ⟨rfl, hB.trans (hb7.mono hB.size)⟩
      · have hl1 : decide (k < xs.length) = false := by simp; omega
        have hl2 : decide ((k : Int) < (xs.length : Int)) = false := by simp; omega
        go_wp2_with (go_at_call 15; refine (awakeWatch_any _).mono ?_; rintro e w7 ⟨rfl, hb7⟩)
        go_ret
        exact ⟨rfl, hB.trans (hb7.mono hB.size)⟩
end Go.Proofs.Ytjjahefedpfnaaa
