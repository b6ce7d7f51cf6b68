/- Parts of the proof: KR. -/
import Derived.Test.YtidohmpnefcpcaaGHubPair11
namespace Go.Proofs.Ytidohmpnefcpcaa
open Go.RowKit
/-! ### the law HubPair -/
theorem infoPackS : (Try.prog.info? 41).map (·.size) = some 7 := by kernel_rfl
theorem BytesOk.len {w : World} {a : Option Addr} {bs : List Nat} (h : BytesOk w a bs) : ∀ b off, a = some ⟨b, off, none⟩ → bs ≠ [] → b < w.heap.size := fun b off e hne => by
  rcases h.row with h1 | ⟨b', off', e', h1, -⟩
  · exact absurd h1 hne
  · rw [e] at e'; cases e'; exact h1
/-- the call of Send in the first loop -/
theorem pair_send {W wr : World} {N : Nat → Prop} {ha ra hb rb k m lb lo : Nat} {LA : List HubX} {ls : List (List Nat)} {ai : Option Addr} {ci : Nat} (D : Duo W wr N ha ra (1, 1) LA hb rb (2, 1) []) (hL : hubD LA = sentD ls k) (hk : k < ls.length) (h30 : ls.length ≤ 30) (h50 : ls[k].length ≤ 50) (hm : ls[k].length = m) (hB : BytesOk W ai ls[k]) (hlb : lb < W.heap.size) (hc : wr.cell? ⟨lb, lo, none⟩ = some (.slice ai m ci)) :
    ∀ w, Below wr.drew.heap.size wr.drew w → Calls Try.prog 10 #[.pointer (some ⟨ha, 0, none⟩), .agg #[.int .u16 2, .int .u32 1], .slice ai m ci] w fun e w' => e = .returned (.int .i64 0) ∧ (∃ N' LA', Duo W w' N' ha ra (1, 1) LA' hb rb (2, 1) [] ∧ hubD LA' = sentD ls (k + 1)) ∧ w'.cell? ⟨lb, lo, none⟩ = some (.slice ai m ci) := fun w hb => by
  have hb' : Below wr.heap.size wr w := (Below.refl _ _).drew.trans hb
  have D1 := D.ext hb'
  have hBw : BytesOk w ai ls[k] := hB.ext D1.below
  have hlo : ∀ b, fpH ha ra LA b → W.heap.size ≤ b := fun b e => D1.lo b (D1.a.fp b e)
  have CS := hsend_any (bc := ci) (n := m) D1.a D1.lt 2 1 ok21 (hid hm) (by omega) hBw.row hBw.lt (fun b off e hne e2 => by have := hB.len b off e hne; have := hlo b e2; omega)
  rw [hL, sent_step hk h30 h50] at CS
  refine CS.mono ?_
  rintro e w' ⟨rfl, N', L', HR, hL'⟩
  refine ⟨rfl, ⟨N', L', D1.stepA HR, hL'⟩, ?_⟩
  rw [HR.mt.cell (p := ⟨lb, lo, none⟩) (by have := D1.below.size; show lb < w.heap.size; omega) (fun e => by have := hlo _ e; have : W.heap.size ≤ lb := this; omega)]
  rw [hb'.cell (by exact World.block_lt_of_cell? _ _ hc)]
  exact hc
set_option maxRecDepth 100000 in
set_option maxHeartbeats 6400000 in
theorem hubPair_law {W : World} {la ta : Option Addr} {lc tc : Nat} {ls : List (List Nat)} {ts : List Bool} (hR : BlRow W la ls) (_ : ls.length ≤ lc) (hT : BoolRow W ta ts) (_ : ts.length ≤ tc) :
    Calls Try.prog 3 #[.slice la ls.length lc, .slice ta ts.length tc] W fun e w' => e = .returned (.bool true) ∧ Below W.heap.size W w' := by
  have ET := hid two_any
  have EO := hid one_any
  have HR0 := hid hR
  have HT0 := hid hT
  obtain ⟨n, hn⟩ : ∃ n, ls.length = n := ⟨_, rfl⟩
  obtain ⟨tn, htn⟩ : ∃ tn, ts.length = tn := ⟨_, rfl⟩
  rw [hn, htn]
  have HN := hid hn
  have HTN := hid htn
  clear hR hT hn htn
  by_cases h30 : n ≤ 30
  · have q1 : decide ((n : Int) > 30) = false := decide_eq_false (by omega)
    have q2 : decide (30 < n) = false := decide_eq_false (by omega)
    have H30 : Hid (ls.length ≤ 30) := hid (by rw [HN.out]; exact h30)
    go_enter Try.func3, Try.ntmps3
    go_wp2_with fail
    refine (EO.out W).mono ?_
    rintro e w' ⟨rfl, hb0⟩
    have HB0 := hid hb0
    clear hb0
    go_wp2_with fail
    refine (hnew_any (1, 1) w' (fun _ => False)).mono ?_
    rintro e w1 ⟨ha, ra, rfl, hb1, HA1, hha, hra⟩
    have HB1 := hid hb1
    have HAA := hid HA1
    have HHA := hid (And.intro hha hra)
    clear hb1 HA1 hha hra
    go_wp2_with fail
    refine (ET.out w1).mono ?_
    rintro e w1' ⟨rfl, hb1'⟩
    have HB1' := hid hb1'
    clear hb1'
    go_wp2_with fail
    refine (hnew_any (2, 1) w1' (fun b => False ∨ fpH ha ra [] b)).mono ?_
    rintro e w2 ⟨hb, rb, rfl, hb2, HB2, hhb, hrb⟩
    obtain ⟨N2, D2⟩ := two_new (HB0.out.trans ((HB1.out.trans (HB1'.out.mono HB1.out.size)).mono HB0.out.size)) (HAA.out.ext HB1'.out) (Nat.le_trans HB0.out.size HHA.out.1) (Nat.le_trans HB0.out.size HHA.out.2) hb2 HB2 hhb hrb
    have HD2 := hid D2
    clear hb2 HB2 hhb hrb HAA HB1 HHA HB0 HB1' D2
    go_wp2_with fail
    go_loopw [4, 7] (fun rs kv wr => rs = .bool false ∧ ∃ k N LA, kv = .int .i64 (k : Nat) ∧ k ≤ n ∧ Hid (Duo W wr N ha ra (1, 1) LA hb rb (2, 1) []) ∧ Hid (hubD LA = sentD ls k) ∧ Hid (∀ i (h : i < ls.length), i < k → ls[i].length ≤ 50)) (fun _ kv _ => n - (intOf kv).toNat)
    case atStart => exact ⟨rfl, 0, N2, [], rfl, Nat.zero_le _, HD2, hid rfl, hid (fun i _ h => by omega)⟩
    case round =>
      obtain ⟨rfl, k, N, LA, rfl, hk, HD, HL, H50⟩ := hrel
      rename World => wr
      by_cases hlt : k < n
      · have t1' : decide ((k : Int) < (n : Int)) = true := decide_eq_true (by omega)
        have t2' : decide (k < n) = true := decide_eq_true hlt
        have hkl : k < ls.length := by rw [HN.out]; exact hlt
        obtain ⟨lb, lo, ai, ci, rfl, hlb, hc0, hby⟩ := HR0.out.at hkl
        obtain ⟨m, hm⟩ : ∃ m, ls[k].length = m := ⟨_, rfl⟩
        rw [hm] at hc0
        have hcr : wr.cell? ⟨lb, lo + k, none⟩ = some (.slice ai m ci) := (HD.out.below.cell (by exact hlb)).trans hc0
        by_cases hm50 : m ≤ 50
        · have q3 : decide ((m : Int) > 50) = false := decide_eq_false (by omega)
          have q4 : decide (50 < m) = false := decide_eq_false (by omega)
          have CS := hid (pair_send HD.out HL.out hkl H30.out (by omega) hm hby hlb hcr)
          have H51 : Hid (∀ i (h : i < ls.length), i < k + 1 → ls[i].length ≤ 50) := hid fun i h hi => by
            by_cases hik : i < k
            · exact H50.out i h hik
            · have : i = k := by omega
              subst this; omega
          clear hc0 hby hkl hm
          go_upto_region 9 with fail
          go_region_held3 (fun w => w.cell? ⟨lb, lo + k, none⟩ = some (.slice ai m ci)) (first | exact hcr | assumption) (first | (go_at_call 9; refine (ET.out _).mono ?_; rintro e wm ⟨rfl, hbm⟩; have hcm := (hbm.cell (by exact World.block_lt_of_cell? _ _ hcr)).trans hcr) | (go_at_call 10; refine (CS.out _ ‹_›).mono ?_; rintro e w4 ⟨rfl, ⟨N4, LA4, hD4, hL4⟩, hc4⟩))
          go_wp2_with fail
          refine ⟨⟨rfl, k + 1, N4, LA4, by go_num, by omega, hid hD4, hid hL4, H51⟩, ?_⟩
          simp [intOf]; omega
        · have q3 : decide ((m : Int) > 50) = true := decide_eq_true (by omega)
          have q4 : decide (50 < m) = true := decide_eq_true (by omega)
          clear hc0 hby hkl hm
          have CA := hid (awake_any wr)
          have HBW := hid HD.out.below
          go_wp2_with fail
          refine CA.out.mono ?_
          rintro e w3 ⟨rfl, hb3⟩
          go_wp2_with fail
          go_ret
          exact ⟨rfl, HBW.out.trans (hb3.mono HBW.out.size)⟩
      · have hkn : k = n := by omega
        have t1' : decide ((k : Int) < (n : Int)) = false := decide_eq_false (by omega)
        have t2' : decide (k < n) = false := decide_eq_false hlt
        subst hkn
        have H50A : Hid (∀ b ∈ ls, b.length ≤ 50) := hid fun b hb => by
          obtain ⟨i, hi, rfl⟩ := List.getElem_of_mem hb
          exact H50.out i hi (by rw [← HN.out]; exact hi)
        have HAK : Hid (AOk ls 0 (hubD LA)) := hid (by rw [HL.out, ← HN.out]; exact sent_all ls)
        clear H50 HL hlt hk
        go_wp2_with fail
        go_loopw [4, 8, 9] (fun rs av tv wr => rs = .bool false ∧ ∃ t d N LA LB, av = .int .i64 (d : Nat) ∧ tv = .int .i64 (t : Nat) ∧ t ≤ 10 ∧ d ≤ k ∧ Hid (Duo W wr N ha ra (1, 1) LA hb rb (2, 1) LB) ∧ Hid (AOk ls d (hubD LA)) ∧ Hid (BOk d false (hubD LB)) ∧ Hid (d = min (16 * t) k)) (fun _ _ tv _ => 10 - (intOf tv).toNat)
        case atStart => exact ⟨rfl, 0, 0, N, LA, [], rfl, rfl, by omega, Nat.zero_le _, HD, HAK, hid (.inl ⟨rfl, rfl, rfl⟩), hid (by omega)⟩
        case round =>
          obtain ⟨rfl, t, d, N, LA, LB, rfl, rfl, ht, hd, HD, HA, HB, HDT⟩ := hrel
          rename World => wr
          by_cases hlt : t < 10
          · have t1' : decide ((t : Int) < 10) = true := decide_eq_true (by omega)
            have t2' : decide (t < 10) = true := decide_eq_true hlt
            obtain ⟨q, hq⟩ : ∃ q, (if h : t < ts.length then ts[t] else false) = q := ⟨_, rfl⟩
            have HQ := hid hq
            clear hq
            go_upto_region 15 with fail
            go_cut [58] (fun v wx => v = .bool q ∧ wx = wr)
            case first =>
              by_cases htl : t < tn
              · have htl' : t < ts.length := by rw [HTN.out]; exact htl
                have s1 : decide ((t : Int) < (tn : Int)) = true := decide_eq_true (by omega)
                have s2 : decide (t < tn) = true := decide_eq_true htl
                obtain ⟨tb, to', rfl, hc⟩ := (HT0.out.ext HD.out.below).at htl'
                have e := HQ.out
                rw [dif_pos htl'] at e
                rw [e] at hc
                clear e
                go_wp2_with fail
                go_meet
                exact ⟨rfl, rfl⟩
              · have htl' : ¬ t < ts.length := by rw [HTN.out]; exact htl
                have s1 : decide ((t : Int) < (tn : Int)) = false := decide_eq_false (by omega)
                have s2 : decide (t < tn) = false := decide_eq_false htl
                have e := HQ.out
                rw [dif_neg htl'] at e
                subst e
                go_wp2_with fail
                go_meet
                exact ⟨rfl, rfl⟩
            case rest =>
              obtain ⟨rfl, rfl⟩ := hcut
              go_upto_if 58 with fail
              go_cut [5] (fun v wx => v = .pointer (some ⟨ha, 0, none⟩) ∧ ∃ N' LA', Hid (Duo W wx N' ha ra (1, 1) LA' hb rb (2, 1) LB) ∧ Hid (AOk ls d (hubD LA')))
              case first =>
                cases q
                · go_wp2_with fail
                  go_meet
                  exact ⟨rfl, N, LA, HD, HA⟩
                · have CT := hid (htick_any HD.out.a HD.out.lt)
                  go_wp2_with fail
                  refine CT.out.mono ?_
                  rintro e w3 ⟨rfl, L3, HR3, hL3⟩
                  go_wp2_with fail
                  go_meet
                  exact ⟨rfl, N, L3, hid (HD.out.stepA HR3), hid (by rw [hL3]; exact aok_tick HA.out)⟩
              case rest =>
                clear HD HA HQ q
                obtain ⟨rfl, N1, LA1, HD, HA⟩ := hcut
                rename World => wm
                have H30' := H30.out
                have HDK : Hid (d ≤ ls.length) := hid (by rw [HN.out]; exact hd)
                have CO := hout_any HD.out.a HD.out.lt (hub_fit (aok_fit HA.out HDK.out H30' H50A.out)) (show 100 ≤ 900000 by decide)
                obtain ⟨H5, he5, hA5⟩ := outA HA.out
                rw [he5] at CO
                have CO := hid CO
                obtain ⟨m, hm⟩ : ∃ m, goes ls d = m := ⟨_, rfl⟩
                rw [hm] at CO hA5
                have HM := hid hm
                have HA5 := hid hA5
                clear he5 hm hA5 H30'
                go_wp2_with fail
                refine CO.out.mono ?_
                rintro e w5 ⟨v5, rfl, LA5, xs5, R5, hL5⟩
                have RN5 := R5.rowN HD.out.lt
                have HD5 := hid (HD.out.stepA R5.hub)
                have HAO : Hid (AOut ls d m (hubD LA5)) := hid (by rw [hL5]; exact HA5.out)
                obtain ⟨pa, pc, rfl⟩ := RN5.row.sli
                have hxl : xs5.length = m := by have := RN5.els.1; rw [List.length_map, List.length_map, List.length_range] at this; exact this
                rw [hxl] at RN5 ⊢
                have HRN := hid RN5
                have HMM : Hid (m ≤ ls.length - d ∧ m ≤ 16) := hid (by rw [← HM.out]; exact goes_le ls d)
                clear RN5 R5 hL5 hxl HD HA HA5 CO
                have hm16 := HMM.out.2
                go_wp2_with fail
                go_loopw [4, 8, 11] (fun rs av iv wr => rs = .bool false ∧ ∃ i z N LB, av = .int .i64 (z : Nat) ∧ iv = .int .i64 (i : Nat) ∧ i ≤ m ∧ Hid (d + i = z) ∧ Hid (Duo W wr N ha ra (1, 1) LA5 hb rb (2, 1) LB) ∧ Hid (BOk (d + i) (decide (0 < i)) (hubD LB)) ∧ Hid (RowN wr N 7 (.slice pa m pc) xs5 (((List.range m).map (packT ls d)).map packC))) (fun _ _ iv _ => m - (intOf iv).toNat)
                case atStart => exact ⟨rfl, 0, d, N1, LB, rfl, rfl, Nat.zero_le _, hid (Nat.add_zero d), HD5, HB, HRN⟩
                case round =>
                  obtain ⟨rfl, i, z, N2', LB2, rfl, rfl, hi, HZ, HD, HB2, HRN2⟩ := hrel
                  rename World => wi
                  by_cases hlt2 : i < m
                  · have s1' : decide ((i : Int) < (m : Int)) = true := decide_eq_true (by omega)
                    have s2' : decide (i < m) = true := decide_eq_true hlt2
                    have hdi : d + i < ls.length := by have := HMM.out.1; omega
                    obtain ⟨u, hu⟩ : ∃ u, ls.getD (d + i) [] = u := ⟨_, rfl⟩
                    have hug : ls[d + i] = u := by rw [← hu, List.getD_eq_getElem?_getD, List.getElem?_eq_getElem hdi]; rfl
                    obtain ⟨ul, hul⟩ : ∃ ul, u.length = ul := ⟨_, rfl⟩
                    obtain ⟨sq, hsq⟩ : ∃ sq, d + 1 + i = sq := ⟨_, rfl⟩
                    have hu50 : ul ≤ 50 := by rw [← hul, ← hug]; exact H50A.out _ (List.getElem_mem _)
                    have hsq2 : sq < 18446744073709551616 := by have := H30.out; omega
                    have hpe : packT ls d i = ⟨2, (1, 1), (2, 1), sq, u⟩ := by unfold packT; rw [hu, hsq]
                    have hpi : ((List.range m).map (packT ls d))[i]? = some ⟨2, (1, 1), (2, 1), sq, u⟩ := by rw [← hpe]; simp [hlt2]
                    obtain ⟨g, gc, a6, d6, e1, hg, hgn, hcell, hby1, hby2, hby3⟩ := HRN2.out.pack hpi
                    injection e1 with e1 he2 he3
                    clear he2 he3
                    subst e1
                    simp only [hul] at hcell
                    have hrng : wi.rangeAt g (i * 7) [.int .i64 2, .int .u16 1, .int .u32 1, .int .u16 2, .int .u32 1, .int .u64 sq, .slice a6 ul d6] := hcell
                    have CA := harrive_any (kd := 2) (f1 := 1) (f2 := 1) (t1 := 2) (t2 := 1) (sq := sq) (n := ul) (bc := d6) HD.out.b HD.out.lt (hub_fit (bok_fit HB2.out (by have := H30.out; omega))) (show 100 ≤ 900000 by decide) ok11 hsq2 (hid hul) (by omega) hby1 hby2 (fun b off e _ e2 => hby3 b off e (HD.out.b.fp b e2))
                    obtain ⟨H6, he6, hB6⟩ := arrB (l := ls) HB2.out
                    rw [hpe, hu] at he6
                    rw [he6] at CA
                    have CA := hid CA
                    have HB6 := hid hB6
                    have HUL := hid hul
                    have HUG := hid hug
                    have HDI := hid hdi
                    clear hu hug hul hsq hsq2 hpe hpi hg hgn hcell hby1 hby2 hby3 he6 hB6
                    go_wp2_with (refine wpList_load_mid rfl 41 _ rfl g (i * 7) rfl [.int .i64 2, .int .u16 1, .int .u32 1, .int .u16 2, .int .u32 1, .int .u64 sq, .slice a6 ul d6] _ hrng Try.underlying41 rfl infoPackS ?_)
                    refine CA.out.mono ?_
                    rintro e w9 ⟨v9, rfl, N9, LB9, xs9, R9, hL9⟩
                    have RN9 := R9.rowN
                    have HD9 := hid (HD.out.stepB R9.hub)
                    have HRN9 := hid (HRN2.out.step R9.hub HD.out.b)
                    have HB9 : Hid (BOk (d + (i + 1)) true (hubD LB9)) := hid (by rw [hL9]; exact HB6.out)
                    obtain ⟨qa, qc, rfl⟩ := RN9.row.sli
                    have hxl9 : xs9.length = 1 := by have := RN9.els.1; simpa using this
                    rw [hxl9] at RN9 ⊢
                    have HRG := hid RN9
                    clear RN9 R9 hL9 hxl9 HB6 CA hrng HD HRN2 HB2
                    have hzk : z < k := by have := HMM.out.1; have := HN.out; have := HZ.out; omega
                    go_wp2_with fail
                    go_loopw [4, 8, 13] (fun rs av iv wr => rs = .bool false ∧ ∃ j y, av = .int .i64 (y : Nat) ∧ iv = .int .i64 (j : Nat) ∧ j ≤ 1 ∧ Hid (z + j = y) ∧ Hid (Below w9.heap.size w9 wr)) (fun _ _ iv _ => 1 - (intOf iv).toNat)
                    case atStart => exact ⟨rfl, 0, z, rfl, rfl, Nat.zero_le _, hid (Nat.add_zero z), hid (Below.refl _ _)⟩
                    case round =>
                      obtain ⟨rfl, j, y, rfl, rfl, hj, HY, HBJ⟩ := hrel
                      rename World => wj
                      by_cases hj0 : j = 0
                      · subst hj0
                        obtain rfl : z = y := HY.out
                        have r1 : decide ((z : Int) ≥ (k : Int)) = false := decide_eq_false (by omega)
                        have r2 : decide (k ≤ z) = false := decide_eq_false (by omega)
                        have r3 : decide ((k : Int) ≤ (z : Int)) = false := decide_eq_false (by omega)
                        have r4 : (z < k) = True := eq_true hzk
                        have hbW : Below W.heap.size W wj := HD9.out.below.trans (HBJ.out.mono HD9.out.below.size)
                        obtain ⟨lb, lo, ai, ci, rfl, hlb, hc0, hby⟩ := (HR0.out.ext hbW).at HDI.out
                        obtain ⟨g9, gc9, a9, d9, e9, hg9, hcell, hbg1, hbg2⟩ := (HRG.out.ext HBJ.out).got (i := 0) (bs := u) rfl
                        injection e9 with e9 he2 he3
                        clear he2 he3
                        subst e9
                        have f0 : wj.cell? ⟨g9, 0, none⟩ = some (.int .u16 1) := hcell 0 _ rfl
                        have f1 : wj.cell? ⟨g9, 1, none⟩ = some (.int .u32 1) := hcell 1 _ rfl
                        have f2 : wj.cell? ⟨g9, 2, none⟩ = some (.slice a9 u.length d9) := hcell 2 _ rfl
                        rw [HUG.out] at hc0 hby
                        rw [HUL.out] at f2 hc0
                        rw [HZ.out] at hc0
                        have f0 := cell_extK f0
                        have f1 := cell_extK f1
                        have f2 := cell_extK f2
                        have f3 := cell_extK hc0
                        have hne : ∀ w, (binOp .neq 30 (.agg #[.int .u16 1, .int .u32 1]) (.agg #[.int .u16 1, .int .u32 1])).run Try.prog w = .ok (.bool false) w := fun w => by rw [neq_pid]; simp
                        have CE1 : Hid (∀ W', Below wj.heap.size wj W' → Calls Try.prog 8 #[] W' fun e w' => e = .returned (.agg #[.int .u16 1, .int .u32 1]) ∧ Below W'.heap.size W' w') := hid fun W' _ => EO.out W'
                        have CE2 : Hid (∀ W', Below wj.heap.size wj W' → Calls Try.prog 14 #[.slice a9 ul d9, .slice ai ul ci] W' fun e w' => e = .returned (.bool true) ∧ Below W'.heap.size W' w') := hid fun W' hb => sameB_is (hid (by simp)) (hid HUL.out) (hid HUL.out) (by omega) (by omega) (hbg1.ext hb) (hby.row.ext hb)
                        clear hc0 hby hcell hbg1 hbg2 hg9 hlb hbW
                        go_wp2_with fail
                        refine wp_region_ext (w := wj) (Below.refl _ _) (by kernel_rfl) (by kernel_rfl) ?_
                        repeat (go_big_quiet_step (first | (with_reducible exact det_ext CE1 _) | (with_reducible exact det_ext CE2 _)))
                        refine wpQuiet_nil ?_
                        rintro _ ⟨⟨w10, hb10⟩, rfl⟩
                        have HBX := hid (HBJ.out.trans (hb10.mono HBJ.out.size))
                        clear hb10 f0 f1 f2 f3 hne CE1 CE2
                        go_wp2_with fail
                        refine ⟨⟨rfl, 1, z + 1, by go_num, by go_num, Nat.le_refl _, hid rfl, HBX⟩, ?_⟩
                        simp [intOf]
                      · have hj1 : j = 1 := by omega
                        subst hj1
                        have HBK : Hid (BOk (d + (i + 1)) (decide (0 < i + 1)) (hubD LB9)) := hid (by rw [decide_eq_true (by omega : 0 < i + 1)]; exact HB9.out)
                        go_wp2_with fail
                        refine ⟨⟨rfl, i + 1, y, N9, LB9, rfl, by go_num, by omega, hid (by have := HZ.out; have := HY.out; omega), hid (HD9.out.ext HBJ.out), HBK, hid (HRN9.out.ext HBJ.out)⟩, ?_⟩
                        simp [intOf]; omega
                  · have him : i = m := by omega
                    subst him
                    have s1' : decide ((i : Int) < (i : Int)) = false := decide_eq_false (by omega)
                    have s2' : decide (i < i) = false := decide_eq_false (by omega)
                    have CO := hout_any HD.out.b HD.out.lt (hub_fit (bok_fit HB2.out (by have := H30.out; have := HMM.out.1; have := HDK.out; omega))) (show 100 ≤ 900000 by decide)
                    obtain ⟨H7, he7, hB7⟩ := outB HB2.out
                    rw [he7] at CO
                    obtain ⟨P7, hP7⟩ : ∃ P7, (if decide (0 < i) = true then [(⟨3, (2, 1), (1, 1), d + i, []⟩ : PackD)] else []) = P7 := ⟨_, rfl⟩
                    rw [hP7] at CO
                    have CO := hid CO
                    have HP7 := hid hP7
                    have HB7 := hid hB7
                    clear he7 hB7 hP7 hlt2 hi
                    go_wp2_with fail
                    refine CO.out.mono ?_
                    rintro e w7 ⟨v7, rfl, LB7, xs7, R7, hL7⟩
                    have RN7 := R7.rowN HD.out.lt
                    have HD7 := hid (HD.out.stepB R7.hub)
                    have HBO7 : Hid (BOk (d + i) false (hubD LB7)) := hid (by rw [hL7]; exact HB7.out)
                    obtain ⟨pa7, pc7, rfl⟩ := RN7.row.sli
                    obtain ⟨p7, hp7⟩ : ∃ p7, P7.length = p7 := ⟨_, rfl⟩
                    have hxl : xs7.length = p7 := by have := RN7.els.1; rw [List.length_map] at this; omega
                    rw [hxl] at RN7 ⊢
                    have HRN7 := hid RN7
                    have HPL := hid hp7
                    have hp71 : p7 ≤ 1 := by rw [← hp7, ← HP7.out]; split <;> simp
                    clear RN7 R7 hL7 hxl HD HB2 HB7 CO HRN2 hp7
                    go_wp2_with fail
                    go_loopw [15] (fun jv wr => ∃ j N LA, jv = .int .i64 (j : Nat) ∧ j ≤ p7 ∧ Hid (Duo W wr N ha ra (1, 1) LA hb rb (2, 1) LB7) ∧ Hid (j = 0 → AOut ls d i (hubD LA)) ∧ Hid (0 < j → AOk ls (d + i) (hubD LA)) ∧ Hid (RowN wr N 7 (.slice pa7 p7 pc7) xs7 (P7.map packC))) (fun jv _ => p7 - (intOf jv).toNat)
                    case atStart => exact ⟨0, N2', LA5, rfl, Nat.zero_le _, HD7, hid (fun _ => HAO.out), hid (fun h => by omega), HRN7⟩
                    case round =>
                      obtain ⟨j, N8, LA8, rfl, hj, HD, HA0, HA1, HRN8⟩ := hrel
                      rename World => wj
                      by_cases hlt3 : j < p7
                      · have hj0 : j = 0 := by omega
                        subst hj0
                        have r1 : decide (((0 : Nat) : Int) < (p7 : Int)) = true := decide_eq_true (by omega)
                        have r2 : decide (0 < p7) = true := decide_eq_true hlt3
                        have hi0 : 0 < i := by
                          refine Nat.pos_of_ne_zero fun e => ?_
                          have h1 := HP7.out
                          have h2 := HPL.out
                          rw [e] at h1
                          rw [← h1] at h2
                          have : (0 : Nat) = p7 := h2
                          omega
                        have hpi : P7[0]? = some ⟨3, (2, 1), (1, 1), d + i, []⟩ := by
                          rw [← HP7.out, decide_eq_true hi0]; rfl
                        obtain ⟨sq, hsq⟩ : ∃ sq, d + i = sq := ⟨_, rfl⟩
                        rw [hsq] at hpi
                        have hsq2 : sq < 18446744073709551616 := by have := H30.out; have := HMM.out.1; have := HDK.out; omega
                        obtain ⟨g8, gc8, a8, d8, e8, hg8, hgn, hcell, hby1, hby2, hby3⟩ := HRN8.out.pack hpi
                        injection e8 with e8 he2 he3
                        clear he2 he3
                        subst e8
                        have hrng : wj.rangeAt g8 0 [.int .i64 3, .int .u16 2, .int .u32 1, .int .u16 1, .int .u32 1, .int .u64 sq, .slice a8 0 d8] := fun j u hu => by have := hcell j u hu; rw [Nat.zero_mul] at this; exact this
                        have CA := harrive_any (kd := 3) (f1 := 2) (f2 := 1) (t1 := 1) (t2 := 1) (sq := sq) (n := 0) (bc := d8) HD.out.a HD.out.lt (hub_fit (aout_fit (HA0.out rfl) HDK.out H30.out H50A.out)) (show 100 ≤ 900000 by decide) ok21 hsq2 (hid rfl) (by omega) hby1 hby2 (fun b off e _ e2 => hby3 b off e (HD.out.a.fp b e2))
                        obtain ⟨H9, he9, hA9⟩ := arrA (HA0.out rfl) HM.out.symm hi0
                        rw [hsq] at he9
                        rw [he9] at CA
                        have CA := hid CA
                        have HA9 := hid hA9
                        clear hsq hsq2 hpi hg8 hgn hcell hby1 hby2 hby3 he9 hA9 hi0
                        go_wp2_with (refine wpList_load_mid rfl 41 _ rfl g8 0 rfl [.int .i64 3, .int .u16 2, .int .u32 1, .int .u16 1, .int .u32 1, .int .u64 sq, .slice a8 0 d8] _ hrng Try.underlying41 rfl infoPackS ?_)
                        refine CA.out.mono ?_
                        rintro e w9 ⟨v9, rfl, N9, LA9, xs9, R9, hL9⟩
                        have HD9 := hid (HD.out.stepA R9.hub)
                        have HRN9 := hid (HRN8.out.step R9.hub HD.out.a)
                        have HAK9 : Hid (AOk ls (d + i) (hubD LA9)) := hid (by rw [hL9]; exact HA9.out)
                        clear R9 hL9 HA9 CA hrng HD HRN8
                        go_wp2_with fail
                        refine ⟨⟨1, N9, LA9, by go_num, by omega, HD9, hid (fun h => by cases h), hid (fun _ => HAK9.out), HRN9⟩, ?_⟩
                        simp [intOf]; omega
                      · have hjp : j = p7 := by omega
                        subst hjp
                        have r1 : decide ((j : Int) < (j : Int)) = false := decide_eq_false (by omega)
                        have r2 : decide (j < j) = false := decide_eq_false (by omega)
                        have HAZ : Hid (AOk ls z (hubD LA8)) := hid (by
                          have hz := HZ.out
                          by_cases hi0 : 0 < i
                          · have : j = 1 := by rw [← HPL.out, ← HP7.out, decide_eq_true hi0]; rfl
                            have := HA1.out (by omega)
                            rw [hz] at this; exact this
                          · have hi00 : i = 0 := by omega
                            have hj0 : j = 0 := by rw [← HPL.out, ← HP7.out, decide_eq_false hi0]; rfl
                            have := aout_none (HA0.out hj0) hi00
                            rw [← hz, hi00]; exact this)
                        have HBZ : Hid (BOk z false (hubD LB7)) := hid (by rw [← HZ.out]; exact HBO7.out)
                        have hzk : z ≤ k := by have := HMM.out.1; have := HN.out; have := HZ.out; have := HDK.out; omega
                        have HZT : Hid (z = min (16 * (t + 1)) k) := hid (by
                          have h1 := HM.out
                          unfold goes at h1
                          have h2 := HDT.out
                          have h3 := HN.out
                          have h4 := HZ.out
                          omega)
                        go_wp2_with fail
                        refine ⟨⟨rfl, t + 1, z, N8, LA8, LB7, rfl, by go_num, by omega, hzk, HD, HAZ, HBZ, HZT⟩, ?_⟩
                        simp [intOf]; omega
          · have ht10 : t = 10 := by omega
            have hdk : d = k := by have := HDT.out; omega
            subst hdk
            subst ht10
            have HWN := HN.out
            have HWT : Hid (waitsR (hubD LA) (2, 1) = 0) := hid (aok_waits (by rw [HN.out]; exact HA.out))
            have CW := hwaits_any HD.out.a 2 1
            rw [HWT.out] at CW
            have t1' : decide (((10 : Nat) : Int) < 10) = false := by decide
            have CW0 : Hid (∀ w', Below wr.heap.size wr w' → Calls Try.prog 15 #[.pointer (some ⟨ha, 0, none⟩), .agg #[.int .u16 2, .int .u32 1]] w' fun e w'' => e = .returned (.int .i64 0) ∧ Below w'.heap.size w' w'') := hid fun w' hb => by
              have := hwaits_any (HD.out.a.ext hb) 2 1
              rw [HWT.out] at this
              exact this
            have HBW := hid HD.out.below
            clear CW HWN hlt ht hd
            go_wp2_with fail
            refine (ET.out wr).mono ?_
            rintro e w3 ⟨rfl, hb3⟩
            have C3 := hid (CW0.out w3 hb3)
            have HB3 := hid (HBW.out.trans (hb3.mono HBW.out.size))
            clear hb3
            go_wp2_with fail
            refine C3.out.mono ?_
            rintro e w4 ⟨rfl, hb4⟩
            have HB4 := hid (HB3.out.trans (hb4.mono HB3.out.size))
            clear hb4
            go_wp2_with fail
            refine (awake_any w4).mono ?_
            rintro e w5 ⟨rfl, hb5⟩
            have HB5 := hid (HB4.out.trans (hb5.mono HB4.out.size))
            clear hb5
            go_wp2_with fail
            go_ret
            exact ⟨rfl, HB5.out⟩
  · have q1 : decide ((n : Int) > 30) = true := decide_eq_true (by omega)
    have q2 : decide (30 < n) = true := decide_eq_true (by omega)
    have CA := hid (awake_any W)
    go_enter Try.func3, Try.ntmps3
    go_wp2_with fail
    refine CA.out.mono ?_
    rintro e w3 ⟨rfl, hb3⟩
    go_wp2_with fail
    go_ret
    exact ⟨rfl, hb3⟩
end Go.Proofs.Ytidohmpnefcpcaa

