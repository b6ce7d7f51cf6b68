import Derived.Test.YtjcgijchmnnfaaaL1
namespace Go.Proofs.Ytjcgijchmnnfaaa
open Go.RowKit

theorem quiet_of {P : Program} {f : FuncId} {args : Array Value} {w0 : World} {U : ExtW w0} {v v' : Value} (h : Calls P f args U.W fun e w' => e = .returned v ∧ Below U.W.heap.size U.W w') (hv : v = v') :
    Calls P f args U.W fun e w' => e = .returned v' ∧ ∃ U' : ExtW w0, w' = U'.W := by
  subst hv
  exact h.mono fun _ _ ⟨h1, h2⟩ => ⟨h1, ⟨_, U.h.trans (h2.mono U.h.size)⟩, rfl⟩

section
variable (V : View) (am al ad : Option Addr) (cm cl cd : Nat) (x y : Int) (w : World)
set_option maxRecDepth 100000 in
set_option maxHeartbeats 800000 in
theorem leads_any (hV : ViewR w am al ad V) :
   Calls Try.prog 18 #[.agg #[.int .u64 V.id, .slice am V.ms.length cm, .slice al V.ls.length cl, .slice ad V.ds.length cd], .agg #[.int .u16 x, .int .u32 y]] w fun e w' => e = .returned (.bool (decide ((x, y) ∈ V.ds))) ∧ Below w.heap.size w w' := by
  have hB2 : Below w.heap.size w ((w.alloc (.cells #[.int .u64 V.id, .slice am V.ms.length cm, .slice al V.ls.length cl, .slice ad V.ds.length cd] 26)).alloc (.cells #[.int .u16 x, .int .u32 y] 36)) := ((Below.refl _ _).alloc (Nat.le_refl _) _).alloc (by simp) _
  have hV2 := hV.ext hB2
  go_enter Try.func18, Try.ntmps18
  go_wp2_with (go_at_call 68; refine (contains_any _ _ _ _ _ _ hV.ld hV2.ds).mono ?_; rintro e w3 ⟨rfl, hb3⟩)
  go_ret
  exact ⟨rfl, hB2.trans (hb3.mono (by simp; omega))⟩
set_option maxRecDepth 100000 in
set_option maxHeartbeats 800000 in
theorem hasView_any (hV : ViewR w am al ad V) :
   Calls Try.prog 22 #[.agg #[.int .u64 V.id, .slice am V.ms.length cm, .slice al V.ls.length cl, .slice ad V.ds.length cd], .agg #[.int .u16 x, .int .u32 y]] w fun e w' => e = .returned (.bool (decide ((x, y) ∈ V.ms))) ∧ Below w.heap.size w w' := by
  have hB2 : Below w.heap.size w ((w.alloc (.cells #[.int .u64 V.id, .slice am V.ms.length cm, .slice al V.ls.length cl, .slice ad V.ds.length cd] 26)).alloc (.cells #[.int .u16 x, .int .u32 y] 36)) := ((Below.refl _ _).alloc (Nat.le_refl _) _).alloc (by simp) _
  have hV2 := hV.ext hB2
  go_enter Try.func22, Try.ntmps22
  go_wp2_with (go_at_call 68; refine (contains_any _ _ _ _ _ _ hV.lm hV2.ms).mono ?_; rintro e w3 ⟨rfl, hb3⟩)
  go_ret
  exact ⟨rfl, hB2.trans (hb3.mono (by simp; omega))⟩
end
theorem leads_ext {V : View} {am al ad : Option Addr} {cm cl cd : Nat} {x y : Int} {w0 : World} {U : ExtW w0} (hV : ViewR w0 am al ad V) {bm : Bool} (h : Hid (decide ((x, y) ∈ V.ds) = bm)) :
   Calls Try.prog 18 #[.agg #[.int .u64 V.id, .slice am V.ms.length cm, .slice al V.ls.length cl, .slice ad V.ds.length cd], .agg #[.int .u16 x, .int .u32 y]] U.W fun e w' => e = .returned (.bool bm) ∧ ∃ U' : ExtW w0, w' = U'.W :=
  quiet_of (leads_any V am al ad cm cl cd x y U.W (hV.ext U.h)) (by rw [h.out])
theorem quorum_is {V : View} {am al ad : Option Addr} {cm cl cd : Nat} {a : Option Addr} {c : Nat} {l : List Pid} {w : World} {bm : Bool} (h : Hid (quorumB V l = bm)) (hV : ViewR w am al ad V) (hl : l.length ≤ 70368744177664) (hrow : PidRow w a l) :
   Calls Try.prog 16 #[.agg #[.int .u64 V.id, .slice am V.ms.length cm, .slice al V.ls.length cl, .slice ad V.ds.length cd], .slice a l.length c] w fun e w' => e = .returned (.bool bm) ∧ Below w.heap.size w w' := by
  have := quorum_any V am al ad cm cl cd a c l w hV hl hrow
  rw [h.out] at this
  exact this

/-! ### two quorums meet -/
theorem mem_unionL {p : Pid} : ∀ {xs : List Pid} {L : List (Pid × Unit)}, p ∈ keys (unionL L xs) ↔ p ∈ keys L ∨ p ∈ xs
  | [], L => by simp [unionL]
  | q :: l, L => by
    simp only [unionL]
    rw [mem_unionL]
    have : p ∈ keys (add1 q L) ↔ p ∈ keys L ∨ p = q := by
      by_cases h : q ∈ keys L
      · rw [add1_of_mem h]
        constructor
        · exact .inl
        · rintro (h1 | rfl)
          · exact h1
          · exact h
      · rw [add1_of_not h]; simp [keys]
    rw [this, List.mem_cons, or_assoc]
theorem quo_add {ds : List Pid} {Sa Sb : List (Pid × Unit)} : ∀ (r : List Pid) (k : Nat), (∀ p ∈ r, ¬ (p ∈ keys Sa ∧ p ∈ keys Sb)) → quoFrom ds Sa k r + quoFrom ds Sb k r ≤ r.length
  | [], _, _ => by simp [quoFrom]
  | p :: r, k, h => by
    have ih := quo_add (ds := ds) r (k + 1) (fun q hq => h q (List.mem_cons_of_mem _ hq))
    have hp := h p (List.mem_cons_self ..)
    simp only [quoFrom, look_isSome, List.length_cons]
    by_cases ha : p ∈ keys Sa
    · have hb : p ∉ keys Sb := fun hb => hp ⟨ha, hb⟩
      simp only [ha, hb, true_and, false_and, if_false]
      split <;> omega
    · simp only [ha, false_and, if_false]
      split <;> omega
theorem quorums_meet {V : View} {a b : List Pid} (ha : quorumB V a = true) (hb : quorumB V b = true) : ∃ p ∈ a, p ∈ b ∧ p ∈ V.ds := by
  apply Classical.byContradiction
  intro hno
  have h : ∀ p ∈ V.ds, ¬ (p ∈ keys (unionL [] a) ∧ p ∈ keys (unionL [] b)) := by
    rintro p hp ⟨h1, h2⟩
    rw [mem_unionL] at h1 h2
    simp only [keys, List.map_nil, List.not_mem_nil, false_or] at h1 h2
    exact hno ⟨p, h1, h2, hp⟩
  have := quo_add (ds := V.ds) V.ds 0 h
  unfold quorumB quoN at ha hb
  have ha' := of_decide_eq_true ha
  have hb' := of_decide_eq_true hb
  clear ha hb
  omega

set_option maxRecDepth 100000 in
set_option maxHeartbeats 6400000 in
theorem viewMeet_any (V : View) (am al ad : Option Addr) (cm cl cd : Nat) (aa ab : Option Addr) (ca cb : Nat) (la lb : List Pid) (w : World) (hV : ViewR w am al ad V) (ha : PidRow w aa la) (hb : PidRow w ab lb) (hla : la.length ≤ 70368744177664) (hlb : lb.length ≤ 70368744177664) :
   Calls Try.prog 4 #[.agg #[.int .u64 V.id, .slice am V.ms.length cm, .slice al V.ls.length cl, .slice ad V.ds.length cd], .slice aa la.length ca, .slice ab lb.length cb] w fun e w' => e = .returned (.bool true) ∧ Below w.heap.size w w' := by
  have hBx : Below w.heap.size w (w.alloc (.cells #[.int .u64 V.id, .slice am V.ms.length cm, .slice al V.ls.length cl, .slice ad V.ds.length cd] 26)) := (Below.refl _ _).alloc (Nat.le_refl _) _
  have hVx := hV.ext hBx
  have hbx : ViewBox (w.alloc (.cells #[.int .u64 V.id, .slice am V.ms.length cm, .slice al V.ls.length cl, .slice ad V.ds.length cd] 26)) w.heap.size V am al ad cm cl cd := ViewBox.made w
  have hax := ha.ext hBx
  have hbbx := hb.ext hBx
  have hz : w.heap.size < (w.alloc (.cells #[.int .u64 V.id, .slice am V.ms.length cm, .slice al V.ls.length cl, .slice ad V.ds.length cd] 26)).heap.size := by simp
  cases hg : greatB V
  · obtain ⟨-, -, -, -, hsum⟩ := great_no hg
    have hsum' : lens V.ls ≤ 549755813888 := by omega
    have HG := hid hg
    clear hg hsum
    by_cases k1 : 40 < la.length
    · have k1' : decide (40 < (la.length : Int)) = true := by simp; omega
      go_enter Try.func4, Try.ntmps4
      go_wp2_with (first
        | (go_at_call 12; refine (great_is HG hVx).mono ?_; rintro e w2 ⟨rfl, hb2⟩)
        | (go_at_call 13; refine (awake_any _).mono ?_; rintro e w3 ⟨rfl, hb3⟩))
      go_ret
      exact ⟨rfl, (hBx.trans (hb2.mono hBx.size)).trans (hb3.mono (by have := hb2.size; omega))⟩
    · have k1' : decide (40 < (la.length : Int)) = false := by simp; omega
      by_cases k2 : 40 < lb.length
      · have k2' : decide (40 < (lb.length : Int)) = true := by simp; omega
        go_enter Try.func4, Try.ntmps4
        go_wp2_with (first
          | (go_at_call 12; refine (great_is HG hVx).mono ?_; rintro e w2 ⟨rfl, hb2⟩)
          | (go_at_call 13; refine (awake_any _).mono ?_; rintro e w3 ⟨rfl, hb3⟩))
        go_ret
        exact ⟨rfl, (hBx.trans (hb2.mono hBx.size)).trans (hb3.mono (by have := hb2.size; omega))⟩
      · have k2' : decide (40 < (lb.length : Int)) = false := by simp; omega
        cases hc : checkB V
        · have HC := hid hc
          clear hc
          go_enter Try.func4, Try.ntmps4
          go_wp2_with (first
            | (go_at_call 12; refine (great_is HG hVx).mono ?_; rintro e w2 ⟨rfl, hb2⟩; obtain ⟨a0, a1, a2, a3⟩ := hbx.ext hb2 hz)
            | (go_at_call 14; refine (check_is HC rfl (hVx.ext hb2) hsum').mono ?_; rintro e w3 ⟨rfl, hb3⟩)
            | (go_at_call 13; refine (awake_any _).mono ?_; rintro e w4 ⟨rfl, hb4⟩))
          go_ret
          exact ⟨rfl, ((hBx.trans (hb2.mono hBx.size)).trans (hb3.mono (by have := hb2.size; omega))).trans (hb4.mono (by have := hb2.size; have := hb3.size; omega))⟩
        · have HC := hid hc
          clear hc
          cases hqa : quorumB V la
          · have HQA := hid hqa
            clear hqa
            go_enter Try.func4, Try.ntmps4
            go_wp2_with (first
              | (go_at_call 12; refine (great_is HG hVx).mono ?_; rintro e w2 ⟨rfl, hb2⟩; obtain ⟨a0, a1, a2, a3⟩ := hbx.ext hb2 hz)
              | (go_at_call 14; refine (check_is HC rfl (hVx.ext hb2) hsum').mono ?_; rintro e w3 ⟨rfl, hb3⟩; obtain ⟨b0, b1, b2, b3⟩ := (hbx.ext hb2 hz).ext hb3 (by have := hb2.size; omega))
              | (go_at_call 16; refine (quorum_is HQA ((hVx.ext hb2).ext hb3) hla ((hax.ext hb2).ext hb3)).mono ?_; rintro e w4 ⟨rfl, hb4⟩)
              | (go_at_call 13; refine (awake_any _).mono ?_; rintro e w5 ⟨rfl, hb5⟩))
            go_ret
            exact ⟨rfl, (((hBx.trans (hb2.mono hBx.size)).trans (hb3.mono (by have := hb2.size; omega))).trans (hb4.mono (by have := hb2.size; have := hb3.size; omega))).trans (hb5.mono (by have := hb2.size; have := hb3.size; have := hb4.size; omega))⟩
          · have HQA := hid hqa
            clear hqa
            cases hqb : quorumB V lb
            · have HQB := hid hqb
              clear hqb
              go_enter Try.func4, Try.ntmps4
              go_wp2_with (first
                | (go_at_call 12; refine (great_is HG hVx).mono ?_; rintro e w2 ⟨rfl, hb2⟩; obtain ⟨a0, a1, a2, a3⟩ := hbx.ext hb2 hz)
                | (go_at_call 14; refine (check_is HC rfl (hVx.ext hb2) hsum').mono ?_; rintro e w3 ⟨rfl, hb3⟩; obtain ⟨b0, b1, b2, b3⟩ := (hbx.ext hb2 hz).ext hb3 (by have := hb2.size; omega))
                | (go_at_call_of 16 aa; refine (quorum_is HQA ((hVx.ext hb2).ext hb3) hla ((hax.ext hb2).ext hb3)).mono ?_; rintro e w4 ⟨rfl, hb4⟩; obtain ⟨d0, d1, d2, d3⟩ := ((hbx.ext hb2 hz).ext hb3 (by have := hb2.size; omega)).ext hb4 (by have := hb2.size; have := hb3.size; omega))
                | (go_at_call 16; refine (quorum_is HQB (((hVx.ext hb2).ext hb3).ext hb4) hlb (((hbbx.ext hb2).ext hb3).ext hb4)).mono ?_; rintro e w5 ⟨rfl, hb5⟩)
                | (go_at_call 13; refine (awake_any _).mono ?_; rintro e w6 ⟨rfl, hb6⟩))
              go_ret
              exact ⟨rfl, ((((hBx.trans (hb2.mono hBx.size)).trans (hb3.mono (by have := hb2.size; omega))).trans (hb4.mono (by have := hb2.size; have := hb3.size; omega))).trans (hb5.mono (by have := hb2.size; have := hb3.size; have := hb4.size; omega))).trans (hb6.mono (by have := hb2.size; have := hb3.size; have := hb4.size; have := hb5.size; omega))⟩
            · have hmeet := quorums_meet HQA.out hqb
              have HMEET := hid hmeet
              have HQB := hid hqb
              clear hqb hmeet
              go_enter Try.func4, Try.ntmps4
              go_wp2_with (first
                | (go_at_call 12; refine (great_is HG hVx).mono ?_; rintro e w2 ⟨rfl, hb2⟩; obtain ⟨a0, a1, a2, a3⟩ := hbx.ext hb2 hz)
                | (go_at_call 14; refine (check_is HC rfl (hVx.ext hb2) hsum').mono ?_; rintro e w3 ⟨rfl, hb3⟩; obtain ⟨b0, b1, b2, b3⟩ := (hbx.ext hb2 hz).ext hb3 (by have := hb2.size; omega))
                | (go_at_call_of 16 aa; refine (quorum_is HQA ((hVx.ext hb2).ext hb3) hla ((hax.ext hb2).ext hb3)).mono ?_; rintro e w4 ⟨rfl, hb4⟩; obtain ⟨d0, d1, d2, d3⟩ := ((hbx.ext hb2 hz).ext hb3 (by have := hb2.size; omega)).ext hb4 (by have := hb2.size; have := hb3.size; omega))
                | (go_at_call 16; refine (quorum_is HQB (((hVx.ext hb2).ext hb3).ext hb4) hlb (((hbbx.ext hb2).ext hb3).ext hb4)).mono ?_; rintro e w5 ⟨rfl, hb5⟩))
              have s2 := hb2.size
              have s3 := hb3.size
              have s4 := hb4.size
              have s5 := hb5.size
              have hbx5 := (((hbx.ext hb2 hz).ext hb3 (by omega)).ext hb4 (by omega)).ext hb5 (by omega)
              have hV5 := (((hVx.ext hb2).ext hb3).ext hb4).ext hb5
              have ha5 := (((hax.ext hb2).ext hb3).ext hb4).ext hb5
              have hb5' := (((hbbx.ext hb2).ext hb3).ext hb4).ext hb5
              have hB5 : Below w.heap.size w w5 := (((hBx.trans (hb2.mono hBx.size)).trans (hb3.mono (by omega))).trans (hb4.mono (by omega))).trans (hb5.mono (by omega))
              clear hb2 hb3 hb4 hb5 hVx hbx hax hbbx hBx a0 a1 a2 a3 b0 b1 b2 b3 d0 d1 d2 d3 HQA HQB HC HG hV ha hb
              go_loopw [6, 7] (fun rs kv wr => rs = .bool false ∧ ∃ k : Nat, k ≤ la.length ∧ kv = .int .i64 k ∧ Hid (∀ p ∈ la.take k, ¬ (p ∈ lb ∧ p ∈ V.ds)) ∧ Below w5.heap.size w5 wr) (fun _ kv _ => la.length - (intOf kv).toNat)
              case atStart => exact ⟨rfl, 0, Nat.zero_le _, rfl, (show ∀ p ∈ la.take 0, _ by simp), Below.refl _ _⟩
              case round =>
                obtain ⟨rfl, k, hk, rfl, hno, hb⟩ := hrel
                by_cases hkt : k < la.length
                · obtain ⟨b, off, x, y, rfl, hx, q0, q1⟩ := ha5.at hb rfl hkt
                  have hVr := hV5.ext hb
                  have hbr := hb5'.ext hb
                  obtain ⟨e0, e1, e2, e3⟩ := hbx5.ext hb hbx5.lt
                  have z0 := cell_extw e0
                  have z1 := cell_extw e1
                  have z2 := cell_extw e2
                  have z3 := cell_extw e3
                  have y0 := cell_extw q0
                  have y1 := cell_extw q1
                  have hts : la.take (k + 1) = la.take k ++ [(x, y)] := by rw [List.take_succ_eq_append_getElem hkt, ← hx]
                  have HTS := hid hts
                  obtain ⟨A, hA⟩ : ∃ A, atIx lb (x, y) = A := ⟨_, rfl⟩
                  have HA := hid hA
                  have hmem := atIx_nonneg (p := (x, y)) (xs := lb)
                  rw [hA] at hmem
                  clear hts hA hx e0 e1 e2 e3 q0 q1
                  by_cases hAn : 0 ≤ A
                  · have hAd : decide (0 ≤ A) = true := by simpa using hAn
                    rw [hAd] at hmem
                    have HM : Hid ((x, y) ∈ lb) := hid (by simpa using hmem.symm)
                    clear hmem
                    cases hl : decide ((x, y) ∈ V.ds)
                    · have HL := hid hl
                      clear hl
                      go_wp2
                      refine wp_region_ext (w := wr) (Below.refl _ _) (by kernel_rfl) (by kernel_rfl) ?_
                      repeat (go_big_quiet_step (first | exact at_ext hbr hlb HA | exact leads_ext hVr HL))
                      refine wpQuiet_nil ?_
                      rintro w9 ⟨⟨_, hb9⟩, rfl⟩
                      go_wp2
                      go_roundw
                      case rel => exact ⟨rfl, k + 1, by omega, by go_num, hid (by rw [HTS.out]; intro p hp; rcases List.mem_append.1 hp with hp | hp; exact hno.out p hp; rw [List.mem_singleton.1 hp]; rintro ⟨_, h2⟩; have := HL.out; simp [h2] at this), hb.trans (hb9.mono hb.size)⟩
                      case measure => simp [intOf]; omega
                    · have HL := hid hl
                      clear hl
                      go_wp2
                      refine wp_region_ext (w := wr) (Below.refl _ _) (by kernel_rfl) (by kernel_rfl) ?_
                      repeat (go_big_quiet_step (first | exact at_ext hbr hlb HA | exact leads_ext hVr HL))
                      refine wpQuiet_nil ?_
                      rintro w9 ⟨⟨_, hb9⟩, rfl⟩
                      go_wp2_with (go_at_call 13; refine (awake_any _).mono ?_; rintro e w10 ⟨rfl, hb10⟩)
                      go_ret
                      exact ⟨rfl, (hB5.trans ((hb.trans (hb9.mono hb.size)).mono hB5.size)).trans (hb10.mono (by have := hb9.size; have := hb.size; have := hB5.size; omega))⟩
                  · have hAd : decide (0 ≤ A) = false := by simpa using hAn
                    rw [hAd] at hmem
                    have HM : Hid (¬ (x, y) ∈ lb) := hid (by simpa using hmem.symm)
                    clear hmem
                    go_wp2
                    refine wp_region_ext (w := wr) (Below.refl _ _) (by kernel_rfl) (by kernel_rfl) ?_
                    repeat (go_big_quiet_step (exact at_ext hbr hlb HA))
                    refine wpQuiet_nil ?_
                    rintro w9 ⟨⟨_, hb9⟩, rfl⟩
                    go_wp2
                    go_roundw
                    case rel => exact ⟨rfl, k + 1, by omega, by go_num, hid (by rw [HTS.out]; intro p hp; rcases List.mem_append.1 hp with hp | hp; exact hno.out p hp; rw [List.mem_singleton.1 hp]; rintro ⟨h1, _⟩; exact HM.out h1), hb.trans (hb9.mono hb.size)⟩
                    case measure => simp [intOf]; omega
                · exfalso
                  obtain ⟨p, h1, h2⟩ := HMEET.out
                  have := hno.out p (by rw [List.take_of_length_le (by omega)]; exact h1)
                  exact this h2
  · have HG := hid hg
    clear hg
    go_enter Try.func4, Try.ntmps4
    go_wp2_with (first
      | (go_at_call 12; refine (great_is HG hVx).mono ?_; rintro e w2 ⟨rfl, hb2⟩)
      | (go_at_call 13; refine (awake_any _).mono ?_; rintro e w3 ⟨rfl, hb3⟩))
    go_ret
    exact ⟨rfl, (hBx.trans (hb2.mono hBx.size)).trans (hb3.mono (by have := hb2.size; omega))⟩
theorem viewMeet_law (V : View) (am al ad : Option Addr) (cm cl cd : Nat) (aa : Option Addr) (ca : Nat) (la : List Pid) (ab : Option Addr) (cb : Nat) (lb : List Pid) (w : World) (hV : ViewR w am al ad V) (ha : PidRow w aa la) (hla : la.length ≤ 17592186044416) (hb : PidRow w ab lb) (hlb : lb.length ≤ 17592186044416) :
   Calls Try.prog 4 #[.agg #[.int .u64 V.id, .slice am V.ms.length cm, .slice al V.ls.length cl, .slice ad V.ds.length cd], .slice aa la.length ca, .slice ab lb.length cb] w fun e w' => e = .returned (.bool true) ∧ Below w.heap.size w w' :=
  viewMeet_any V am al ad cm cl cd aa ab ca cb la lb w hV ha hb (by omega) (by omega)
end Go.Proofs.Ytjcgijchmnnfaaa
