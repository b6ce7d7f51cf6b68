/- Parts of the proof: K19. -/
import Derived.Deep.CutBlock
import Derived.Test.YtidohmpnefcpcaaGHubPlays20
namespace Go.Proofs.Ytidohmpnefcpcaa
open Go.RowKit
/-! ### the law HubPlays -/
theorem infoAct : (Try.prog.info? 54).map (·.size) = some 11 := by kernel_rfl
theorem cells11_new (W : World) (t : TypeId) (x0 x1 x2 x3 x4 x5 x6 x7 x8 x9 x10 : Value) : ∀ j u, [x0, x1, x2, x3, x4, x5, x6, x7, x8, x9, x10][j]? = some u → (W.alloc (.cells #[x0, x1, x2, x3, x4, x5, x6, x7, x8, x9, x10] t)).cell? ⟨W.heap.size, j, none⟩ = some u := fun j u hj => by
  rw [World.cell?_alloc_new]
  simpa using hj
theorem act_in {W wr : World} {N : Nat → Prop} {h r x B : Nat} {sf : Pid} {L : List HubX} {lv : Value} {P : List RPeer} {X : ActX} {ai aj : Option Addr} {ci cj : Nat} (S : Stage W wr N h r sf L x lv P B) (A : ActOk W ai aj X) : ActIn (wr.alloc (.cells (actL X ai ci aj cj).toArray 54)) N wr.heap.size ai ci aj cj X := by
  have ha : Below wr.heap.size wr (wr.alloc (.cells (actL X ai ci aj cj).toArray 54)) := (Below.refl _ _).alloc (Nat.le_refl _) _
  have hb := S.below.trans (ha.mono S.below.size)
  exact ⟨cells11_new _ _ _ _ _ _ _ _ _ _ _ _ _, fun e => Nat.lt_irrefl _ (S.t.lt _ e), by simp, A.pp, A.bb.ext hb, fun b off e hne e2 => by have := A.bb.row.lenT b off e hne; have := S.lo b e2; omega, A.qq.ext hb, fun b off e hne e2 => by have := A.qq.rr.lenT b off e hne; have := S.lo b e2; omega⟩
theorem twin_box {w : World} {p : Pid} {N : Nat → Prop} {x : Nat} (h0 : w.cell? ⟨x, 0, none⟩ = some (.int .u16 p.1)) (h1 : w.cell? ⟨x, 1, none⟩ = some (.int .u32 p.2)) (h2 : w.cell? ⟨x, 2, none⟩ = some (.slice none 0 0)) (hf : ∀ j, w.frozen? ⟨x, j, none⟩ = false) (hN : N x) : RHubIs w N x p (.slice none 0 0) [] := by
  refine ⟨⟨h0, h1, h2, hf⟩, RowP.nil _ _ _, hN, fun g e => ?_, fun y hy => ?_, fun y hy => ?_, List.Pairwise.nil, Nat.zero_le _⟩
  · cases e
  · cases hy
  · cases hy
theorem twin_stage {W w : World} {N0 : Nat → Prop} {h r x : Nat} {p : Pid} (hb : Below W.heap.size W w) (H : HubIs w N0 h r p []) (X : RHubIs w (fun b => b = x) x p (.slice none 0 0) []) (hx : W.heap.size ≤ x) (hh : W.heap.size ≤ h) (hr : W.heap.size ≤ r) (n1 : x ≠ h) (n2 : x ≠ r) : Stage W w (fun b => b = x ∨ b = h ∨ b = r) h r p [] x (.slice none 0 0) [] 1 := by
  refine ⟨hb, ⟨⟨H.c0, H.c1, H.c2, .inr (.inl rfl), .inr (.inr rfl), H.hr, H.map, fun x h => (by cases h), fun x h => (by cases h), List.Pairwise.nil, List.nodup_nil, Nat.zero_le _, fun x h => (by cases h)⟩, twin_box X.box.c0 X.box.c1 X.box.c2 X.box.f (.inl rfl), fun b e e2 => ?_, fun b e => ?_⟩, fun b e => ?_, HRel.nil, fun y hy => by cases hy⟩
  · have hbx : b = x := by
      rcases e with e | e | ⟨y, hy, -⟩
      · exact e
      · cases e
      · cases hy
    rcases e2 with e2 | e2 | ⟨y, hy, -⟩
    · exact n1 (hbx.symm.trans e2)
    · exact n2 (hbx.symm.trans e2)
    · cases hy
  · rcases e with rfl | rfl | rfl
    · exact X.box.lt
    · exact H.lt
    · exact H.map.lt
  · rcases e with rfl | rfl | rfl
    · exact hx
    · exact hh
    · exact hr
theorem stage_one {W w1 w2 : World} {p : Pid} {h r : Nat} {N0 : Nat → Prop} {T : TypeId} (hB : Below W.heap.size W w1) (hb : Below w1.heap.size w1 w2) (H : HubIs w2 N0 h r p []) (hh : w1.heap.size ≤ h) (hr : w1.heap.size ≤ r) :
    Stage W (w2.alloc (.cells #[.int .u16 p.1, .int .u32 p.2, .slice none 0 0] T)) (fun b => b = w2.heap.size ∨ b = h ∨ b = r) h r p [] w2.heap.size (.slice none 0 0) [] 1 := by
  have ha : Below w2.heap.size w2 (w2.alloc (.cells #[.int .u16 p.1, .int .u32 p.2, .slice none 0 0] T)) := (Below.refl _ _).alloc (Nat.le_refl _) _
  have h1 := hB.size
  have h2 := hb.size
  have h3 := H.lt
  have h4 := H.map.lt
  exact twin_stage (hB.trans ((hb.trans (ha.mono h2)).mono h1)) (H.ext ha) (twin_box (by simp) (by simp) (by simp) (fun j => by simp) rfl) (by omega) (by omega) (by omega) (by omega) (by omega)
theorem stage_two {W w1 wA w2 : World} {p : Pid} {h r x : Nat} {N0 : Nat → Prop} (hB : Below W.heap.size W w1) (hb0 : Below w1.heap.size w1 wA) (hx : w1.heap.size ≤ x) (X : RHubIs wA (fun b => b = x) x p (.slice none 0 0) []) (hb : Below wA.heap.size wA w2) (H : HubIs w2 N0 h r p []) (hh : wA.heap.size ≤ h) (hr : wA.heap.size ≤ r) :
    Stage W w2 (fun b => b = x ∨ b = h ∨ b = r) h r p [] x (.slice none 0 0) [] 1 := by
  have h1 := hB.size
  have h2 := hb0.size
  have h3 := hb.size
  have h4 := X.box.lt
  exact twin_stage (hB.trans ((hb0.trans (hb.mono h2)).mono h1)) H (X.ext hb) (by omega) (by omega) (by omega) (by omega) (by omega)
set_option maxRecDepth 100000 in
set_option maxHeartbeats 12800000 in
theorem hubPlays_law {W : World} {p1 p2 : Int} {la : Option Addr} {lc : Nat} {xs : List ActX} (_hok : ok (p1, p2)) (hR : ActRow W la xs) (_ : xs.length ≤ lc) :
    Calls Try.prog 4 #[.agg #[.int .u16 p1, .int .u32 p2], .slice la xs.length lc] W fun e w' => e = .returned (.bool true) ∧ Below W.heap.size W w' := by
  obtain ⟨W1, hW1⟩ : ∃ W1, W.alloc (.cells #[.int .u16 p1, .int .u32 p2] 30) = W1 := ⟨_, rfl⟩
  have hbw1 : Below W.heap.size W W1 := by rw [← hW1]; exact (Below.refl _ _).alloc (Nat.le_refl _) _
  have CG := hid (great13_any (c := lc) (hR.ext hbw1))
  have HR := hid hR
  obtain ⟨n, hn⟩ : ∃ n, xs.length = n := ⟨_, rfl⟩
  rw [hn] at CG ⊢
  have HN := hid hn
  have HB1 := hid hbw1
  have b0 : W1.cell? ⟨W.heap.size, 0, none⟩ = some (.int .u16 p1) := by rw [← hW1]; simp
  have b1 : W1.cell? ⟨W.heap.size, 1, none⟩ = some (.int .u32 p2) := by rw [← hW1]; simp
  clear hR hn hbw1
  go_enter Try.func4, Try.ntmps4
  go_wp2_with fail
  refine CG.out.mono ?_
  rintro e w1 ⟨g, rfl, rfl, hg⟩
  have HG := hid hg
  clear hg CG
  cases g with
  | true =>
    have CA := hid (awake_any w1)
    go_wp2_with fail
    refine CA.out.mono ?_
    rintro e w3 ⟨rfl, hb3⟩
    go_wp2_with fail
    go_ret
    exact ⟨rfl, HB1.out.trans (hb3.mono HB1.out.size)⟩
  | false =>
    have HS := hid (HG.out rfl)
    clear HG
    have HSB : Hid (∀ w, Below w1.heap.size w1 w → w.cell? ⟨W.heap.size, 0, none⟩ = some (.int .u16 p1) ∧ w.cell? ⟨W.heap.size, 1, none⟩ = some (.int .u32 p2)) := hid fun w hb => ⟨cell_toB b0 hb, cell_toB b1 hb⟩
    go_upto_region 3 with fail
    go_cut [5, 6] (fun v5 v6 wx => ∃ (h r x : Nat) (N : Nat → Prop), v5 = .pointer (some ⟨h, 0, none⟩) ∧ v6 = .pointer (some ⟨x, 0, none⟩) ∧ Hid (Stage W wx N h r (p1, p2) [] x (.slice none 0 0) [] 1))
    case first =>
      go_region_held3 (fun w => w.cell? ⟨W.heap.size, 0, none⟩ = some (.int .u16 p1) ∧ w.cell? ⟨W.heap.size, 1, none⟩ = some (.int .u32 p2)) (first | exact HSB.out _ (Below.refl _ _) | exact HSB.out _ (Below.refl _ _).drew | exact HSB.out _ hb12 | exact HSB.out _ (hb12.alloc hb12.size _) | exact HSB.out _ ((Below.refl _ _).alloc (Nat.le_refl _) _) | exact HSB.out _ ((Below.refl _ _).drew.alloc (Nat.le_refl _) _) | exact HSB.out _ ((Below.refl _ _).alloc (Nat.le_refl _) _).drew) (first | (go_at_call 7; refine (hnew_any (p1, p2) _ (fun b => b = w1.heap.size)).mono ?_; rintro e w2 ⟨h, r, rfl, hb2, hH, hh, hr⟩; have hb12 : Below w1.heap.size w1 w2 := (by first | exact (Below.refl _ _).drew.trans hb2 | exact ((Below.refl _ _).alloc (Nat.le_refl _) _).drew.trans (hb2.mono (by simp)) | exact ((Below.refl _ _).drew.alloc (Nat.le_refl _) _).trans (hb2.mono (by simp)))))
      · go_wp2_with fail
        go_meet
        exact ⟨h, r, _, _, rfl, rfl, hid (stage_one (p := (p1, p2)) HB1.out hb12 hH (by simpa using hh) (by simpa using hr))⟩
      · go_wp2_with fail
        go_meet
        exact ⟨h, r, _, _, rfl, rfl, hid (stage_two (p := (p1, p2)) HB1.out ((Below.refl _ _).alloc (Nat.le_refl _) _).drew (Nat.le_refl _) (twin_box (by simp) (by simp) (by simp) (fun j => by simp) rfl) hb2 hH hh hr)⟩
    case rest =>
      obtain ⟨h, r, x, N, rfl, rfl, HST⟩ := hcut
      rename World => w3
      clear b0 b1 HSB
      go_wp2_with fail
      go_loopw [4, 7] (fun rs kv wr => rs = .bool false ∧ ∃ (k : Nat) (N : Nat → Prop) (L : List HubX) (lv : Value) (P : List RPeer), kv = .int .i64 k ∧ k ≤ n ∧ k ≤ 100 ∧ Hid (Stage W wr N h r (p1, p2) L x lv P (k + 1))) (fun _ kv _ => n - (intOf kv).toNat)
      case atStart => exact ⟨rfl, 0, N, [], .slice none 0 0, [], rfl, Nat.zero_le _, Nat.zero_le _, HST⟩
      case round =>
        obtain ⟨rfl, k, N, L, lv, P, rfl, hkn, hk100, HSG⟩ := hrel
        rename World => wr
        by_cases hlt : k < n ∧ k < 100
        · have t1 : decide ((k : Int) < (n : Int)) = true := decide_eq_true (by omega)
          have t2 : decide (k < n) = true := decide_eq_true hlt.1
          have t3 : decide ((k : Int) < 100) = true := decide_eq_true (by omega)
          have t4 : decide (k < 100) = true := decide_eq_true hlt.2
          have hkl : k < xs.length := by rw [HN.out]; exact hlt.1
          have hsm := HS.out k hkl hlt.2
          obtain ⟨b, off, ai, ci, aj, cj, rfl, hb, hc, hA⟩ := HR.out.at hkl
          obtain ⟨X, hX⟩ : ∃ X, xs[k] = X := ⟨_, rfl⟩
          rw [hX] at hc hA hsm
          have ix0 : (0 : Int) ≤ (k : Int) := Int.natCast_nonneg k
          have ix1 : (k : Int) < (n : Int) := by omega
          obtain ⟨ka, ⟨c1, c2⟩, bs, ⟨qk, ⟨f1, f2⟩, ⟨s1, s2⟩, sq, qb⟩⟩ := X
          obtain ⟨m, hm⟩ : ∃ m, bs.length = m := ⟨_, rfl⟩
          obtain ⟨m2, hm2⟩ : ∃ m2, qb.length = m2 := ⟨_, rfl⟩
          simp only [hm, hm2] at hsm
          have HM := hid (And.intro hm hm2)
          have HSM := hid hsm
          have HBW := HSG.out.below
          have hcw : ∀ j u, (actL ⟨ka, (c1, c2), bs, ⟨qk, (f1, f2), (s1, s2), sq, qb⟩⟩ ai ci aj cj)[j]? = some u → wr.cell? ⟨b, off + k * 11 + j, none⟩ = some u := fun j u hu => (HBW.cell (by exact hb)).trans (hc j u hu)
          have HKK := hid hlt
          have hAI := act_in (ci := ci) (cj := cj) HSG.out hA
          simp only [actL, hm, hm2] at hcw
          have hrng : wr.rangeAt b (off + k * 11) [.int .i64 ka, .int .u16 c1, .int .u32 c2, .slice ai m ci, .int .i64 qk, .int .u16 f1, .int .u32 f2, .int .u16 s1, .int .u32 s2, .int .u64 sq, .slice aj m2 cj] := hcw
          obtain ⟨wb, hwb⟩ : ∃ wb, wr.alloc (.cells #[.int .i64 ka, .int .u16 c1, .int .u32 c2, .slice ai m ci, .int .i64 qk, .int .u16 f1, .int .u32 f2, .int .u16 s1, .int .u32 s2, .int .u64 sq, .slice aj m2 cj] 54) = wb := ⟨_, rfl⟩
          have hAI2 : ActIn wb N wr.heap.size ai ci aj cj ⟨ka, (c1, c2), bs, ⟨qk, (f1, f2), (s1, s2), sq, qb⟩⟩ := by
            have e : (actL ⟨ka, (c1, c2), bs, ⟨qk, (f1, f2), (s1, s2), sq, qb⟩⟩ ai ci aj cj).toArray = #[.int .i64 ka, .int .u16 c1, .int .u32 c2, .slice ai m ci, .int .i64 qk, .int .u16 f1, .int .u32 f2, .int .u16 s1, .int .u32 s2, .int .u64 sq, .slice aj m2 cj] := by rw [← hm, ← hm2]; rfl
            rw [e, hwb] at hAI
            exact hAI
          have hbb : Below wr.heap.size wr wb := by rw [← hwb]; exact (Below.refl _ _).alloc (Nat.le_refl _) _
          have hka := hA.kk
          have HAI := hid hAI2
          have HSB := hid (HSG.out.ext hbb)
          obtain ⟨q, hq⟩ : ∃ q, ka % 8 = q := ⟨_, rfl⟩
          have PK : Hid (Calls Try.prog 17 #[.int .i64 ka, .int .i64 8] wb fun e w' => e = .returned (.int .i64 q) ∧ wb = w') := hid (by rw [← hq]; exact rpick_any ka 8 wb (by decide) (by decide) hka.1 hka.2)
          have HQ := hid hq
          have g0 : wb.cell? ⟨wr.heap.size, 0, none⟩ = some (.int .i64 ka) := hAI2.cs 0 _ rfl
          clear hAI hAI2 hA hc hcw hX hkl hsm hm hm2 hbb hka hq hlt hkn hk100 HBW hb
          go_upto_region 7 with fail
          go_wp2_with (refine wpList_load_mid rfl 54 _ rfl b (off + k * 11) rfl [.int .i64 ka, .int .u16 c1, .int .u32 c2, .slice ai m ci, .int .i64 qk, .int .u16 f1, .int .u32 f2, .int .u16 s1, .int .u32 s2, .int .u64 sq, .slice aj m2 cj] _ hrng Try.underlying54 rfl infoAct ?_)
          refine PK.out.mono ?_
          rintro e w' ⟨rfl, rfl⟩
          clear g0 hrng PK
          have hq8 : 0 ≤ q ∧ q < 8 := by have := HQ.out; omega
          clear HQ
          have HX1 : Hid (∀ w N', ActIn w N' wr.heap.size ai ci aj cj ⟨ka, (c1, c2), bs, ⟨qk, (f1, f2), (s1, s2), sq, qb⟩⟩ → (w.cell? ⟨wr.heap.size, 1, none⟩ = some (.int .u16 c1) ∧ w.cell? ⟨wr.heap.size, 2, none⟩ = some (.int .u32 c2) ∧ w.cell? ⟨wr.heap.size, 3, none⟩ = some (.slice ai m ci))) := hid fun w N' A => ⟨A.cs 1 _ rfl, A.cs 2 _ rfl, by rw [← HM.out.1]; exact A.cs 3 _ rfl⟩
          have HFT := hid (HSB.out.fits (by have := HKK.out; omega))
          go_upto_block 2 with fail
          go_cut [9] (fun v9 wx => v9 = .bool true ∧ ∃ (N' : Nat → Prop) (L' : List HubX) (lv' : Value) (P' : List RPeer), Hid (Stage W wx N' h r (p1, p2) L' x lv' P' (k + 1 + 1)) ∧ Hid (ActIn wx N' wr.heap.size ai ci aj cj ⟨ka, (c1, c2), bs, ⟨qk, (f1, f2), (s1, s2), sq, qb⟩⟩))
          case first =>
            by_cases hq01 : q = 0 ∨ q = 1
            · have hrel := send_rel (sf := (p1, p2)) (p := (c1, c2)) (bs := bs) HSB.out.rel HAI.out.pp HSB.out.fit (by omega)
              obtain ⟨c, hc⟩ : ∃ c, (sendR (p1, p2) (hubD L) (c1, c2) bs).1 = c := ⟨_, rfl⟩
              have CS : Hid (∀ w, Below wb.heap.size wb w → Calls Try.prog 10 #[.pointer (some ⟨h, 0, none⟩), .agg #[.int .u16 c1, .int .u32 c2], .slice ai m ci] w fun e w' => e = .returned (.int .i64 c) ∧ ∃ N' L', Twin w' N' h r (p1, p2) L' x lv P ∧ ActIn w' N' wr.heap.size ai ci aj cj ⟨ka, (c1, c2), bs, ⟨qk, (f1, f2), (s1, s2), sq, qb⟩⟩ ∧ TwinR wb w' N N' ∧ hubD L' = (sendR (p1, p2) (hubD L) (c1, c2) bs).2) := hid fun w hb => (tw_send (HSB.out.t.ext hb) (HAI.out.ext hb) HM.out.1 HSM.out.1 hc rfl).mono fun e w' ⟨h1, N', L', h2, h3, h4, h5⟩ => ⟨h1, N', L', h2, h3, (TwinR.below hb).trans h4, h5⟩
              have CR : Hid (∀ w N4 L4, Twin w N4 h r (p1, p2) L4 x lv P → ActIn w N4 wr.heap.size ai ci aj cj ⟨ka, (c1, c2), bs, ⟨qk, (f1, f2), (s1, s2), sq, qb⟩⟩ → Calls Try.prog 18 #[.pointer (some ⟨x, 0, none⟩), .agg #[.int .u16 c1, .int .u32 c2], .slice ai m ci] w fun e w' => e = .returned (.int .i64 c) ∧ ∃ N' lv' P', Twin w' N' h r (p1, p2) L4 x lv' P' ∧ ActIn w' N' wr.heap.size ai ci aj cj ⟨ka, (c1, c2), bs, ⟨qk, (f1, f2), (s1, s2), sq, qb⟩⟩ ∧ TwinR w w' N4 N' ∧ rD P' = (rsendD (p1, p2) (rD P) (c1, c2) bs).2) := hid fun w N4 L4 T A => tw_rsend T A HFT.out.2 HM.out.1 HSM.out.1 (by rw [← hc]; exact hrel.1.symm) rfl
              have HREL := hid hrel.2
              clear hrel hc
              rcases hq01 with hq0 | hq0
              all_goals
                subst hq0
                go_upto_region 13 with fail
                go_region_held3 (fun w => w.cell? ⟨wr.heap.size, 1, none⟩ = some (.int .u16 c1) ∧ w.cell? ⟨wr.heap.size, 2, none⟩ = some (.int .u32 c2) ∧ w.cell? ⟨wr.heap.size, 3, none⟩ = some (.slice ai m ci)) (first | exact HX1.out _ _ HAI.out | exact HX1.out _ _ (HAI.out.ext (Below.refl _ _).drew) | exact HX1.out _ _ hA4 | exact HX1.out _ _ hA5) (first | (go_at_call 10; refine (CS.out _ (Below.refl _ _).drew).mono ?_; rintro e w4 ⟨rfl, N4, L4, hT4, hA4, hR4, hL4⟩) | (go_at_call 18; refine (CR.out _ _ _ hT4 hA4).mono ?_; rintro e w5 ⟨rfl, N5, lv5, P5, hT5, hA5, hR5, hP5⟩))
                go_wp2_with fail
                go_meet
                exact ⟨by simp, N5, L4, lv5, P5, hid (HSB.out.step hT5 (hR4.trans hR5) (by rw [hL4, hP5]; exact HREL.out.1) (by rw [hL4]; exact HREL.out.2)), hid hA5⟩
            · have hn0 : ¬ q = 0 := fun e => hq01 (.inl e)
              have hn1 : ¬ q = 1 := fun e => hq01 (.inr e)
              have v0 : decide (q = 0) = false := decide_eq_false hn0
              have v1 : decide (q = 1) = false := decide_eq_false hn1
              have v0' : (q == 0) = false := by rw [beq_eq_false_iff_ne]; exact hn0
              have v1' : (q == 1) = false := by rw [beq_eq_false_iff_ne]; exact hn1
              clear hq01
              by_cases hq5 : q = 5
              · have hrel := tick_rel HSB.out.rel HSB.out.fit
                have HREL := hid hrel
                have CT := hid (tw_tick HSB.out.t HAI.out rfl)
                subst hq5
                clear hrel
                go_wp2_with fail
                refine CT.out.mono ?_
                rintro e w4 ⟨rfl, L4, hT4, hA4, hR4, hL4⟩
                have CQ := hid (tw_rtick hT4 hA4 HFT.out.2 rfl)
                go_wp2_with fail
                refine CQ.out.mono ?_
                rintro e w5 ⟨rfl, P5, hT5, hA5, hR5, hP5⟩
                go_wp2_with fail
                go_meet
                exact ⟨rfl, N, L4, lv, P5, hid (HSB.out.step hT5 (hR4.trans hR5) (by rw [hL4, hP5]; exact HREL.out.1) (by rw [hL4]; exact HREL.out.2)), hid hA5⟩
              · by_cases hq6 : q = 6
                · have hpk := (out_rel (sf := (p1, p2)) HSB.out.rel HSB.out.fit (routL_map P)).1
                  obtain ⟨pk, hpk1⟩ : ∃ pk, (outR (p1, p2) (hubD L)).1 = pk := ⟨_, rfl⟩
                  rw [hpk1] at hpk
                  have hlen : pk.length ≤ 1000000 := by have := routs_len (p1, p2) P; have := HSB.out.t.b.lim; rw [hpk]; omega
                  have CT := hid (tw_out HSB.out.t HAI.out HSB.out.fit (by have := HKK.out; omega) hpk1 rfl)
                  have HPK := hid hpk
                  have HLEN := hid hlen
                  subst hq6
                  clear hpk hpk1 hlen
                  go_wp2_with fail
                  refine CT.out.mono ?_
                  rintro e w4 ⟨va, xa, L4, rfl, hRa, hT4, hA4, hR4, hL4⟩
                  have CQ := hid (tw_rout hT4 hA4 hRa HFT.out.2 HPK.out.symm)
                  clear hRa hA4 CT
                  have HT4 := hid (And.intro hR4 hL4)
                  clear hR4 hL4 hT4
                  go_wp2_with fail
                  refine CQ.out.mono ?_
                  rintro e w5 ⟨vb, xb, P5, rfl, hRb, hRa5, hT5, hA5, hR5, hP5⟩
                  have CS := hid (samePk_is hRa5 hRb HLEN.out)
                  have hout := out_rel (sf := (p1, p2)) HSB.out.rel HSB.out.fit hP5
                  have HSD := hid (HSB.out.step hT5 (HT4.out.1.trans hR5) (by rw [HT4.out.2]; exact hout.2.1) (by rw [HT4.out.2]; exact hout.2.2))
                  have HA5 := hid hA5
                  clear hRb hRa5 hT5 hA5 hR5 hP5 hout CQ HT4
                  go_wp2_with fail
                  refine CS.out.mono ?_
                  rintro e w6 ⟨rfl, hb6⟩
                  have hX := HSD.out.extA HA5.out hb6
                  go_wp2_with fail
                  go_meet
                  exact ⟨rfl, N, L4, lv, P5, hid hX.1, hid hX.2⟩
                · by_cases hq7 : q = 7
                  · have hrel := drop_rel (p := (c1, c2)) HSB.out.rel HSB.out.fit
                    obtain ⟨c, hc⟩ : ∃ c, (look (c1, c2) (hubD L)).isSome = c := ⟨_, rfl⟩
                    have CS : Hid (∀ w, Below wb.heap.size wb w → Calls Try.prog 22 #[.pointer (some ⟨h, 0, none⟩), .agg #[.int .u16 c1, .int .u32 c2]] w fun e w' => e = .returned (.bool c) ∧ ∃ L', Twin w' N h r (p1, p2) L' x lv P ∧ ActIn w' N wr.heap.size ai ci aj cj ⟨ka, (c1, c2), bs, ⟨qk, (f1, f2), (s1, s2), sq, qb⟩⟩ ∧ TwinR wb w' N N ∧ hubD L' = del (c1, c2) (hubD L)) := hid fun w hb => (tw_drop (HSB.out.t.ext hb) (HAI.out.ext hb) hc rfl).mono fun e w' ⟨h1, L', h2, h3, h4, h5⟩ => ⟨h1, L', h2, h3, (TwinR.below hb).trans h4, h5⟩
                    have CR : Hid (∀ w L4, Twin w N h r (p1, p2) L4 x lv P → ActIn w N wr.heap.size ai ci aj cj ⟨ka, (c1, c2), bs, ⟨qk, (f1, f2), (s1, s2), sq, qb⟩⟩ → Calls Try.prog 23 #[.pointer (some ⟨x, 0, none⟩), .agg #[.int .u16 c1, .int .u32 c2]] w fun e w' => e = .returned (.bool c) ∧ ∃ N' lv' P', Twin w' N' h r (p1, p2) L4 x lv' P' ∧ ActIn w' N' wr.heap.size ai ci aj cj ⟨ka, (c1, c2), bs, ⟨qk, (f1, f2), (s1, s2), sq, qb⟩⟩ ∧ TwinR w w' N N' ∧ rD P' = del (c1, c2) (rD P)) := hid fun w L4 T A => tw_rdrop T A (by rw [← hc]; exact hrel.1.symm) rfl
                    have HREL := hid hrel.2
                    clear hrel hc
                    subst hq7
                    go_upto_region 20 with fail
                    go_region_held3 (fun w => w.cell? ⟨wr.heap.size, 1, none⟩ = some (.int .u16 c1) ∧ w.cell? ⟨wr.heap.size, 2, none⟩ = some (.int .u32 c2) ∧ w.cell? ⟨wr.heap.size, 3, none⟩ = some (.slice ai m ci)) (first | exact HX1.out _ _ HAI.out | exact HX1.out _ _ (HAI.out.ext (Below.refl _ _).drew) | exact HX1.out _ _ hA4 | exact HX1.out _ _ hA5) (first | (go_at_call 22; refine (CS.out _ (Below.refl _ _).drew).mono ?_; rintro e w4 ⟨rfl, L4, hT4, hA4, hR4, hL4⟩) | (go_at_call 23; refine (CR.out _ _ hT4 hA4).mono ?_; rintro e w5 ⟨rfl, N5, lv5, P5, hT5, hA5, hR5, hP5⟩))
                    go_wp2_with fail
                    go_meet
                    exact ⟨by simp, N5, L4, lv5, P5, hid (HSB.out.step hT5 (hR4.trans hR5) (by rw [hL4, hP5]; exact HREL.out.1) (by rw [hL4]; exact HREL.out.2)), hid hA5⟩
                  · have v5 : decide (q = 5) = false := decide_eq_false hq5
                    have v6 : decide (q = 6) = false := decide_eq_false hq6
                    have v7 : decide (q = 7) = false := decide_eq_false hq7
                    have v5' : (q == 5) = false := by rw [beq_eq_false_iff_ne]; exact hq5
                    have v6' : (q == 6) = false := by rw [beq_eq_false_iff_ne]; exact hq6
                    have v7' : (q == 7) = false := by rw [beq_eq_false_iff_ne]; exact hq7
                    have hrel := arrive_rel (sf := (p1, p2)) (q := ⟨qk, (f1, f2), (s1, s2), sq, qb⟩) HSB.out.rel HAI.out.q.ff HSB.out.fit (by omega)
                    have hlen := arr_len (sf := (p1, p2)) (q := ⟨qk, (f1, f2), (s1, s2), sq, qb⟩) HSB.out.rel HAI.out.q.ff HSB.out.fit (by omega)
                    obtain ⟨ls, hls⟩ : ∃ ls, (arriveR (p1, p2) (hubD L) ⟨qk, (f1, f2), (s1, s2), sq, qb⟩).1 = ls := ⟨_, rfl⟩
                    rw [hls] at hlen
                    have CS : Hid (∀ w, Below wb.heap.size wb w → Calls Try.prog 13 #[.pointer (some ⟨h, 0, none⟩), .agg #[.int .i64 qk, .int .u16 f1, .int .u32 f2, .int .u16 s1, .int .u32 s2, .int .u64 sq, .slice aj m2 cj]] w fun e w' => ∃ v xs N' L', e = .returned v ∧ RowN w' N' 3 v xs (ls.map (gotC (f1, f2))) ∧ Twin w' N' h r (p1, p2) L' x lv P ∧ ActIn w' N' wr.heap.size ai ci aj cj ⟨ka, (c1, c2), bs, ⟨qk, (f1, f2), (s1, s2), sq, qb⟩⟩ ∧ TwinR wb w' N N' ∧ hubD L' = (arriveR (p1, p2) (hubD L) ⟨qk, (f1, f2), (s1, s2), sq, qb⟩).2) := hid fun w hb => (tw_arr (HSB.out.t.ext hb) (HAI.out.ext hb) HSB.out.fit (by have := HKK.out; omega) HM.out.2 HSM.out.2 hls rfl).mono fun e w' ⟨v, ys, N', L', h1, h2, h3, h4, h5, h6⟩ => ⟨v, ys, N', L', h1, h2, h3, h4, (TwinR.below hb).trans h5, h6⟩
                    have CR : Hid (∀ w N4 L4 v0 x0, Twin w N4 h r (p1, p2) L4 x lv P → ActIn w N4 wr.heap.size ai ci aj cj ⟨ka, (c1, c2), bs, ⟨qk, (f1, f2), (s1, s2), sq, qb⟩⟩ → RowN w N4 3 v0 x0 (ls.map (gotC (f1, f2))) → Calls Try.prog 25 #[.pointer (some ⟨x, 0, none⟩), .agg #[.int .i64 qk, .int .u16 f1, .int .u32 f2, .int .u16 s1, .int .u32 s2, .int .u64 sq, .slice aj m2 cj]] w fun e w' => ∃ v xs N' lv' P', e = .returned v ∧ RowN w' N' 3 v xs (ls.map (gotC (f1, f2))) ∧ RowN w' N' 3 v0 x0 (ls.map (gotC (f1, f2))) ∧ Twin w' N' h r (p1, p2) L4 x lv' P' ∧ ActIn w' N' wr.heap.size ai ci aj cj ⟨ka, (c1, c2), bs, ⟨qk, (f1, f2), (s1, s2), sq, qb⟩⟩ ∧ TwinR w w' N4 N' ∧ rD P' = (rarriveD (p1, p2) (rD P) ⟨qk, (f1, f2), (s1, s2), sq, qb⟩).2) := hid fun w N4 L4 v0 x0 T A R0 => tw_rarr T A R0 HFT.out.1 (by have := HKK.out; omega) HM.out.2 HSM.out.2 (by rw [← hls]; exact hrel.1.symm) rfl
                    have HX2 : Hid (∀ w N', ActIn w N' wr.heap.size ai ci aj cj ⟨ka, (c1, c2), bs, ⟨qk, (f1, f2), (s1, s2), sq, qb⟩⟩ → (w.cell? ⟨wr.heap.size, 4, none⟩ = some (.int .i64 qk) ∧ w.cell? ⟨wr.heap.size, 5, none⟩ = some (.int .u16 f1) ∧ w.cell? ⟨wr.heap.size, 6, none⟩ = some (.int .u32 f2) ∧ w.cell? ⟨wr.heap.size, 7, none⟩ = some (.int .u16 s1) ∧ w.cell? ⟨wr.heap.size, 8, none⟩ = some (.int .u32 s2) ∧ w.cell? ⟨wr.heap.size, 9, none⟩ = some (.int .u64 sq) ∧ w.cell? ⟨wr.heap.size, 10, none⟩ = some (.slice aj m2 cj))) := hid fun w N' A => ⟨A.cs 4 _ rfl, A.cs 5 _ rfl, A.cs 6 _ rfl, A.cs 7 _ rfl, A.cs 8 _ rfl, A.cs 9 _ rfl, by rw [← HM.out.2]; exact A.cs 10 _ rfl⟩
                    have HREL := hid hrel.2
                    have HLEN : Hid (ls.length ≤ 1000000) := hid (by have := HKK.out; omega)
                    clear hrel hls hlen
                    go_upto_region 10 with fail
                    go_region_held3 (fun w => w.cell? ⟨wr.heap.size, 4, none⟩ = some (.int .i64 qk) ∧ w.cell? ⟨wr.heap.size, 5, none⟩ = some (.int .u16 f1) ∧ w.cell? ⟨wr.heap.size, 6, none⟩ = some (.int .u32 f2) ∧ w.cell? ⟨wr.heap.size, 7, none⟩ = some (.int .u16 s1) ∧ w.cell? ⟨wr.heap.size, 8, none⟩ = some (.int .u32 s2) ∧ w.cell? ⟨wr.heap.size, 9, none⟩ = some (.int .u64 sq) ∧ w.cell? ⟨wr.heap.size, 10, none⟩ = some (.slice aj m2 cj)) (first | exact HX2.out _ _ HAI.out | exact HX2.out _ _ (HAI.out.ext (Below.refl _ _).drew) | exact HX2.out _ _ hA4 | exact HX2.out _ _ hA5 | exact HX2.out _ _ (hA5.ext hb6)) (first | (go_at_call 13; refine (CS.out _ (Below.refl _ _).drew).mono ?_; rintro e w4 ⟨va, xa, N4, L4, rfl, hRa, hT4, hA4, hR4, hL4⟩) | (go_at_call 25; refine (CR.out _ _ _ _ _ hT4 hA4 hRa).mono ?_; rintro e w5 ⟨vb, xb, N5, lv5, P5, rfl, hRb, hRa5, hT5, hA5, hR5, hP5⟩) | (go_at_call 24; refine (sameGt_is hRa5 hRb HLEN.out).mono ?_; rintro e w6 ⟨rfl, hb6⟩))
                    have hX := (HSB.out.step hT5 (hR4.trans hR5) (by rw [hL4, hP5]; exact HREL.out.1) (by rw [hL4]; exact HREL.out.2)).extA hA5 hb6
                    go_wp2_with fail
                    go_meet
                    exact ⟨rfl, N5, L4, lv5, P5, hid hX.1, hid hX.2⟩
          case rest =>
            obtain ⟨rfl, N2, L2, lv2, P2, HSD, HA2⟩ := hcut
            rename World => wx
            clear HX1 HFT HAI HSB
            obtain ⟨ya, yc, hlv, -⟩ := HSD.out.t.b.lit
            obtain ⟨np, hnp⟩ : ∃ np, P2.length = np := ⟨_, rfl⟩
            rw [hnp] at hlv
            subst hlv
            have HNP := hid hnp
            have hnp48 : np ≤ 48 := by have := HSD.out.t.b.lim; omega
            clear hnp
            go_wp2_with fail
            go_loopw [10, 11, 12] (fun v10 v11 v12 wi => ∃ (j cn : Nat), v12 = .int .i64 j ∧ v11 = .int .i64 cn ∧ j ≤ np ∧ Hid (wcount (c1, c2) (P2.take j) = cn) ∧ Hid (OwnP wi wx.heap.size v10 ((P2.take j).map (·.p))) ∧ Hid (Below wx.heap.size wx wi)) (fun _ _ v12 _ => np - (intOf v12).toNat)
            case atStart => exact ⟨0, 0, rfl, rfl, Nat.zero_le _, hid rfl, hid (OwnP.nil _ _), hid (Below.refl _ _)⟩
            case round =>
              obtain ⟨j, cn, rfl, rfl, hj, HCN, HOW, HBI⟩ := hrel
              rename World => wi
              have cx2 := cell_toB HSD.out.t.b.box.c2 HBI.out
              by_cases hlj : j < np
              · have t1' : decide ((j : Int) < (np : Int)) = true := decide_eq_true (by omega)
                have t2' : decide (j < np) = true := decide_eq_true hlj
                have hjl : j < P2.length := by rw [HNP.out]; exact hlj
                obtain ⟨y, hy⟩ : ∃ y, P2[j]? = some y := ⟨_, List.getElem?_eq_getElem hjl⟩
                have hym : y ∈ P2 := List.mem_of_getElem? hy
                have HTK : Hid (P2.take (j + 1) = P2.take j ++ [y]) := hid (by rw [List.take_succ_eq_append_getElem hjl, (List.getElem?_eq_some_iff.1 hy).2])
                obtain ⟨g, off', cap, e, hg, q0, q1, q2, -⟩ := HSD.out.t.b.peer hy
                injection e with e1 e2 e3
                subst e1
                clear e2 e3
                have hps := (HSD.out.t.b.pr y hym).s
                obtain ⟨⟨y1, y2⟩, sb, lb, iv, tv, hv, ys, yk⟩ := y
                obtain ⟨ia, ic, hiv, -⟩ := hps.it_lit
                have s0 := hps.box.c0
                obtain ⟨m3, hm3⟩ : ∃ m3, ys.items.length = m3 := ⟨_, rfl⟩
                simp only [hm3] at hiv
                simp only [hiv] at s0
                have HM3 := hid hm3
                have HQ := hid (And.intro q0 (And.intro q1 (And.intro q2 s0)))
                have q0i := cell_toB q0 HBI.out
                have q1i := cell_toB q1 HBI.out
                have ix0 : (0 : Int) ≤ (j : Int) := Int.natCast_nonneg j
                have ix1 : (j : Int) < (np : Int) := by omega
                have HLJ := hid hlj
                have HOI := hid (HOW.out.alloc (.cells #[.int .u16 y1, .int .u32 y2] 30))
                have HCB : Hid (((P2.take j).map (·.p)).length + [(y1, y2)].length ≤ 1099511627776) := hid (by simp [List.length_take]; omega)
                have HCZ : Hid (wx.heap.size ≤ (wi.alloc (.cells #[.int .u16 y1, .int .u32 y2] 30)).heap.size) := hid (by have := HBI.out.size; simp; omega)
                clear hjl hy hym hps hiv s0 q0 q1 q2 hm3 hg hlj
                go_wp2_with (at_builtin; refine wpList_appendP HOI.out (PidRow.one _ y1 y2) HCB.out HCZ.out rfl rfl rfl rfl ?_; intro v4 w4 hown4 hg4 hnil4)
                have hB4 : Below wx.heap.size wx w4 := (HBI.out.alloc HBI.out.size _).grown hg4 HCZ.out (fun g hg => (World.ownsRow.lt HOI.out g hg).1)
                have HB4 := hid hB4
                have HO4 := hid hown4
                have he := fun w => eql_pid y1 y2 c1 c2 w
                have x2' := cell_extK (cell_toB HSD.out.t.b.box.c2 hB4)
                have q0' := cell_extK (cell_toB HQ.out.1 hB4)
                have q1' := cell_extK (cell_toB HQ.out.2.1 hB4)
                have g1' := cell_extK (cell_toB (HA2.out.cs 1 _ rfl) hB4)
                have g2' := cell_extK (cell_toB (HA2.out.cs 2 _ rfl) hB4)
                clear hown4 hg4 hnil4 hB4 q0i q1i cx2 HOI HCB HCZ
                by_cases hpq : (y1, y2) = (c1, c2)
                · simp only [hpq, decide_true] at he
                  have HCN3 : Hid (wcount (c1, c2) (P2.take (j + 1)) = m3) := hid (by rw [HTK.out, wcount_snoc, if_pos hpq, HM3.out])
                  clear hpq
                  refine wp_region_ext (w := w4) (Below.refl _ _) (by kernel_rfl) (by kernel_rfl) ?_
                  repeat (go_big_quiet_step (fail))
                  refine wpQuiet_nil ?_
                  rintro w9 ⟨⟨_, hb9⟩, rfl⟩
                  have hB9 := HB4.out.trans (hb9.mono HB4.out.size)
                  have HB9 := hid hB9
                  have HO9 := hid (HO4.out.ext hb9)
                  have x9 := cell_toB HSD.out.t.b.box.c2 hB9
                  have q9 := cell_toB HQ.out.2.2.1 hB9
                  have s9 := cell_toB HQ.out.2.2.2 hB9
                  clear hB9 hb9 x2' q0' q1' g1' g2' he
                  go_wp2_with fail
                  refine ⟨⟨j + 1, m3, by go_num, rfl, by have := HLJ.out; omega, HCN3, hid (by rw [HTK.out, List.map_append]; exact HO9.out), HB9⟩, ?_⟩
                  have := HLJ.out
                  simp [intOf]; omega
                · simp only [decide_eq_false hpq] at he
                  have HCN3 : Hid (wcount (c1, c2) (P2.take (j + 1)) = cn) := hid (by rw [HTK.out, wcount_snoc, if_neg hpq, HCN.out])
                  clear hpq
                  refine wp_region_ext (w := w4) (Below.refl _ _) (by kernel_rfl) (by kernel_rfl) ?_
                  repeat (go_big_quiet_step (fail))
                  refine wpQuiet_nil ?_
                  rintro w9 ⟨⟨_, hb9⟩, rfl⟩
                  have HB9 := hid (HB4.out.trans (hb9.mono HB4.out.size))
                  have HO9 := hid (HO4.out.ext hb9)
                  clear hb9 x2' q0' q1' g1' g2' he
                  go_wp2_with fail
                  refine ⟨⟨j + 1, cn, by go_num, rfl, by have := HLJ.out; omega, HCN3, hid (by rw [HTK.out, List.map_append]; exact HO9.out), HB9⟩, ?_⟩
                  have := HLJ.out
                  simp [intOf]; omega
              · have hjn : j = np := by omega
                have t1' : decide ((j : Int) < (np : Int)) = false := decide_eq_false (by omega)
                have t2' : decide (j < np) = false := decide_eq_false hlj
                have htk : P2.take j = P2 := List.take_of_length_le (by rw [HNP.out]; omega)
                have hcn := HCN.out
                have how := HOW.out
                rw [htk] at hcn how
                obtain ⟨ids, hids⟩ : ∃ ids, P2.map (·.p) = ids := ⟨_, rfl⟩
                obtain ⟨ln, hln⟩ : ∃ ln, ids.length = ln := ⟨_, rfl⟩
                rw [hids] at how
                obtain ⟨oa, oc, hoe, hor, -⟩ := how.row
                rw [hln] at hoe
                subst hoe
                have hl48 : ln ≤ 70368744177664 := by rw [← hln, ← hids, List.length_map, HNP.out]; omega
                have hpe := peers_is HSD.out.rel
                rw [hids] at hpe
                have CPE := hid (hpeers_any (HSD.out.ext HBI.out).t.a)
                rw [hpe] at CPE
                have CSM : Hid (∀ a c W, PidRow W a ids → PidRow W oa ids → Calls Try.prog 26 #[.slice a ln c, .slice oa ln oc] W fun e w' => e = .returned (.bool true) ∧ Below W.heap.size W w') := hid fun a c W h1 h2 => by
                  have := sameR_is (ca := c) (cb := oc) (bm := true) (hid (decide_eq_true rfl)) (by rw [hln]; exact hl48) (by rw [hln]; exact hl48) h1 h2
                  rw [hln] at this
                  exact this
                have CWT : Hid (∀ W, Below wx.heap.size wx W → Calls Try.prog 15 #[.pointer (some ⟨h, 0, none⟩), .agg #[.int .u16 c1, .int .u32 c2]] W fun e w' => e = .returned (.int .i64 cn) ∧ Below W.heap.size W w') := hid fun W hb => by
                  have := hwaits_any (HSD.out.ext hb).t.a c1 c2
                  rw [wcount_is HSD.out.rel, hcn] at this
                  exact this
                have HOR := hid hor
                have HLN := hid hln
                clear hjn hlj htk hcn how hids hln hl48 hpe hor HCN HOW
                go_wp2_with fail
                refine CPE.out.mono ?_
                rintro e w5 ⟨pv, rfl, hpo, hb5⟩
                obtain ⟨pa, pc, rfl, hpr, -⟩ := hpo.row
                have HB5 := hid (HBI.out.trans (hb5.mono HBI.out.size))
                have CS5 := hid (CSM.out pa pc w5 hpr (HOR.out.ext hb5))
                rw [HLN.out]
                clear hpo hpr hb5 CPE CSM cx2
                go_wp2_with fail
                refine CS5.out.mono ?_
                rintro e w6 ⟨rfl, hb6⟩
                have hB6 := HB5.out.trans (hb6.mono HB5.out.size)
                have HB6 := hid hB6
                have CW6 := hid (CWT.out w6 hB6)
                have g1' := cell_toB (HA2.out.cs 1 _ rfl) hB6
                have g2' := cell_toB (HA2.out.cs 2 _ rfl) hB6
                clear hb6 hB6 CS5 CWT
                go_wp2_with fail
                refine CW6.out.mono ?_
                rintro e w7 ⟨rfl, hb7⟩
                have hB7 := HB6.out.trans (hb7.mono HB6.out.size)
                have HSZ := hid (HSD.out.ext hB7)
                have hkk := HKK.out
                clear hb7 hB7 CW6 g1' g2'
                go_wp2_with fail
                refine ⟨⟨rfl, k + 1, N2, L2, _, P2, by go_num, by omega, by omega, HSZ⟩, ?_⟩
                simp [intOf]; omega
        · have HBW := hid HSG.out.below
          have CA := hid (awake_any wr)
          by_cases hlt2 : k < n
          · have t1 : decide ((k : Int) < (n : Int)) = true := decide_eq_true (by omega)
            have t2 : decide (k < n) = true := decide_eq_true hlt2
            have t3 : decide ((k : Int) < 100) = false := decide_eq_false (by omega)
            have t4 : decide (k < 100) = false := decide_eq_false (by omega)
            clear hlt hlt2
            go_wp2_with fail
            refine CA.out.mono ?_
            rintro e w9 ⟨rfl, hb9⟩
            go_wp2_with fail
            go_ret
            exact ⟨rfl, HBW.out.trans (hb9.mono HBW.out.size)⟩
          · have t1 : decide ((k : Int) < (n : Int)) = false := decide_eq_false (by omega)
            have t2 : decide (k < n) = false := decide_eq_false hlt2
            clear hlt hlt2
            go_wp2_with fail
            refine CA.out.mono ?_
            rintro e w9 ⟨rfl, hb9⟩
            go_wp2_with fail
            go_ret
            exact ⟨rfl, HBW.out.trans (hb9.mono HBW.out.size)⟩
end Go.Proofs.Ytidohmpnefcpcaa

