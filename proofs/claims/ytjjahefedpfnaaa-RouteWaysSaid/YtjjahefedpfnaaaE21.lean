import Derived.Test.YtjjahefedpfnaaaE20

namespace Go.Proofs.Ytjjahefedpfnaaa
open Go.RowKit
def reachL (V : View) (S : Pid → Bool) (c : Pid) : List Pid := [c] ++ downP V S c
def allL (V : View) (S : Pid → Bool) (c : Pid) : List Pid := reachL V S c ++ (reachL V S c).flatMap (downP V S)
theorem all_law {V : View} {S : Pid → Bool} {c m : Pid} (hV : GoodV V) (hc : chiefP V S = some c) (hm : m ∈ V.ms) (hs : S m = false) : m ∈ allL V S c := by
  unfold allL reachL
  rcases down_law hV hc hm hs with h | h | ⟨s, h1, h2⟩
  · subst h; simp
  · simp [h]
  · rw [List.mem_append]; right
    rw [List.mem_flatMap]
    exact ⟨s, by rcases h1 with h1 | h1 <;> simp [h1], h2⟩
theorem flat_drop {f : Pid → List Pid} {xs : List Pid} {k : Nat} (h : k < xs.length) {p : Pid} (hp : p = xs[k]) : (xs.drop k).flatMap f = f p ++ (xs.drop (k + 1)).flatMap f := by
  rw [List.drop_eq_getElem_cons h, ← hp, List.flatMap_cons]
theorem downP_len {V : View} {S : Pid → Bool} {p : Pid} (h : Small V) : (downP V S p).length ≤ 64 := Nat.le_trans others_len h.ms
theorem reachL_len {V : View} {S : Pid → Bool} {p : Pid} (h : Small V) : (reachL V S p).length ≤ 65 := by
  have := downP_len (S := S) (p := p) h
  unfold reachL; simp; omega
theorem hasRef_extw {r : Nat → Int} {x y : Int} {w0 : World} {U : ExtW w0} {b : Bool} (hx : 0 ≤ x) (hy : 0 ≤ y) (h : Hid (hasRu r (x, y) = b)) : Calls Try.prog 50 #[.agg (rumC r), .agg #[.int .u16 x, .int .u32 y]] U.W fun e w' => e = .returned (.bool b) ∧ ∃ U' : ExtW w0, w' = U'.W :=
  quiet_of (hasRef_any r x y U.W hx hy) (by rw [h.out])
set_option maxRecDepth 100000 in
set_option maxHeartbeats 12800000 in
theorem routeDown_law (V : View) (am al ad : Option Addr) (cm cl cd : Nat) (r : Nat → Int) (w : World) (hV : ViewR w am al ad V) (hw : WfView V) :
    Calls Try.prog 10 #[viewV V am al ad cm cl cd, .agg (RL r).toArray] w fun e w' => e = .returned (.bool true) ∧ Below w.heap.size w w' := by
  have hB2 : Below w.heap.size w ((w.alloc (.cells (vcells V am al ad cm cl cd) 68)).alloc (.cells (RL r).toArray 70)) := ((Below.refl _ _).alloc (Nat.le_refl _) _).alloc (by simp) _
  have F2 := Frr.made w V am al ad cm cl cd r
  have hV2 := hV.ext hB2
  cases hr : rightB V
  · have HR := hid hr
    clear hr F2
    go_enter Try.func10, Try.ntmps10
    go_wp2_with (first
      | (go_at_call 45; refine (right_is HR hV2).mono ?_; rintro e w3 ⟨rfl, hb3⟩)
      | (go_at_call 46; refine (awakeR_any _).mono ?_; rintro e w4 ⟨rfl, hb4⟩))
    go_ret
    exact ⟨rfl, (hB2.trans (hb3.mono hB2.size)).trans (hb4.mono (by have := hb3.size; have := hB2.size; omega))⟩
  · obtain ⟨hs, hg⟩ := right_small hw hr
    have hf := hs.fine
    have hlm := hf.ms
    have HR := hid hr
    clear hr
    cases hc : chiefP V (hasRu r) with
    | none =>
      have HC := hid hc
      clear hc
      go_enter Try.func10, Try.ntmps10
      go_wp2_with (first
        | (go_at_call 45; refine (right_is HR hV2).mono ?_; rintro e w3 ⟨rfl, hb3⟩; have F3 := F2.ext hb3; have hV3 := hV2.ext hb3; have hR3 := F3.rb; obtain ⟨a30, a31, a32, a33⟩ := F3.vb)
        | (refine wpList_loadRw hR3 (by rfl) rfl rfl ?_)
        | (go_at_call 47; refine (chiefA_none HC hV3 hf).mono ?_; rintro e w4 ⟨rfl, hb4⟩)
        | (go_at_call 46; refine (awakeR_any _).mono ?_; rintro e w6 ⟨rfl, hb6⟩))
      have h3 := hb3.size
      have h2 := hB2.size
      have h4 := hb4.size
      go_ret
      exact ⟨rfl, ((((hB2.trans (hb3.mono hB2.size)).trans (hb4.mono (by omega)))).alloc (by omega) _).trans (hb6.mono (by simp; omega))⟩
    | some q =>
      obtain ⟨u, v⟩ := q
      have hall : ∀ m, m ∈ V.ms → hasRu r m = false → m ∈ allL V (hasRu r) (u, v) := fun m hm hs => all_law hg hc hm hs
      have HALL := hid hall
      have HC := hid hc
      clear hc hall
      go_enter Try.func10, Try.ntmps10
      go_wp2_with (first
        | (go_at_call 45; refine (right_is HR hV2).mono ?_; rintro e w3 ⟨rfl, hb3⟩; have F3 := F2.ext hb3; have hV3 := hV2.ext hb3; have hR3 := F3.rb; obtain ⟨a30, a31, a32, a33⟩ := F3.vb)
        | (refine wpList_loadRw hR3 (by rfl) rfl rfl ?_)
        | (go_at_call 47; refine (chiefA_some HC hV3 hf).mono ?_; rintro e w4 ⟨rfl, hb4⟩))
      have hB4 : Below w.heap.size w w4 := (hB2.trans (hb3.mono hB2.size)).trans (hb4.mono (by have := hb3.size; have := hB2.size; omega))
      have hb45 : Below w4.heap.size w4 (w4.alloc (.cells #[.int .u16 u, .int .u32 v] 32)) := (Below.refl _ _).alloc (Nat.le_refl _) _
      have F5 := (F3.ext hb4).ext hb45
      have hV5 := (hV3.ext hb4).ext hb45
      have hP5 : PtrTo (w4.alloc (.cells #[.int .u16 u, .int .u32 v] 32)) w4.heap.size (.int .u16 u) (.int .u32 v) := ⟨by simp, by simp⟩
      have hB5 : Below w.heap.size w (w4.alloc (.cells #[.int .u16 u, .int .u32 v] 32)) := hB4.alloc hB4.size _
      clear hb4 hb45 hB4 F3 hV3 hR3 a30 a31 a32 a33 hb3 hB2 F2 hV2
      generalize (w4.alloc (.cells #[.int .u16 u, .int .u32 v] 32)) = w5 at F5 hV5 hP5 hB5 ⊢
      generalize w4.heap.size = g5 at hP5 ⊢
      have hu70 := Try.underlying70
      have hi70 := info70L r
      obtain ⟨D, hD⟩ : ∃ D, downP V (hasRu r) (u, v) = D := ⟨_, rfl⟩
      obtain ⟨N, hN⟩ : ∃ N, D.length = N := ⟨_, rfl⟩
      have hDl : D.length ≤ 64 := by rw [← hD]; exact downP_len hs
      have hRL : reachL V (hasRu r) (u, v) = [(u, v)] ++ D := by unfold reachL; rw [hD]
      have HD := hid hD
      have HN := hid hN
      have HRL := hid hRL
      have HNe : Hid (N = D.length) := hid hN.symm
      clear hD hN hRL
      have HF : Hid (∀ W, Below w5.heap.size w5 W → Frr W w.heap.size V am al ad cm cl cd r) := hid fun W h => F5.ext h
      have HVV : Hid (∀ W, Below w5.heap.size w5 W → ViewR W am al ad V) := hid fun W h => hV5.ext h
      obtain ⟨L1, hL1⟩ : ∃ L1, [(u, v)] ++ D = L1 := ⟨_, rfl⟩
      have HL1 := hid hL1
      have hL1l : L1.length ≤ 65 := by rw [← hL1]; simp; omega
      have hL1n : L1 ≠ [] := by rw [← hL1]; simp
      have hall2 : allL V (hasRu r) (u, v) = L1 ++ L1.flatMap (downP V (hasRu r)) := by unfold allL; rw [HRL.out, hL1]
      have HALL2 := hid hall2
      clear hL1 hall2
      go_upto_region 6 with fail
      go_cut [7] (fun s wx => OwnP wx w5.heap.size s L1 ∧ Below w5.heap.size w5 wx)
      case first =>
        have HS : Hid (∀ W, Below w5.heap.size w5 W → Below w5.heap.size w5 W ∧ W.rangeAt (w.heap.size + 1) 0 (RL r) ∧ W.cell? ⟨w.heap.size, 0, none⟩ = some (.int .u64 V.id) ∧ W.cell? ⟨w.heap.size, 1, none⟩ = some (.slice am V.ms.length cm) ∧ W.cell? ⟨w.heap.size, 2, none⟩ = some (.slice al V.ls.length cl) ∧ W.cell? ⟨w.heap.size, 3, none⟩ = some (.slice ad V.ds.length cd) ∧ W.cell? ⟨g5, 0, none⟩ = some (.int .u16 u) ∧ W.cell? ⟨g5, 1, none⟩ = some (.int .u32 v)) := hid fun W h => ⟨h, (F5.ext h).rb.range, (F5.ext h).vb.c0, (F5.ext h).vb.c1, (F5.ext h).vb.c2, (F5.ext h).vb.c3, (hP5.ext h).1, (hP5.ext h).2⟩
        have C1 : Hid (∀ W, Below w5.heap.size w5 W → Calls Try.prog 49 #[.agg #[.int .u64 V.id, .slice am V.ms.length cm, .slice al V.ls.length cl, .slice ad V.ds.length cd], .agg (RL r).toArray, .agg #[.int .u16 u, .int .u32 v]] W fun e w' => ∃ a c, e = .returned (.slice a N c) ∧ PidRow w' a D ∧ Below W.heap.size W w' ∧ Below w5.heap.size w5 w') := hid fun W h => ((down_is HD HN (hV5.ext h) hs).mono fun e w' ⟨a, c, h1, h2, h3⟩ => ⟨a, c, h1, h2, h3, h.trans (h3.mono h.size)⟩)
        have H0 : Below w5.heap.size w5 w5.drew := (Below.refl _ _).drew
        clear F5 hV5 hP5
        go_region_held3 (fun W => Below w5.heap.size w5 W ∧ W.rangeAt (w.heap.size + 1) 0 (RL r) ∧ W.cell? ⟨w.heap.size, 0, none⟩ = some (.int .u64 V.id) ∧ W.cell? ⟨w.heap.size, 1, none⟩ = some (.slice am V.ms.length cm) ∧ W.cell? ⟨w.heap.size, 2, none⟩ = some (.slice al V.ls.length cl) ∧ W.cell? ⟨w.heap.size, 3, none⟩ = some (.slice ad V.ds.length cd) ∧ W.cell? ⟨g5, 0, none⟩ = some (.int .u16 u) ∧ W.cell? ⟨g5, 1, none⟩ = some (.int .u32 v)) (first | exact HS.out _ H0 | exact HS.out _ (by assumption) | exact HS.out _ (Below.alloc (by assumption) (Below.size (by assumption)) _)) (first
          | ((go_at_call 49; refine (C1.out _ (by first | assumption | exact Below.alloc (by assumption) (Below.size (by assumption)) _)).mono ?_; rintro e w11 ⟨a11, c11, rfl, hrow11, hbb11, hb11⟩))
          | ((refine step_appendK (by rfl) (OwnP.ext (OwnP.made1 (base := w5.heap.size) w5.drew u v (Nat.le_refl _)) hbb11) HNe hrow11 (by simp; omega) hb11.size rfl rfl rfl ?_; intro v12 w12 hown12 hg12 hk12; have hb12 : Below w5.heap.size w5 w12 := hb11.grown hg12 hb11.size (fun g hg => by simp [Value.ownBlock] at hg; omega)))
          | ((refine step_appendK (by rfl) (OwnP.made1 (base := w5.heap.size) w11 u v hb11.size) HNe (hrow11.alloc _) (by simp; omega) (by have := hb11.size; simp; omega) rfl rfl rfl ?_; intro v12 w12 hown12 hg12 hk12; have hb12 : Below w5.heap.size w5 w12 := (hb11.alloc hb11.size _).grown hg12 (by have := hb11.size; simp; omega) (fun g hg => by have := hb11.size; simp [Value.ownBlock] at hg; omega))))
        all_goals (
          go_wp2_with fail
          go_meet
          exact ⟨by rw [← HL1.out]; exact hown12, hb12⟩)
      case rest =>
        obtain ⟨hown, hb7⟩ := hcut
        rename World => w7
        obtain ⟨g8, c8, rfl, hrow8⟩ := hown.head hL1n
        have h5s := hb7.size
        go_wp2
        go_loopw [7, 9] (fun s i wr => ∃ k : Nat, k ≤ L1.length ∧ i = .int .i64 k ∧ OwnP wr w5.heap.size s (L1 ++ (L1.take k).flatMap (downP V (hasRu r))) ∧ Hid ((L1 ++ (L1.take k).flatMap (downP V (hasRu r))).length ≤ 65 + k * 64) ∧ PidRow wr (some ⟨g8, 0, none⟩) L1 ∧ Below w5.heap.size w5 wr) (fun _ i _ => L1.length - (intOf i).toNat)
        case atStart => exact ⟨0, Nat.zero_le _, rfl, by simpa using hown, hid (by simpa using hL1l), hrow8, hb7⟩
        case round =>
          obtain ⟨k, hk, rfl, hownk, hbd, hrowk, hb⟩ := hrel
          have hsz := hb.size
          have hRr := (HF.out _ hb).rb
          by_cases hlt : k < L1.length
          · have hlt' : decide (k < L1.length) = true := by simpa using hlt
            obtain ⟨pb, po, x, y, hab, hpx, d1, d2⟩ := hrowk.at (Below.refl _ _) rfl hlt
            cases hab
            simp only [Nat.zero_add] at d1 d2
            obtain ⟨D2, hD2⟩ : ∃ D2, downP V (hasRu r) (x, y) = D2 := ⟨_, rfl⟩
            obtain ⟨N2, hN2⟩ : ∃ N2, D2.length = N2 := ⟨_, rfl⟩
            have hD2l : D2.length ≤ 64 := by rw [← hD2]; exact downP_len hs
            have hTS : (L1 ++ (L1.take k).flatMap (downP V (hasRu r))) ++ D2 = L1 ++ (L1.take (k + 1)).flatMap (downP V (hasRu r)) := by
              rw [List.take_succ_eq_append_getElem hlt, List.flatMap_append, ← hpx, ← List.append_assoc]
              simp [hD2]
            have hbd2 : (L1 ++ (L1.take (k + 1)).flatMap (downP V (hasRu r))).length ≤ 65 + (k + 1) * 64 := by
              rw [← hTS, List.length_append]; have := hbd.out; omega
            have HD2 := hid hD2
            have HN2 := hid hN2
            have HNe2 : Hid (N2 = D2.length) := hid hN2.symm
            have HTS := hid hTS
            have HBD2 := hid hbd2
            obtain ⟨XS, hXS⟩ : ∃ XS, L1 ++ (L1.take k).flatMap (downP V (hasRu r)) = XS := ⟨_, rfl⟩
            have HXS := hid hXS
            have hXl : XS.length ≤ 100000 := by rw [← hXS]; have := hbd.out; omega
            have hpre : L1 <+: XS := by rw [← hXS]; exact List.prefix_append _ _
            rw [hXS] at hownk
            have HPX := hid hpx
            clear hD2 hN2 hTS hbd2 hXS hpx hbd
            have HS : Hid (∀ W, Below w5.heap.size w5 W → PidRow W (some ⟨g8, 0, none⟩) L1 → Below w5.heap.size w5 W ∧ W.rangeAt (w.heap.size + 1) 0 (RL r) ∧ W.cell? ⟨w.heap.size, 0, none⟩ = some (.int .u64 V.id) ∧ W.cell? ⟨w.heap.size, 1, none⟩ = some (.slice am V.ms.length cm) ∧ W.cell? ⟨w.heap.size, 2, none⟩ = some (.slice al V.ls.length cl) ∧ W.cell? ⟨w.heap.size, 3, none⟩ = some (.slice ad V.ds.length cd) ∧ W.cell? ⟨g8, k * 2, none⟩ = some (.int .u16 x) ∧ W.cell? ⟨g8, k * 2 + 1, none⟩ = some (.int .u32 y)) := hid fun W h hr => by
              obtain ⟨pb', po', x', y', hab', hpx', e1, e2⟩ := hr.at (Below.refl _ _) rfl hlt
              cases hab'
              simp only [Nat.zero_add] at e1 e2
              rw [← HPX.out] at hpx'
              cases hpx'
              exact ⟨h, (HF.out _ h).rb.range, (HF.out _ h).vb.c0, (HF.out _ h).vb.c1, (HF.out _ h).vb.c2, (HF.out _ h).vb.c3, e1, e2⟩
            have C1 : Hid (∀ W, Below wr.heap.size wr W → Calls Try.prog 49 #[.agg #[.int .u64 V.id, .slice am V.ms.length cm, .slice al V.ls.length cl, .slice ad V.ds.length cd], .agg (RL r).toArray, .agg #[.int .u16 x, .int .u32 y]] W fun e w' => ∃ a c, e = .returned (.slice a N2 c) ∧ PidRow w' a D2 ∧ Below wr.heap.size wr w') := hid fun W h => ((down_is HD2 HN2 ((HVV.out _ hb).ext h) hs).mono fun e w' ⟨a, c, h1, h2, h3⟩ => ⟨a, c, h1, h2, h.trans (h3.mono h.size)⟩)
            have H0 : Below wr.heap.size wr wr.drew := (Below.refl _ _).drew
            clear d1 d2
            have HK0 := hid (HS.out _ (hb.trans (H0.mono hsz)) (hrowk.ext H0))
            go_wp2_with fail
            go_region_held3 (fun W => Below w5.heap.size w5 W ∧ W.rangeAt (w.heap.size + 1) 0 (RL r) ∧ W.cell? ⟨w.heap.size, 0, none⟩ = some (.int .u64 V.id) ∧ W.cell? ⟨w.heap.size, 1, none⟩ = some (.slice am V.ms.length cm) ∧ W.cell? ⟨w.heap.size, 2, none⟩ = some (.slice al V.ls.length cl) ∧ W.cell? ⟨w.heap.size, 3, none⟩ = some (.slice ad V.ds.length cd) ∧ W.cell? ⟨g8, k * 2, none⟩ = some (.int .u16 x) ∧ W.cell? ⟨g8, k * 2 + 1, none⟩ = some (.int .u32 y)) (first | exact HK0.out | exact HS.out _ (hb.trans (Below.mono hb11 hsz)) (hrowk.ext hb11) | exact HS.out _ hb12 hrow12) (first
              | ((go_at_call 49; refine (C1.out _ (by first | exact H0 | assumption)).mono ?_; rintro e w11 ⟨a11, c11, rfl, hrow11, hb11⟩))
              | ((refine step_appendK (by rfl) (hownk.ext hb11) HNe2 hrow11 (by omega) (by have := hb11.size; omega) rfl rfl rfl ?_; intro v12 w12 hown12 hg12 hk12; have hb12 : Below w5.heap.size w5 w12 := (hb.trans (hb11.mono hsz)).grown hg12 (by have := hb11.size; omega) (fun g hg => (World.ownsRow.lt hownk g hg).1); have hrow12 := hk12 g8 L1 hpre (hrowk.ext hb11))))
            go_wp2
            go_roundw
            case rel => exact ⟨k + 1, by omega, by go_num, by rw [← HTS.out, HXS.out]; exact hown12, HBD2, hrow12, hb12⟩
            case measure => simp [intOf]; omega
          · have hlt' : decide (k < L1.length) = false := by simpa using hlt
            have htk : L1.take k = L1 := List.take_of_length_le (by omega)
            rw [htk, ← HALL2.out] at hownk
            rw [htk, ← HALL2.out] at hbd
            have hk65 : k ≤ 65 := by omega
            obtain ⟨H, hH⟩ : ∃ H, allL V (hasRu r) (u, v) = H := ⟨_, rfl⟩
            rw [hH] at hownk hbd
            have hHl : H.length ≤ 100000 := by have := hbd.out; omega
            have HALL3 : Hid (∀ m, m ∈ V.ms → hasRu r m = false → m ∈ H) := hid fun m h1 h2 => by rw [← hH]; exact HALL.out m h1 h2
            obtain ⟨aH, cH, rfl, hrowH, -⟩ := hownk.row
            clear htk hH hbd HALL2 HALL
            have FW := HF.out _ hb
            have hVW := HVV.out _ hb
            have hBW := hB5.trans (hb.mono hB5.size)
            obtain ⟨a80, a81, a82, a83⟩ := id FW.vb
            go_wp2
            clear a80 a81 a82 a83 hrowk hb hownk
            generalize wr = w13 at FW hVW hBW hrowH ⊢
            go_loopw [10] (fun i wq => ∃ k : Nat, k ≤ V.ms.length ∧ i = .int .i64 k ∧ Below w13.heap.size w13 wq) (fun i _ => V.ms.length - (intOf i).toNat)
            case atStart => exact ⟨0, Nat.zero_le _, rfl, Below.refl _ _⟩
            case round =>
              rename World => wq
              obtain ⟨k, hk, rfl, hb⟩ := hrel
              have hsz := hb.size
              obtain ⟨a90, a91, a92, a93⟩ := (FW.ext hb).vb
              by_cases hlt : k < V.ms.length
              · have hlt' : decide (k < V.ms.length) = true := by simpa using hlt
                have hrH := hrowH.ext hb
                obtain ⟨pb, po, x, y, hab, hpx, d1, d2⟩ := hVW.ms.at hb rfl hlt
                subst hab
                have hmem : (x, y) ∈ V.ms := by rw [hpx]; exact List.getElem_mem _
                have hxy := hs.wf.ms (x, y) hmem
                have hx0 := hxy.1
                have hy0 := hxy.2.2.1
                have FQ := FW.ext hb
                have HS : Hid (∀ W, Below wq.heap.size wq W → Below wq.heap.size wq W ∧ W.rangeAt (w.heap.size + 1) 0 (RL r) ∧ W.cell? ⟨w.heap.size, 1, none⟩ = some (.slice (some ⟨pb, po, none⟩) V.ms.length cm) ∧ W.cell? ⟨pb, po + k * 2, none⟩ = some (.int .u16 x) ∧ W.cell? ⟨pb, po + k * 2 + 1, none⟩ = some (.int .u32 y)) := hid fun W h => ⟨h, (FQ.ext h).rb.range, (FQ.ext h).vb.c1, cell_to d1 h, cell_to d2 h⟩
                have H0 : Below wq.heap.size wq wq.drew := (Below.refl _ _).drew
                cases hsu : hasRu r (x, y)
                · have hin : decide ((x, y) ∈ H) = true := by simpa using HALL3.out (x, y) hmem hsu
                  have HSU := hid hsu
                  have HIN := hid hin
                  have C1 : Hid (∀ W, Below wq.heap.size wq W → Calls Try.prog 50 #[.agg (RL r).toArray, .agg #[.int .u16 x, .int .u32 y]] W fun e w' => e = .returned (.bool false) ∧ Below wq.heap.size wq w') := hid fun W h => rel h (hasRef_is hx0 hy0 HSU) rfl
                  have C2 : Hid (∀ W, Below wq.heap.size wq W → Calls Try.prog 36 #[.slice aH H.length cH, .agg #[.int .u16 x, .int .u32 y]] W fun e w' => e = .returned (.bool true) ∧ Below wq.heap.size wq w') := hid fun W h => rel h (hasR_is HIN (by omega) (hrH.ext h)) rfl
                  clear hsu hin hpx hmem hxy d1 d2 hrH
                  go_wp2_with fail
                  go_region_held3 (fun W => Below wq.heap.size wq W ∧ W.rangeAt (w.heap.size + 1) 0 (RL r) ∧ W.cell? ⟨w.heap.size, 1, none⟩ = some (.slice (some ⟨pb, po, none⟩) V.ms.length cm) ∧ W.cell? ⟨pb, po + k * 2, none⟩ = some (.int .u16 x) ∧ W.cell? ⟨pb, po + k * 2 + 1, none⟩ = some (.int .u32 y)) (first | exact HS.out _ H0 | exact HS.out _ (by assumption)) (first | ((go_at_call 50; refine (C1.out _ (by assumption)).mono ?_; rintro e w21 ⟨rfl, hb21⟩)) | ((go_at_call 36; refine (C2.out _ (by assumption)).mono ?_; rintro e w22 ⟨rfl, hb22⟩)))
                  all_goals (
                    obtain ⟨hBx, -⟩ := ‹Below wq.heap.size wq _ ∧ _›
                    go_wp2
                    go_roundw)
                  all_goals first
                    | (case measure => simp [intOf]; omega)
                    | (case rel => exact ⟨k + 1, by omega, by go_num, hb.trans (Below.mono ‹Below wq.heap.size wq _› hsz)⟩)
                · have HSU := hid hsu
                  have q0 := cell_extw (FQ.rb 0 (by decide)); have q1 := cell_extw (FQ.rb 1 (by decide)); have q2 := cell_extw (FQ.rb 2 (by decide)); have q3 := cell_extw (FQ.rb 3 (by decide)); have q4 := cell_extw (FQ.rb 4 (by decide)); have q5 := cell_extw (FQ.rb 5 (by decide)); have q6 := cell_extw (FQ.rb 6 (by decide)); have q7 := cell_extw (FQ.rb 7 (by decide)); have q8 := cell_extw (FQ.rb 8 (by decide)); have q9 := cell_extw (FQ.rb 9 (by decide)); have q10 := cell_extw (FQ.rb 10 (by decide)); have q11 := cell_extw (FQ.rb 11 (by decide)); have q12 := cell_extw (FQ.rb 12 (by decide)); have q13 := cell_extw (FQ.rb 13 (by decide)); have q14 := cell_extw (FQ.rb 14 (by decide)); have q15 := cell_extw (FQ.rb 15 (by decide))
                  have p0 := cell_extw d1
                  have p1 := cell_extw d2
                  have p2 := cell_extw FQ.vb.c1
                  clear hsu hpx hmem hxy hrH
                  go_wp2_with fail
                  refine wp_region_ext (w := wq) (Below.refl _ _) (by kernel_rfl) (by kernel_rfl) ?_
                  repeat (go_big_quiet_step (exact hasRef_extw hx0 hy0 HSU))
                  refine wpQuiet_nil ?_
                  rintro _ ⟨⟨w9, hb9⟩, rfl⟩
                  go_wp2
                  go_roundw
                  case rel => exact ⟨k + 1, by omega, by go_num, hb.trans (Below.mono hb9 hsz)⟩
                  case measure => simp [intOf]; omega
              · have hlt' : decide (k < V.ms.length) = false := by simpa using hlt
                go_wp2_with (go_at_call 46; refine (awakeR_any _).mono ?_; rintro e w6 ⟨rfl, hb6⟩)
                go_ret
                exact ⟨rfl, (hBW.trans (hb.mono hBW.size)).trans (hb6.mono (by have := hBW.size; omega))⟩
end Go.Proofs.Ytjjahefedpfnaaa
