import Derived.Test.YtjjahefedpfnaaaEB
import Derived.Test.YtjjahefedpfnaaaE24
namespace Go.Proofs.Ytjjahefedpfnaaa
open Go.RowKit
theorem downRef_own {r : Nat → Int} {V : View} {am al ad : Option Addr} {cm cl cd : Nat} {x y : Int} {w : World} {D : List Pid} {N : Nat} (h : Hid (downP V (hasRu r) (x, y) = D)) (hn : Hid (D.length = N)) (hV : ViewR w am al ad V) (hs : Small V) :
    Calls Try.prog 57 #[viewV V am al ad cm cl cd, .agg (RL r).toArray, .agg #[.int .u16 x, .int .u32 y]] w fun e w' => ∃ a c, e = .returned (.slice a N c) ∧ OwnP w' w.heap.size (.slice a N c) D ∧ Below w.heap.size w w' := by
  refine (downRef_any r V am al ad cm cl cd x y w hV hs).mono ?_
  rintro e w' ⟨v, rfl, hown, hb⟩
  rw [h.out] at hown
  obtain ⟨a, c, rfl, hrow, -⟩ := hown.row
  rw [hn.out] at *
  exact ⟨a, c, rfl, hown, hb⟩
theorem apart_new {w0 w1 : World} {vD s : Value} {xs D : List Pid} {b : Nat} (hD : OwnP w1 w0.heap.size vD D) (hs : OwnP w0 b s xs) : Apart vD s := fun g hg => by
  have h1 := (World.ownsRow.lt hD g hg).1
  rcases hq : s.ownBlock with _ | g'
  · exact .inl rfl
  · right; intro e; cases e
    have h2 := (World.ownsRow.lt hs g hq).2
    omega
theorem OwnP.rowOf {w : World} {b n c : Nat} {a : Option Addr} {xs : List Pid} (h : OwnP w b (.slice a n c) xs) : PidRow w a xs := by
  obtain ⟨a', c', e, hr, -⟩ := h.row
  cases e; exact hr
set_option maxRecDepth 100000 in
set_option maxHeartbeats 6400000 in
theorem reachRef_any (r : Nat → Int) (V : View) (am al ad : Option Addr) (cm cl cd : Nat) (x y : Int) (k : Int) (w : World) (hV : ViewR w am al ad V) (hs : Small V) (m1 m2 : Nat) (hM : Hid (reachM V (hasRu r) (x, y) k = (m1, m2))) :
    Calls Try.prog 65 #[viewV V am al ad cm cl cd, .agg (RL r).toArray, .agg #[.int .u16 x, .int .u32 y], .int .i64 k] w fun e w' => e = .returned (.agg #[.int .u64 m1, .int .u64 m2]) ∧ Below w.heap.size w w' := by
  have hf := hs.fine
  have hB3 : Below w.heap.size w ((((w.alloc (.cells (vcells V am al ad cm cl cd) 68)).alloc (.cells (RL r).toArray 70)).alloc (.cells #[.int .u16 x, .int .u32 y] 32)).alloc (.cells #[.int .u64 0, .int .u64 0] 83)) := ((((Below.refl _ _).alloc (Nat.le_refl _) _).alloc (by simp) _).alloc (by simp; omega) _).alloc (by simp; omega) _
  have F3 := (Frm.made w V am al ad cm cl cd r x y).ext ((Below.refl _ _).alloc (Nat.le_refl _) (.cells #[.int .u64 0, .int .u64 0] 83))
  have hbx := Box2.made (((w.alloc (.cells (vcells V am al ad cm cl cd) 68)).alloc (.cells (RL r).toArray 70)).alloc (.cells #[.int .u16 x, .int .u32 y] 32)) (v0 := .int .u64 0) (v1 := .int .u64 0) 83
  simp only [World.size_alloc] at hbx
  have hV3 := hV.ext hB3
  obtain ⟨w3, hw3⟩ : ∃ w3, ((((w.alloc (.cells (vcells V am al ad cm cl cd) 68)).alloc (.cells (RL r).toArray 70)).alloc (.cells #[.int .u16 x, .int .u32 y] 32)).alloc (.cells #[.int .u64 0, .int .u64 0] 83)) = w3 := ⟨_, rfl⟩
  rw [hw3] at hB3 F3 hV3 hbx
  obtain ⟨n, hn⟩ : ∃ n, stepsN k = n := ⟨_, rfl⟩
  have hkn : (min k 4).toNat = n := hn
  have hn4 : n ≤ 4 := by omega
  have HF : Hid (∀ W, Below w3.heap.size w3 W → Frm W w.heap.size V am al ad cm cl cd r x y) := hid fun W h => F3.ext h
  have HVV : Hid (∀ W, Below w3.heap.size w3 W → ViewR W am al ad V) := hid fun W h => hV3.ext h
  have HBX : Hid (∀ W, Below w3.heap.size w3 W → Box2 W (w.heap.size + 1 + 1 + 1) (.int .u64 0) (.int .u64 0)) := hid fun W h => hbx.ext h
  obtain ⟨a20, a21, a22, a23⟩ := F3.vb
  have c20 := F3.c0
  have c21 := F3.c1
  have hms := hs.ms
  have hlm := hf.ms
  obtain ⟨A0, hA0⟩ : ∃ A0, atIx V.ms (x, y) = A0 := ⟨_, rfl⟩
  have hAd := atIx_nonneg (p := (x, y)) (xs := V.ms)
  rw [hA0] at hAd
  have HA0 := hid hA0
  have hu70 := Try.underlying70
  have hi70 := info70L r
  have HB3 := hid hB3
  by_cases hmem : (x, y) ∈ V.ms
  · have hAn : decide (A0 < 0) = false := by simp [hmem] at hAd; simp; omega
    have HMEM := hid hmem
    obtain ⟨T, hT⟩ : ∃ T, allS V (hasRu r) n [(x, y)] = T := ⟨_, rfl⟩
    have HS0 : Hid (Still V (hasRu r) T n [(x, y)] [(x, y)]) := hid (by rw [← hT]; exact still_begin)
    have HM2 : Hid (maskL V.ms (0, 0) T = (m1, m2)) := hid (by rw [← hM.out, reachM_in hmem, hn, hT])
    have hz3 := hbx.lt
    clear hmem hn hT hA0 hAd hbx
    go_enter Try.func65, Try.ntmps65
    go_wp2_with ((go_at_call 83; refine (at83_is HA0 hlm hV3.ms).mono ?_; rintro e w4 ⟨rfl, hb4⟩; have z0 := cell_to c20 hb4; have z1 := cell_to c21 hb4; have hq4 : Below w4.heap.size w4 (w4.alloc (.cells #[.int .u16 x, .int .u32 y] 32)) := (Below.refl _ _).alloc (Nat.le_refl _) _; have z2 := cell_to z0 hq4; have z3 := cell_to z1 hq4))
    have hb46 : Below w4.heap.size w4 ((w4.alloc (.cells #[.int .u16 x, .int .u32 y] 32)).alloc (.cells #[.int .u16 x, .int .u32 y] 32)) := ((Below.refl _ _).alloc (Nat.le_refl _) _).alloc (by simp) _
    have hb06 := hb4.trans (hb46.mono hb4.size)
    have hown6 : OwnP ((w4.alloc (.cells #[.int .u16 x, .int .u32 y] 32)).alloc (.cells #[.int .u16 x, .int .u32 y] 32)) w4.heap.size (.slice (some ⟨w4.heap.size, 0, none⟩) 1 1) [(x, y)] := (OwnP.made1 w4 x y (Nat.le_refl _)).alloc _
    have hrow6 : PidRow ((w4.alloc (.cells #[.int .u16 x, .int .u32 y] 32)).alloc (.cells #[.int .u16 x, .int .u32 y] 32)) (some ⟨w4.heap.size + 1, 0, none⟩) [(x, y)] := PidRow.one' _ (by simp) x y
    have hs46 := hb46.size
    have hs34 := hb4.size
    clear a20 a21 a22 a23 c20 c21 z0 z1 z2 z3 hq4 hb4 hb46 hw3
    generalize ((w4.alloc (.cells #[.int .u16 x, .int .u32 y] 32)).alloc (.cells #[.int .u16 x, .int .u32 y] 32)) = w6 at hb06 hown6 hrow6 hs46 ⊢
    generalize w4.heap.size + 1 = g1 at hrow6 ⊢
    generalize w4.heap.size = gs at hown6 hs46 hs34 ⊢
    go_loopw [9, 10, 11] (fun h f i wr => ∃ (j : Nat) (got front : List Pid) (af : Option Addr) (cf : Nat), j ≤ n ∧ i = .int .i64 j ∧ f = .slice af front.length cf ∧ Hid (Still V (hasRu r) T (n - j) got front) ∧ Hid (∀ q ∈ front, q ∈ V.ms) ∧ Hid (front.length ≤ 64) ∧ Hid (got.length ≤ 1 + 64 * j) ∧ OwnP wr gs h got ∧ PidRow wr af front ∧ Below gs w6 wr) (fun _ _ i _ => n - (intOf i).toNat)
    case atStart => exact ⟨0, [(x, y)], [(x, y)], _, _, Nat.zero_le _, rfl, rfl, HS0, hid (by intro q hq; rw [List.mem_singleton.1 hq]; exact HMEM.out), hid (by simp), hid (by simp), hown6, hrow6, Below.refl _ _⟩
    case round =>
      obtain ⟨j, got, front, af, cf, hj, rfl, rfl, hST, hfm, hfl, hgl, hown, hrow, hb⟩ := hrel
      have hbw := hb06.trans (hb.mono hs34)
      have FR := HF.out _ hbw
      have VR := HVV.out _ hbw
      obtain ⟨N, hN⟩ : ∃ N, front.length = N := ⟨_, rfl⟩
      rw [hN] at hfl ⊢
      have HN := hid hN
      have HROW := hid hrow
      have hN64 := hfl.out
      clear hN hrow
      by_cases hlt : j < n
      · have hl1 : decide ((j : Int) < k) = true := by simp; omega
        have hl2 : decide ((j : Int) < 4) = true := by simp; omega
        have hl3 : decide (j < 4) = true := by simp; omega
        go_wp2
        have hsr := hb.size
        obtain ⟨wo, rfl⟩ : ∃ wo : World, wo = wr := ⟨_, rfl⟩
        go_loopw [12, 13] (fun s i wx => ∃ (q : Nat) (nx : List Pid), q ≤ N ∧ i = .int .i64 q ∧ Hid (Nxt V nx ((front.take q).flatMap (downP V (hasRu r)))) ∧ OwnP wx wo.heap.size s nx ∧ Below wo.heap.size wo wx) (fun _ i _ => N - (intOf i).toNat)
        case atStart => exact ⟨0, [], Nat.zero_le _, rfl, hid (by simpa using Nxt.nil), OwnP.nil _ _, Below.refl _ _⟩
        case round =>
          obtain ⟨q, nx, hq, rfl, hNx, hownx, hbx⟩ := hrel
          have hsx := hbx.size
          by_cases hqlt : q < N
          · have hq' : decide (q < N) = true := by simpa using hqlt
            have hqf : q < front.length := by rw [HN.out]; exact hqlt
            obtain ⟨pb, po, u, v, hab, hpx, d1, d2⟩ := (HROW.out.ext hbx).at (Below.refl _ _) rfl hqf
            subst hab
            obtain ⟨D, hD⟩ : ∃ D, downP V (hasRu r) (u, v) = D := ⟨_, rfl⟩
            obtain ⟨ND, hND⟩ : ∃ ND, D.length = ND := ⟨_, rfl⟩
            have hDl : ND ≤ 64 := by rw [← hND, ← hD]; exact downP_len hs
            have hDm : ∀ p ∈ D, p ∈ V.ms := by rw [← hD]; exact fun p hp => others_sub p hp
            have HTS : Hid ((front.take (q + 1)).flatMap (downP V (hasRu r)) = (front.take q).flatMap (downP V (hasRu r)) ++ D) := hid (by rw [take_snocP hqf hpx, List.flatMap_append]; simp [hD])
            have HD := hid hD
            have HND := hid hND
            have HDM := hid hDm
            have hbwx := hbw.trans (hbx.mono hbw.size)
            have FX := HF.out _ hbwx
            have VX := HVV.out _ hbwx
            have HS : Hid (∀ W, Below wr.heap.size wr W → Below wr.heap.size wr W ∧ W.rangeAt (w.heap.size + 1) 0 (RL r) ∧ W.cell? ⟨w.heap.size, 0, none⟩ = some (.int .u64 V.id) ∧ W.cell? ⟨w.heap.size, 1, none⟩ = some (.slice am V.ms.length cm) ∧ W.cell? ⟨w.heap.size, 2, none⟩ = some (.slice al V.ls.length cl) ∧ W.cell? ⟨w.heap.size, 3, none⟩ = some (.slice ad V.ds.length cd) ∧ W.cell? ⟨pb, po + q * 2, none⟩ = some (.int .u16 u) ∧ W.cell? ⟨pb, po + q * 2 + 1, none⟩ = some (.int .u32 v)) := hid fun W h => ⟨h, (FX.ext h).rb.range, (FX.ext h).vb.c0, (FX.ext h).vb.c1, (FX.ext h).vb.c2, (FX.ext h).vb.c3, cell_to d1 h, cell_to d2 h⟩
            have C1 : Hid (∀ W, Below wr.heap.size wr W → Calls Try.prog 57 #[.agg #[.int .u64 V.id, .slice am V.ms.length cm, .slice al V.ls.length cl, .slice ad V.ds.length cd], .agg (RL r).toArray, .agg #[.int .u16 u, .int .u32 v]] W fun e w' => ∃ a c, e = .returned (.slice a ND c) ∧ OwnP w' wr.heap.size (.slice a ND c) D ∧ Below wr.heap.size wr w') := hid fun W h => ((downRef_own HD HND (VX.ext h) hs).mono fun e w' ⟨a, c, h1, h2, h3⟩ => ⟨a, c, h1, h2.mono h.size, h.trans (h3.mono h.size)⟩)
            have H0 : Below wr.heap.size wr wr.drew := (Below.refl _ _).drew
            clear hD hND hDm d1 d2 hpx FX VX
            go_wp2_with fail
            go_region_held3 (fun W => Below wr.heap.size wr W ∧ W.rangeAt (w.heap.size + 1) 0 (RL r) ∧ W.cell? ⟨w.heap.size, 0, none⟩ = some (.int .u64 V.id) ∧ W.cell? ⟨w.heap.size, 1, none⟩ = some (.slice am V.ms.length cm) ∧ W.cell? ⟨w.heap.size, 2, none⟩ = some (.slice al V.ls.length cl) ∧ W.cell? ⟨w.heap.size, 3, none⟩ = some (.slice ad V.ds.length cd) ∧ W.cell? ⟨pb, po + q * 2, none⟩ = some (.int .u16 u) ∧ W.cell? ⟨pb, po + q * 2 + 1, none⟩ = some (.int .u32 v)) (first | exact HS.out _ H0 | exact HS.out _ (by assumption)) ((go_at_call 57; refine (C1.out _ (by first | exact H0 | assumption)).mono ?_; rintro e w15 ⟨a15, c15, rfl, hownD, hb15⟩))
            go_wp2
            have hap0 := apart_new hownD hownx
            have hbo15 := hbx.trans (hb15.mono hsx)
            obtain ⟨wi, rfl⟩ : ∃ wi : World, wi = wr := ⟨_, rfl⟩
            obtain ⟨B, hB⟩ : ∃ B, (front.take q).flatMap (downP V (hasRu r)) = B := ⟨_, rfl⟩
            rw [hB] at hNx HTS
            clear hB
            go_loopw [12, 15] (fun s i wy => ∃ (e : Nat) (nx : List Pid), e ≤ ND ∧ i = .int .i64 e ∧ Hid (Nxt V nx (B ++ D.take e)) ∧ OwnP wy wo.heap.size s nx ∧ OwnP wy wi.heap.size (.slice a15 ND c15) D ∧ Apart (.slice a15 ND c15) s ∧ Below wo.heap.size wo wy) (fun _ i _ => ND - (intOf i).toNat)
            case atStart => exact ⟨0, nx, Nat.zero_le _, rfl, hid (by simpa using hNx.out), hownx.ext hb15, hownD, hap0, hbo15⟩
            case round =>
              obtain ⟨e, ny, he, rfl, hNy, howny, hownE, hap, hby⟩ := hrel
              have hsy := hby.size
              have hio : wo.heap.size ≤ wi.heap.size := hsx
              by_cases helt : e < ND
              · have he' : decide (e < ND) = true := by simpa using helt
                have hef : e < D.length := by rw [HND.out]; exact helt
                obtain ⟨p2, q2, g, h, hab, hpx, d1, d2⟩ := (OwnP.rowOf hownE).at (Below.refl _ _) rfl hef
                subst hab
                have hgm : (g, h) ∈ V.ms := HDM.out _ (by rw [hpx]; exact List.getElem_mem _)
                have HTD : Hid (D.take (e + 1) = D.take e ++ [(g, h)]) := hid (take_snocP hef hpx)
                have hny64 := hNy.out.len hs
                obtain ⟨asl, csl, rfl, hrows, -⟩ := howny.row
                obtain ⟨NY, hNY⟩ : ∃ NY, ny.length = NY := ⟨_, rfl⟩
                rw [hNY] at hny64 howny hap ⊢
                have HNY := hid hNY
                have HAP := hid hap
                have HE := hid hownE
                have HGM := hid hgm
                clear hpx hNY hap hownE hgm
                cases hbm : decide ((g, h) ∈ ny)
                · have HBM := hid hbm
                  have hnew : Hid (Nxt V (ny ++ [(g, h)]) (B ++ D.take (e + 1))) := hid (by rw [HTD.out, ← List.append_assoc]; exact hNy.out.new (by simpa using hbm) HGM.out)
                  clear hbm
                  go_wp2_with (first
                    | (go_at_call 36; refine (hasR_n HBM HNY (by omega) hrows).mono ?_; rintro e9 w9 ⟨rfl, hb9⟩; have z0 := cell_to d1 hb9; have z1 := cell_to d2 hb9)
                    | (at_builtin; refine wpList_appendPat ((howny.ext hb9).alloc _) (PidRow.one _ g h) ?cb ?cz rfl rfl rfl rfl ?_; rotate_right; intro v4 w4 hown4 hg4 hat4))
                  case cb => have := HNY.out; omega
                  case cz => have := hb9.size; simp; omega
                  have hz9 := hb9.size
                  have hB9 := hby.trans (hb9.mono hsy)
                  have hB4 : Below wo.heap.size wo w4 := (hB9.alloc hB9.size _).grown hg4 (by simp; omega) (fun g hg => (World.ownsRow.lt howny g hg).1)
                  have hE4 := kept_r ((HE.out.ext hb9).alloc _) hg4 HAP.out
                  have hap4 := apart_r HE.out (by simp; omega) hat4 HAP.out
                  have HAT := hid hat4
                  clear hat4
                  go_roundw
                  case rel => exact ⟨e + 1, ny ++ [(g, h)], by omega, by go_num, hnew, hown4, hE4, hap4, hB4⟩
                  case measure => simp [intOf]; omega
                · have HBM := hid hbm
                  have hold : Hid (Nxt V ny (B ++ D.take (e + 1))) := hid (by rw [HTD.out, ← List.append_assoc]; exact hNy.out.old (by simpa using hbm))
                  clear hbm
                  go_wp2_with (go_at_call 36; refine (hasR_n HBM HNY (by omega) hrows).mono ?_; rintro e9 w9 ⟨rfl, hb9⟩)
                  have hz9 := hb9.size
                  go_roundw
                  case rel => exact ⟨e + 1, ny, by omega, by go_num, hold, howny.ext hb9, HE.out.ext hb9, HAP.out, hby.trans (hb9.mono hsy)⟩
                  case measure => simp [intOf]; omega
              · have he' : decide (e < ND) = false := by simpa using helt
                have hnew : Hid (Nxt V ny ((front.take (q + 1)).flatMap (downP V (hasRu r)))) := hid (by
                  rw [HTS.out]
                  have := hNy.out
                  rw [List.take_of_length_le (by rw [HND.out]; omega)] at this; exact this)
                go_wp2
                go_roundw
                case rel => exact ⟨q + 1, ny, by omega, by go_num, hnew, howny, hby⟩
                case measure => simp [intOf]; omega
          · have hq' : decide (q < N) = false := by simpa using hqlt
            have hlike : Hid (Still V (hasRu r) T (n - (j + 1)) (got ++ nx) nx) := hid (by
              have h1 := hNx.out.like
              rw [List.take_of_length_le (by rw [HN.out]; omega)] at h1
              have h2 := hST.out
              rw [show n - j = (n - (j + 1)) + 1 by omega] at h2
              exact still_step h2 h1)
            have hnx64 := hNx.out.len hs
            have HNM := hid hNx.out.sub
            obtain ⟨an, cn, rfl, hrown, hbn⟩ := hownx.row
            have hsl := hownx
            obtain ⟨NX, hNX⟩ : ∃ NX, nx.length = NX := ⟨_, rfl⟩
            rw [hNX] at hnx64 ⊢
            have HNX := hid hNX
            have HBN := hid hbn
            have hgl' := hgl.out
            clear hNX hownx hbn hsl
            go_wp2_with (at_builtin; refine wpList_appendN' (hown.ext hbx) hrown HNX (by omega) (by omega) rfl rfl rfl rfl ?_; intro v9 w9 hown9 hg9)
            have hrow9 : PidRow w9 an nx := hrown.grown hg9 (fun b off e _ e2 => by
              have := HBN.out b off e
              have := (World.ownsRow.lt hown b e2).2
              omega)
            have hB9 : Below gs w6 w9 := (hb.trans (hbx.mono (Nat.le_trans hs46 hsr))).grown hg9 (by omega) (fun g hg => (World.ownsRow.lt hown g hg).1)
            go_roundw
            case rel => exact ⟨j + 1, got ++ nx, nx, an, cn, by omega, by go_num, by rw [HNX.out], hlike, HNM, hid (by rw [HNX.out]; exact hnx64), hid (by rw [List.length_append, HNX.out]; omega), hown9, hrow9, hB9⟩
            case measure => simp [intOf]; omega
      · have hln : j = n := by omega
        obtain ⟨⟨q1, q2⟩, hq⟩ : ∃ q, maskL V.ms (0, 0) got = q := ⟨_, rfl⟩
        have HQ : Hid (maskL V.ms (0, 0) got = (m1, m2)) := hid (by
          rw [← HM2.out]
          have := hST.out
          rw [hln, Nat.sub_self] at this
          exact (still_mask this).symm)
        have hgl' := hgl.out
        obtain ⟨ag, cg, rfl, hrowg, -⟩ := hown.row
        obtain ⟨NG, hNG⟩ : ∃ NG, got.length = NG := ⟨_, rfl⟩
        rw [hNG] at hgl' ⊢
        have HNG := hid hNG
        obtain ⟨x0, x1, x2, x3⟩ := FR.vb
        have hrowo := HBX.out _ hbw
        clear hNG hq hown
        by_cases hjk : (j : Int) < k
        · have hl1 : decide ((j : Int) < k) = true := by simpa using hjk
          have hl2 : decide ((j : Int) < 4) = false := by simp; omega
          have hl3 : decide (j < 4) = false := by simp; omega
          go_wp2_with (go_at_call 66; refine (refMask_is HQ HNG (by omega) VR hrowg).mono ?_; rintro e9 w9 ⟨rfl, hb9⟩; have hbo9 := hrowo.ext hb9; obtain ⟨y0, y1, y2, y3⟩ := id hbo9)
          obtain ⟨s0, s1, s2, s3⟩ := hbo9.put (.int .u64 m1) (.int .u64 m2)
          have s4 := World.cell?_setCell_same w9 _ (.int .u64 (m1 : Int)) y0
          exact bodyPost_ret (v := .agg #[.int .u64 m1, .int .u64 m2]) (by simp [results, Try.results65, go_sem, s0, s1, s4]) rfl ⟨rfl, below_put (HB3.out.trans ((hbw.trans (hb9.mono hbw.size)).mono HB3.out.size)) (by omega) _ _⟩
        · have hl1 : decide ((j : Int) < k) = false := by simpa using hjk
          go_wp2_with (go_at_call 66; refine (refMask_is HQ HNG (by omega) VR hrowg).mono ?_; rintro e9 w9 ⟨rfl, hb9⟩; have hbo9 := hrowo.ext hb9; obtain ⟨y0, y1, y2, y3⟩ := id hbo9)
          obtain ⟨s0, s1, s2, s3⟩ := hbo9.put (.int .u64 m1) (.int .u64 m2)
          have s4 := World.cell?_setCell_same w9 _ (.int .u64 (m1 : Int)) y0
          exact bodyPost_ret (v := .agg #[.int .u64 m1, .int .u64 m2]) (by simp [results, Try.results65, go_sem, s0, s1, s4]) rfl ⟨rfl, below_put (HB3.out.trans ((hbw.trans (hb9.mono hbw.size)).mono HB3.out.size)) (by omega) _ _⟩
  · have HP : Hid ((m1, m2) = (0, 0)) := hid (by rw [← hM.out, reachM_out hmem])
    have hAn : decide (A0 < 0) = true := by simp [hmem] at hAd; simp; omega
    clear hmem hn hA0 hAd
    go_enter Try.func65, Try.ntmps65
    go_wp2_with ((go_at_call 83; refine (at83_is HA0 hlm hV3.ms).mono ?_; rintro e w4 ⟨rfl, hb4⟩; have hbo4 := hbx.ext hb4; obtain ⟨y0, y1, y2, y3⟩ := id hbo4))
    obtain ⟨s0, s1, s2, s3⟩ := hbo4.put (.int .u64 0) (.int .u64 0)
    have s4 := World.cell?_setCell_same w4 _ (.int .u64 0) y0
    exact bodyPost_ret (v := .agg #[.int .u64 0, .int .u64 0]) (by simp [results, Try.results65, go_sem, s0, s1, s4]) rfl ⟨by obtain ⟨e1, e2⟩ := Prod.mk.inj HP.out; rw [e1, e2]; rfl, below_put (HB3.out.trans (hb4.mono HB3.out.size)) (by omega) _ _⟩
end Go.Proofs.Ytjjahefedpfnaaa
