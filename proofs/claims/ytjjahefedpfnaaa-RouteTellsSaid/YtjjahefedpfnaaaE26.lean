import Derived.Test.YtjjahefedpfnaaaE25
namespace Go.Proofs.Ytjjahefedpfnaaa
open Go.RowKit
theorem peersRef_is {V : View} {am al ad : Option Addr} {cm cl cd : Nat} {x y : Int} {w : World} {D : List Pid} {N : Nat} (h : Hid (peersP V (x, y) = D)) (hn : Hid (D.length = N)) (hV : ViewR w am al ad V) (hs : Small V) :
    Calls Try.prog 61 #[viewV V am al ad cm cl cd, .agg #[.int .u16 x, .int .u32 y]] w fun e w' => ∃ a c, e = .returned (.slice a N c) ∧ PidRow w' a D ∧ Below w.heap.size w w' := by
  refine (peersRef_any V am al ad cm cl cd x y w hV hs).mono ?_
  rintro e w' ⟨v, rfl, hown, hb⟩
  obtain ⟨a, c, rfl, hrow, -⟩ := hown.row
  rw [h.out, hn.out] at *
  rw [h.out] at hrow
  exact ⟨a, c, rfl, hrow, hb⟩

set_option maxRecDepth 100000 in
set_option maxHeartbeats 12800000 in
theorem beatsRef_any (r : Nat → Int) (V : View) (am al ad : Option Addr) (cm cl cd : Nat) (x y : Int) (w : World) (hV : ViewR w am al ad V) (hs : Small V) :
    Calls Try.prog 59 #[viewV V am al ad cm cl cd, .agg (RL r).toArray, .agg #[.int .u16 x, .int .u32 y]] w fun e w' => ∃ v, e = .returned v ∧ OwnP w' w.heap.size v (beatsP V (hasRu r) (x, y)) ∧ Below w.heap.size w w' := by
  have hf := hs.fine
  have hB3 : Below w.heap.size w (((w.alloc (.cells (vcells V am al ad cm cl cd) 68)).alloc (.cells (RL r).toArray 70)).alloc (.cells #[.int .u16 x, .int .u32 y] 32)) := (((Below.refl _ _).alloc (Nat.le_refl _) _).alloc (by simp) _).alloc (by simp; omega) _
  have F3 := Frm.made w V am al ad cm cl cd r x y
  have hV3 := hV.ext hB3
  have hlm := hs.ms
  have hld := hs.ds
  obtain ⟨w3, hw3⟩ : ∃ w3, (((w.alloc (.cells (vcells V am al ad cm cl cd) 68)).alloc (.cells (RL r).toArray 70)).alloc (.cells #[.int .u16 x, .int .u32 y] 32)) = w3 := ⟨_, rfl⟩
  rw [hw3] at hB3 F3 hV3
  have hR3 := F3.rb
  obtain ⟨a30, a31, a32, a33⟩ := F3.vb
  have c30 := F3.c0
  have c31 := F3.c1
  obtain ⟨DD, hDD⟩ : ∃ DD, beatsP V (hasRu r) (x, y) = DD := ⟨_, rfl⟩
  rw [hDD]
  obtain ⟨PR, hPR⟩ : ∃ PR, peersP V (x, y) = PR := ⟨_, rfl⟩
  obtain ⟨NP, hNP⟩ : ∃ NP, PR.length = NP := ⟨_, rfl⟩
  have hPl : PR.length ≤ 70368744177664 := by rw [← hPR]; have := peers_len (V := V) (p := (x, y)); omega
  have hsp0 : Hid (beatsP V (hasRu r) (x, y) = V.ms.filter (predB V (hasRu r) (x, y))) := hid rfl
  have HPP := hid hPR
  have HNP := hid hNP
  have HDD := hid hDD
  clear hDD hPR hNP
  go_enter Try.func59, Try.ntmps59
  go_wp2_with ((go_at_call 61; refine (peersRef_is HPP HNP hV3 hs).mono ?_; rintro e w4 ⟨aP, cP, rfl, hrow4, hb4⟩))
  have F4 := F3.ext hb4
  have hV4 := hV3.ext hb4
  have hB4 := hB3.trans (hb4.mono hB3.size)
  clear a30 a31 a32 a33 c30 c31 hR3 F3 hV3 hB3 hb4 hw3
  go_loopw [8, 9] (fun s i wr => ∃ (k : Nat) (got : List Pid), k ≤ V.ms.length ∧ i = .int .i64 k ∧ got.length ≤ k ∧ Hid (DD = got ++ (V.ms.drop k).filter (predB V (hasRu r) (x, y))) ∧ OwnP wr w4.heap.size s got ∧ Below w4.heap.size w4 wr) (fun _ i _ => V.ms.length - (intOf i).toNat)
  case atStart => exact ⟨0, [], Nat.zero_le _, rfl, Nat.le_refl _, hid (HDD.out.symm.trans hsp0.out), OwnP.nil _ _, Below.refl _ _⟩
  case round =>
    obtain ⟨k, got, hk, rfl, hgl, hM, hown, hb⟩ := hrel
    have hs0 := hb.size
    have Fr := F4.ext hb
    have hVr := hV4.ext hb
    have hrowr := hrow4.ext hb
    obtain ⟨r0_, r1_, r2_, r3_⟩ := Fr.vb
    by_cases hlt : k < V.ms.length
    · have hlt' : decide (k < V.ms.length) = true := by simpa using hlt
      obtain ⟨pb, po, a, b, hab, hpx, d1, d2⟩ := hVr.ms.at (Below.refl _ _) rfl hlt
      subst hab
      have hqb : Below wr.heap.size wr (wr.alloc (.cells #[.int .u16 a, .int .u32 b] 32)) := (Below.refl _ _).alloc (Nat.le_refl _) _
      have G0 := Fr.ext hqb
      have VW0 := hVr.ext hqb
      have own0 := hown.alloc (.cells #[.int .u16 a, .int .u32 b] 32)
      have hb00 := hb.trans (hqb.mono hs0)
      have Q0 : PtrTo (wr.alloc (.cells #[.int .u16 a, .int .u32 b] 32)) wr.heap.size (.int .u16 a) (.int .u32 b) := ⟨by simp, by simp⟩
      obtain ⟨gq, hgq⟩ : ∃ gq, gq = wr.heap.size := ⟨_, rfl⟩
      rw [← hgq] at Q0
      obtain ⟨w0, hw0⟩ : ∃ w0, wr.alloc (.cells #[.int .u16 a, .int .u32 b] 32) = w0 := ⟨_, rfl⟩
      rw [hw0] at hqb G0 VW0 own0 hb00 Q0
      have he := fun w => neq_pid a b x y w
      have hR0 := G0.rb
      obtain ⟨a00, a01, a02, a03⟩ := G0.vb
      have c00 := G0.c0
      have c01 := G0.c1
      obtain ⟨q00, q01⟩ := Q0
      have rowP0 := hrowr.ext hqb
      have Q0 : PtrTo w0 gq (.int .u16 a) (.int .u32 b) := ⟨q00, q01⟩
      subst hgq
      clear hqb
      cases hq : decide ((a, b) = (x, y))
      · rw [hq] at he
        simp only [Bool.not_false] at he
        cases hip : decide ((a, b) ∈ PR)
        · cases hic : isChiefB V (hasRu r) (x, y)
          · cases hsp : speaksB V (hasRu r) (x, y)
            · have HPD := hid (pred_drop (f := (predB V (hasRu r) (x, y))) hlt hpx (b := false) (by rw [predB_eq V (hasRu r) (x, y) (a, b), HPP.out, hip, hic, hsp, hq]; first | rfl | skip))
              have HIP := hid hip
              have HIC := hid hic
              have HSP := hid hsp
              clear hpx hip hic hsp hq
              go_wp2_with fail
              (with_reducible refine (hasN_is HNP HIP hPl rowP0).mono ?_)
              rintro e wz1 ⟨rfl, hb1⟩
              have G1 := G0.ext hb1; have Q1 := PtrTo.ext Q0 hb1; have VW1 := VW0.ext hb1; have own1 := own0.ext hb1; have hb01 := hb00.trans (hb1.mono hb00.size); have hR1 := G1.rb; obtain ⟨a10, a11, a12, a13⟩ := G1.vb; have c10 := G1.c0; have c11 := G1.c1; obtain ⟨q10, q11⟩ := id Q1; have rowP1 := rowP0.ext hb1
              go_wp2_with (refine wpList_loadRw (by assumption) (by rfl) rfl rfl ?_)
              (with_reducible refine (isChiefRef_is HIC VW1 hf).mono ?_)
              rintro e wz2 ⟨rfl, hb2⟩
              have G2 := G1.ext hb2; have Q2 := PtrTo.ext Q1 hb2; have VW2 := VW1.ext hb2; have own2 := own1.ext hb2; have hb02 := hb01.trans (hb2.mono hb01.size); have hR2 := G2.rb; obtain ⟨a20, a21, a22, a23⟩ := G2.vb; have c20 := G2.c0; have c21 := G2.c1; obtain ⟨q20, q21⟩ := id Q2; have rowP2 := rowP1.ext hb2
              go_wp2_with (refine wpList_loadRw (by assumption) (by rfl) rfl rfl ?_)
              (with_reducible refine (speaksRef_is HSP VW2 hf).mono ?_)
              rintro e wz3 ⟨rfl, hb3⟩
              have G3 := G2.ext hb3; have Q3 := PtrTo.ext Q2 hb3; have VW3 := VW2.ext hb3; have own3 := own2.ext hb3; have hb03 := hb02.trans (hb3.mono hb02.size); have hR3 := G3.rb; obtain ⟨a30, a31, a32, a33⟩ := G3.vb; have c30 := G3.c0; have c31 := G3.c1; obtain ⟨q30, q31⟩ := id Q3; have rowP3 := rowP2.ext hb3
              go_wp2
              go_roundw
              case rel => exact ⟨k + 1, got, by omega, by go_num, by omega, hid (hM.out.trans (by rw [HPD.out]; simp)), own3, hb03⟩
              case measure => simp [intOf]; omega
            · cases hlq : decide ((a, b) ∈ V.ds)
              · have HPD := hid (pred_drop (f := (predB V (hasRu r) (x, y))) hlt hpx (b := false) (by rw [predB_eq V (hasRu r) (x, y) (a, b), HPP.out, hip, hic, hsp, hlq, hq]; first | rfl | skip))
                have HIP := hid hip
                have HIC := hid hic
                have HSP := hid hsp
                have HLQ := hid hlq
                clear hpx hip hic hsp hlq hq
                go_wp2_with fail
                (with_reducible refine (hasN_is HNP HIP hPl rowP0).mono ?_)
                rintro e wz1 ⟨rfl, hb1⟩
                have G1 := G0.ext hb1; have Q1 := PtrTo.ext Q0 hb1; have VW1 := VW0.ext hb1; have own1 := own0.ext hb1; have hb01 := hb00.trans (hb1.mono hb00.size); have hR1 := G1.rb; obtain ⟨a10, a11, a12, a13⟩ := G1.vb; have c10 := G1.c0; have c11 := G1.c1; obtain ⟨q10, q11⟩ := id Q1; have rowP1 := rowP0.ext hb1
                go_wp2_with (refine wpList_loadRw (by assumption) (by rfl) rfl rfl ?_)
                (with_reducible refine (isChiefRef_is HIC VW1 hf).mono ?_)
                rintro e wz2 ⟨rfl, hb2⟩
                have G2 := G1.ext hb2; have Q2 := PtrTo.ext Q1 hb2; have VW2 := VW1.ext hb2; have own2 := own1.ext hb2; have hb02 := hb01.trans (hb2.mono hb01.size); have hR2 := G2.rb; obtain ⟨a20, a21, a22, a23⟩ := G2.vb; have c20 := G2.c0; have c21 := G2.c1; obtain ⟨q20, q21⟩ := id Q2; have rowP2 := rowP1.ext hb2
                go_wp2_with (refine wpList_loadRw (by assumption) (by rfl) rfl rfl ?_)
                (with_reducible refine (speaksRef_is HSP VW2 hf).mono ?_)
                rintro e wz3 ⟨rfl, hb3⟩
                have G3 := G2.ext hb3; have Q3 := PtrTo.ext Q2 hb3; have VW3 := VW2.ext hb3; have own3 := own2.ext hb3; have hb03 := hb02.trans (hb3.mono hb02.size); have hR3 := G3.rb; obtain ⟨a30, a31, a32, a33⟩ := G3.vb; have c30 := G3.c0; have c31 := G3.c1; obtain ⟨q30, q31⟩ := id Q3; have rowP3 := rowP2.ext hb3
                go_wp2_with fail
                (with_reducible refine (leadsR_is HLQ VW3 hf).mono ?_)
                rintro e wz4 ⟨rfl, hb4⟩
                have G4 := G3.ext hb4; have Q4 := PtrTo.ext Q3 hb4; have VW4 := VW3.ext hb4; have own4 := own3.ext hb4; have hb04 := hb03.trans (hb4.mono hb03.size); have hR4 := G4.rb; obtain ⟨a40, a41, a42, a43⟩ := G4.vb; have c40 := G4.c0; have c41 := G4.c1; obtain ⟨q40, q41⟩ := id Q4; have rowP4 := rowP3.ext hb4
                go_wp2
                go_roundw
                case rel => exact ⟨k + 1, got, by omega, by go_num, by omega, hid (hM.out.trans (by rw [HPD.out]; simp)), own4, hb04⟩
                case measure => simp [intOf]; omega
              · have HPD := hid (pred_drop (f := (predB V (hasRu r) (x, y))) hlt hpx (b := true) (by rw [predB_eq V (hasRu r) (x, y) (a, b), HPP.out, hip, hic, hsp, hlq, hq]; first | rfl | skip))
                have HIP := hid hip
                have HIC := hid hic
                have HSP := hid hsp
                have HLQ := hid hlq
                clear hpx hip hic hsp hlq hq
                go_wp2_with fail
                (with_reducible refine (hasN_is HNP HIP hPl rowP0).mono ?_)
                rintro e wz1 ⟨rfl, hb1⟩
                have G1 := G0.ext hb1; have Q1 := PtrTo.ext Q0 hb1; have VW1 := VW0.ext hb1; have own1 := own0.ext hb1; have hb01 := hb00.trans (hb1.mono hb00.size); have hR1 := G1.rb; obtain ⟨a10, a11, a12, a13⟩ := G1.vb; have c10 := G1.c0; have c11 := G1.c1; obtain ⟨q10, q11⟩ := id Q1; have rowP1 := rowP0.ext hb1
                go_wp2_with (refine wpList_loadRw (by assumption) (by rfl) rfl rfl ?_)
                (with_reducible refine (isChiefRef_is HIC VW1 hf).mono ?_)
                rintro e wz2 ⟨rfl, hb2⟩
                have G2 := G1.ext hb2; have Q2 := PtrTo.ext Q1 hb2; have VW2 := VW1.ext hb2; have own2 := own1.ext hb2; have hb02 := hb01.trans (hb2.mono hb01.size); have hR2 := G2.rb; obtain ⟨a20, a21, a22, a23⟩ := G2.vb; have c20 := G2.c0; have c21 := G2.c1; obtain ⟨q20, q21⟩ := id Q2; have rowP2 := rowP1.ext hb2
                go_wp2_with (refine wpList_loadRw (by assumption) (by rfl) rfl rfl ?_)
                (with_reducible refine (speaksRef_is HSP VW2 hf).mono ?_)
                rintro e wz3 ⟨rfl, hb3⟩
                have G3 := G2.ext hb3; have Q3 := PtrTo.ext Q2 hb3; have VW3 := VW2.ext hb3; have own3 := own2.ext hb3; have hb03 := hb02.trans (hb3.mono hb02.size); have hR3 := G3.rb; obtain ⟨a30, a31, a32, a33⟩ := G3.vb; have c30 := G3.c0; have c31 := G3.c1; obtain ⟨q30, q31⟩ := id Q3; have rowP3 := rowP2.ext hb3
                go_wp2_with fail
                (with_reducible refine (leadsR_is HLQ VW3 hf).mono ?_)
                rintro e wz4 ⟨rfl, hb4⟩
                have G4 := G3.ext hb4; have Q4 := PtrTo.ext Q3 hb4; have VW4 := VW3.ext hb4; have own4 := own3.ext hb4; have hb04 := hb03.trans (hb4.mono hb03.size); have hR4 := G4.rb; obtain ⟨a40, a41, a42, a43⟩ := G4.vb; have c40 := G4.c0; have c41 := G4.c1; obtain ⟨q40, q41⟩ := id Q4; have rowP4 := rowP3.ext hb4
                go_wp2_with ((at_builtin; refine wpList_appendP (own4.alloc _) (PidRow.one _ a b) (by simp; omega) (by have := hb04.size; simp; omega) rfl rfl rfl rfl ?_; intro v9 w9 hown9 hg9 hnil9))
                have hB9 : Below w4.heap.size w4 w9 := (hb04.alloc hb04.size _).grown hg9 (by have := hb04.size; simp; omega) (fun g hg => (World.ownsRow.lt own4 g hg).1)
                go_roundw
                case rel => exact ⟨k + 1, got ++ [(a, b)], by omega, by go_num, by simp; omega, hid (hM.out.trans (by rw [HPD.out]; simp)), hown9, hB9⟩
                case measure => simp [intOf]; omega
          · cases hss : decide ((a, b) ∈ speakersP V (hasRu r))
            · cases hsp : speaksB V (hasRu r) (x, y)
              · have HPD := hid (pred_drop (f := (predB V (hasRu r) (x, y))) hlt hpx (b := false) (by rw [predB_eq V (hasRu r) (x, y) (a, b), HPP.out, hip, hic, hss, hsp, hq]; first | rfl | skip))
                have HIP := hid hip
                have HIC := hid hic
                have HSS := hid hss
                have HSP := hid hsp
                clear hpx hip hic hss hsp hq
                go_wp2_with fail
                (with_reducible refine (hasN_is HNP HIP hPl rowP0).mono ?_)
                rintro e wz1 ⟨rfl, hb1⟩
                have G1 := G0.ext hb1; have Q1 := PtrTo.ext Q0 hb1; have VW1 := VW0.ext hb1; have own1 := own0.ext hb1; have hb01 := hb00.trans (hb1.mono hb00.size); have hR1 := G1.rb; obtain ⟨a10, a11, a12, a13⟩ := G1.vb; have c10 := G1.c0; have c11 := G1.c1; obtain ⟨q10, q11⟩ := id Q1; have rowP1 := rowP0.ext hb1
                go_wp2_with (refine wpList_loadRw (by assumption) (by rfl) rfl rfl ?_)
                (with_reducible refine (isChiefRef_is HIC VW1 hf).mono ?_)
                rintro e wz2 ⟨rfl, hb2⟩
                have G2 := G1.ext hb2; have Q2 := PtrTo.ext Q1 hb2; have VW2 := VW1.ext hb2; have own2 := own1.ext hb2; have hb02 := hb01.trans (hb2.mono hb01.size); have hR2 := G2.rb; obtain ⟨a20, a21, a22, a23⟩ := G2.vb; have c20 := G2.c0; have c21 := G2.c1; obtain ⟨q20, q21⟩ := id Q2; have rowP2 := rowP1.ext hb2
                go_wp2_with (refine wpList_loadRw (by assumption) (by rfl) rfl rfl ?_)
                (with_reducible refine (speaksSome_is HSS VW2 hf).mono ?_)
                rintro e wz3 ⟨rfl, hb3⟩
                have G3 := G2.ext hb3; have Q3 := PtrTo.ext Q2 hb3; have VW3 := VW2.ext hb3; have own3 := own2.ext hb3; have hb03 := hb02.trans (hb3.mono hb02.size); have hR3 := G3.rb; obtain ⟨a30, a31, a32, a33⟩ := G3.vb; have c30 := G3.c0; have c31 := G3.c1; obtain ⟨q30, q31⟩ := id Q3; have rowP3 := rowP2.ext hb3
                go_wp2_with (refine wpList_loadRw (by assumption) (by rfl) rfl rfl ?_)
                (with_reducible refine (speaksRef_is HSP VW3 hf).mono ?_)
                rintro e wz4 ⟨rfl, hb4⟩
                have G4 := G3.ext hb4; have Q4 := PtrTo.ext Q3 hb4; have VW4 := VW3.ext hb4; have own4 := own3.ext hb4; have hb04 := hb03.trans (hb4.mono hb03.size); have hR4 := G4.rb; obtain ⟨a40, a41, a42, a43⟩ := G4.vb; have c40 := G4.c0; have c41 := G4.c1; obtain ⟨q40, q41⟩ := id Q4; have rowP4 := rowP3.ext hb4
                go_wp2
                go_roundw
                case rel => exact ⟨k + 1, got, by omega, by go_num, by omega, hid (hM.out.trans (by rw [HPD.out]; simp)), own4, hb04⟩
                case measure => simp [intOf]; omega
              · cases hlq : decide ((a, b) ∈ V.ds)
                · have HPD := hid (pred_drop (f := (predB V (hasRu r) (x, y))) hlt hpx (b := false) (by rw [predB_eq V (hasRu r) (x, y) (a, b), HPP.out, hip, hic, hss, hsp, hlq, hq]; first | rfl | skip))
                  have HIP := hid hip
                  have HIC := hid hic
                  have HSS := hid hss
                  have HSP := hid hsp
                  have HLQ := hid hlq
                  clear hpx hip hic hss hsp hlq hq
                  go_wp2_with fail
                  (with_reducible refine (hasN_is HNP HIP hPl rowP0).mono ?_)
                  rintro e wz1 ⟨rfl, hb1⟩
                  have G1 := G0.ext hb1; have Q1 := PtrTo.ext Q0 hb1; have VW1 := VW0.ext hb1; have own1 := own0.ext hb1; have hb01 := hb00.trans (hb1.mono hb00.size); have hR1 := G1.rb; obtain ⟨a10, a11, a12, a13⟩ := G1.vb; have c10 := G1.c0; have c11 := G1.c1; obtain ⟨q10, q11⟩ := id Q1; have rowP1 := rowP0.ext hb1
                  go_wp2_with (refine wpList_loadRw (by assumption) (by rfl) rfl rfl ?_)
                  (with_reducible refine (isChiefRef_is HIC VW1 hf).mono ?_)
                  rintro e wz2 ⟨rfl, hb2⟩
                  have G2 := G1.ext hb2; have Q2 := PtrTo.ext Q1 hb2; have VW2 := VW1.ext hb2; have own2 := own1.ext hb2; have hb02 := hb01.trans (hb2.mono hb01.size); have hR2 := G2.rb; obtain ⟨a20, a21, a22, a23⟩ := G2.vb; have c20 := G2.c0; have c21 := G2.c1; obtain ⟨q20, q21⟩ := id Q2; have rowP2 := rowP1.ext hb2
                  go_wp2_with (refine wpList_loadRw (by assumption) (by rfl) rfl rfl ?_)
                  (with_reducible refine (speaksSome_is HSS VW2 hf).mono ?_)
                  rintro e wz3 ⟨rfl, hb3⟩
                  have G3 := G2.ext hb3; have Q3 := PtrTo.ext Q2 hb3; have VW3 := VW2.ext hb3; have own3 := own2.ext hb3; have hb03 := hb02.trans (hb3.mono hb02.size); have hR3 := G3.rb; obtain ⟨a30, a31, a32, a33⟩ := G3.vb; have c30 := G3.c0; have c31 := G3.c1; obtain ⟨q30, q31⟩ := id Q3; have rowP3 := rowP2.ext hb3
                  go_wp2_with (refine wpList_loadRw (by assumption) (by rfl) rfl rfl ?_)
                  (with_reducible refine (speaksRef_is HSP VW3 hf).mono ?_)
                  rintro e wz4 ⟨rfl, hb4⟩
                  have G4 := G3.ext hb4; have Q4 := PtrTo.ext Q3 hb4; have VW4 := VW3.ext hb4; have own4 := own3.ext hb4; have hb04 := hb03.trans (hb4.mono hb03.size); have hR4 := G4.rb; obtain ⟨a40, a41, a42, a43⟩ := G4.vb; have c40 := G4.c0; have c41 := G4.c1; obtain ⟨q40, q41⟩ := id Q4; have rowP4 := rowP3.ext hb4
                  go_wp2_with fail
                  (with_reducible refine (leadsR_is HLQ VW4 hf).mono ?_)
                  rintro e wz5 ⟨rfl, hb5⟩
                  have G5 := G4.ext hb5; have Q5 := PtrTo.ext Q4 hb5; have VW5 := VW4.ext hb5; have own5 := own4.ext hb5; have hb05 := hb04.trans (hb5.mono hb04.size); have hR5 := G5.rb; obtain ⟨a50, a51, a52, a53⟩ := G5.vb; have c50 := G5.c0; have c51 := G5.c1; obtain ⟨q50, q51⟩ := id Q5; have rowP5 := rowP4.ext hb5
                  go_wp2
                  go_roundw
                  case rel => exact ⟨k + 1, got, by omega, by go_num, by omega, hid (hM.out.trans (by rw [HPD.out]; simp)), own5, hb05⟩
                  case measure => simp [intOf]; omega
                · have HPD := hid (pred_drop (f := (predB V (hasRu r) (x, y))) hlt hpx (b := true) (by rw [predB_eq V (hasRu r) (x, y) (a, b), HPP.out, hip, hic, hss, hsp, hlq, hq]; first | rfl | skip))
                  have HIP := hid hip
                  have HIC := hid hic
                  have HSS := hid hss
                  have HSP := hid hsp
                  have HLQ := hid hlq
                  clear hpx hip hic hss hsp hlq hq
                  go_wp2_with fail
                  (with_reducible refine (hasN_is HNP HIP hPl rowP0).mono ?_)
                  rintro e wz1 ⟨rfl, hb1⟩
                  have G1 := G0.ext hb1; have Q1 := PtrTo.ext Q0 hb1; have VW1 := VW0.ext hb1; have own1 := own0.ext hb1; have hb01 := hb00.trans (hb1.mono hb00.size); have hR1 := G1.rb; obtain ⟨a10, a11, a12, a13⟩ := G1.vb; have c10 := G1.c0; have c11 := G1.c1; obtain ⟨q10, q11⟩ := id Q1; have rowP1 := rowP0.ext hb1
                  go_wp2_with (refine wpList_loadRw (by assumption) (by rfl) rfl rfl ?_)
                  (with_reducible refine (isChiefRef_is HIC VW1 hf).mono ?_)
                  rintro e wz2 ⟨rfl, hb2⟩
                  have G2 := G1.ext hb2; have Q2 := PtrTo.ext Q1 hb2; have VW2 := VW1.ext hb2; have own2 := own1.ext hb2; have hb02 := hb01.trans (hb2.mono hb01.size); have hR2 := G2.rb; obtain ⟨a20, a21, a22, a23⟩ := G2.vb; have c20 := G2.c0; have c21 := G2.c1; obtain ⟨q20, q21⟩ := id Q2; have rowP2 := rowP1.ext hb2
                  go_wp2_with (refine wpList_loadRw (by assumption) (by rfl) rfl rfl ?_)
                  (with_reducible refine (speaksSome_is HSS VW2 hf).mono ?_)
                  rintro e wz3 ⟨rfl, hb3⟩
                  have G3 := G2.ext hb3; have Q3 := PtrTo.ext Q2 hb3; have VW3 := VW2.ext hb3; have own3 := own2.ext hb3; have hb03 := hb02.trans (hb3.mono hb02.size); have hR3 := G3.rb; obtain ⟨a30, a31, a32, a33⟩ := G3.vb; have c30 := G3.c0; have c31 := G3.c1; obtain ⟨q30, q31⟩ := id Q3; have rowP3 := rowP2.ext hb3
                  go_wp2_with (refine wpList_loadRw (by assumption) (by rfl) rfl rfl ?_)
                  (with_reducible refine (speaksRef_is HSP VW3 hf).mono ?_)
                  rintro e wz4 ⟨rfl, hb4⟩
                  have G4 := G3.ext hb4; have Q4 := PtrTo.ext Q3 hb4; have VW4 := VW3.ext hb4; have own4 := own3.ext hb4; have hb04 := hb03.trans (hb4.mono hb03.size); have hR4 := G4.rb; obtain ⟨a40, a41, a42, a43⟩ := G4.vb; have c40 := G4.c0; have c41 := G4.c1; obtain ⟨q40, q41⟩ := id Q4; have rowP4 := rowP3.ext hb4
                  go_wp2_with fail
                  (with_reducible refine (leadsR_is HLQ VW4 hf).mono ?_)
                  rintro e wz5 ⟨rfl, hb5⟩
                  have G5 := G4.ext hb5; have Q5 := PtrTo.ext Q4 hb5; have VW5 := VW4.ext hb5; have own5 := own4.ext hb5; have hb05 := hb04.trans (hb5.mono hb04.size); have hR5 := G5.rb; obtain ⟨a50, a51, a52, a53⟩ := G5.vb; have c50 := G5.c0; have c51 := G5.c1; obtain ⟨q50, q51⟩ := id Q5; have rowP5 := rowP4.ext hb5
                  go_wp2_with ((at_builtin; refine wpList_appendP (own5.alloc _) (PidRow.one _ a b) (by simp; omega) (by have := hb05.size; simp; omega) rfl rfl rfl rfl ?_; intro v9 w9 hown9 hg9 hnil9))
                  have hB9 : Below w4.heap.size w4 w9 := (hb05.alloc hb05.size _).grown hg9 (by have := hb05.size; simp; omega) (fun g hg => (World.ownsRow.lt own5 g hg).1)
                  go_roundw
                  case rel => exact ⟨k + 1, got ++ [(a, b)], by omega, by go_num, by simp; omega, hid (hM.out.trans (by rw [HPD.out]; simp)), hown9, hB9⟩
                  case measure => simp [intOf]; omega
            · have HPD := hid (pred_drop (f := (predB V (hasRu r) (x, y))) hlt hpx (b := true) (by rw [predB_eq V (hasRu r) (x, y) (a, b), HPP.out, hip, hic, hss, hq]; first | rfl | skip))
              have HIP := hid hip
              have HIC := hid hic
              have HSS := hid hss
              clear hpx hip hic hss hq
              go_wp2_with fail
              (with_reducible refine (hasN_is HNP HIP hPl rowP0).mono ?_)
              rintro e wz1 ⟨rfl, hb1⟩
              have G1 := G0.ext hb1; have Q1 := PtrTo.ext Q0 hb1; have VW1 := VW0.ext hb1; have own1 := own0.ext hb1; have hb01 := hb00.trans (hb1.mono hb00.size); have hR1 := G1.rb; obtain ⟨a10, a11, a12, a13⟩ := G1.vb; have c10 := G1.c0; have c11 := G1.c1; obtain ⟨q10, q11⟩ := id Q1; have rowP1 := rowP0.ext hb1
              go_wp2_with (refine wpList_loadRw (by assumption) (by rfl) rfl rfl ?_)
              (with_reducible refine (isChiefRef_is HIC VW1 hf).mono ?_)
              rintro e wz2 ⟨rfl, hb2⟩
              have G2 := G1.ext hb2; have Q2 := PtrTo.ext Q1 hb2; have VW2 := VW1.ext hb2; have own2 := own1.ext hb2; have hb02 := hb01.trans (hb2.mono hb01.size); have hR2 := G2.rb; obtain ⟨a20, a21, a22, a23⟩ := G2.vb; have c20 := G2.c0; have c21 := G2.c1; obtain ⟨q20, q21⟩ := id Q2; have rowP2 := rowP1.ext hb2
              go_wp2_with (refine wpList_loadRw (by assumption) (by rfl) rfl rfl ?_)
              (with_reducible refine (speaksSome_is HSS VW2 hf).mono ?_)
              rintro e wz3 ⟨rfl, hb3⟩
              have G3 := G2.ext hb3; have Q3 := PtrTo.ext Q2 hb3; have VW3 := VW2.ext hb3; have own3 := own2.ext hb3; have hb03 := hb02.trans (hb3.mono hb02.size); have hR3 := G3.rb; obtain ⟨a30, a31, a32, a33⟩ := G3.vb; have c30 := G3.c0; have c31 := G3.c1; obtain ⟨q30, q31⟩ := id Q3; have rowP3 := rowP2.ext hb3
              go_wp2_with ((at_builtin; refine wpList_appendP (own3.alloc _) (PidRow.one _ a b) (by simp; omega) (by have := hb03.size; simp; omega) rfl rfl rfl rfl ?_; intro v9 w9 hown9 hg9 hnil9))
              have hB9 : Below w4.heap.size w4 w9 := (hb03.alloc hb03.size _).grown hg9 (by have := hb03.size; simp; omega) (fun g hg => (World.ownsRow.lt own3 g hg).1)
              go_roundw
              case rel => exact ⟨k + 1, got ++ [(a, b)], by omega, by go_num, by simp; omega, hid (hM.out.trans (by rw [HPD.out]; simp)), hown9, hB9⟩
              case measure => simp [intOf]; omega
        · have HPD := hid (pred_drop (f := (predB V (hasRu r) (x, y))) hlt hpx (b := true) (by rw [predB_eq V (hasRu r) (x, y) (a, b), HPP.out, hip, hq]; first | rfl | skip))
          have HIP := hid hip
          clear hpx hip hq
          go_wp2_with fail
          (with_reducible refine (hasN_is HNP HIP hPl rowP0).mono ?_)
          rintro e wz1 ⟨rfl, hb1⟩
          have G1 := G0.ext hb1; have Q1 := PtrTo.ext Q0 hb1; have VW1 := VW0.ext hb1; have own1 := own0.ext hb1; have hb01 := hb00.trans (hb1.mono hb00.size); have hR1 := G1.rb; obtain ⟨a10, a11, a12, a13⟩ := G1.vb; have c10 := G1.c0; have c11 := G1.c1; obtain ⟨q10, q11⟩ := id Q1; have rowP1 := rowP0.ext hb1
          go_wp2_with ((at_builtin; refine wpList_appendP (own1.alloc _) (PidRow.one _ a b) (by simp; omega) (by have := hb01.size; simp; omega) rfl rfl rfl rfl ?_; intro v9 w9 hown9 hg9 hnil9))
          have hB9 : Below w4.heap.size w4 w9 := (hb01.alloc hb01.size _).grown hg9 (by have := hb01.size; simp; omega) (fun g hg => (World.ownsRow.lt own1 g hg).1)
          go_roundw
          case rel => exact ⟨k + 1, got ++ [(a, b)], by omega, by go_num, by simp; omega, hid (hM.out.trans (by rw [HPD.out]; simp)), hown9, hB9⟩
          case measure => simp [intOf]; omega
      · rw [hq] at he
        simp only [Bool.not_true] at he
        have HPD := hid (pred_drop (f := (predB V (hasRu r) (x, y))) hlt hpx (b := false) (by rw [predB_eq V (hasRu r) (x, y) (a, b), hq, Bool.not_true, Bool.and_false]; first | rfl | skip))
        clear hpx hq
        go_wp2
        go_roundw
        case rel => exact ⟨k + 1, got, by omega, by go_num, by omega, hid (hM.out.trans (by rw [HPD.out]; simp)), own0, hb00⟩
        case measure => simp [intOf]; omega
    · have hlt' : decide (k < V.ms.length) = false := by simpa using hlt
      have hend : Hid (DD = got) := hid (by rw [hM.out, List.drop_eq_nil_of_le (by omega)]; simp)
      go_wp2
      go_ret
      exact ⟨_, rfl, by rw [hend.out]; exact hown.mono hB4.size, hB4.trans (hb.mono hB4.size)⟩
end Go.Proofs.Ytjjahefedpfnaaa
