import Derived.Test.YtjjahefedpfnaaaE24
namespace Go.Proofs.Ytjjahefedpfnaaa
open Go.RowKit

set_option maxRecDepth 100000 in
set_option maxHeartbeats 12800000 in
theorem peersRef_any (V : View) (am al ad : Option Addr) (cm cl cd : Nat) (x y : Int) (w : World) (hV : ViewR w am al ad V) (hs : Small V) :
    Calls Try.prog 61 #[viewV V am al ad cm cl cd, .agg #[.int .u16 x, .int .u32 y]] w fun e w' => ∃ v, e = .returned v ∧ OwnP w' w.heap.size v (peersP V (x, y)) ∧ Below w.heap.size w w' := by
  have hf := hs.fine
  have hB3 : Below w.heap.size w ((w.alloc (.cells (vcells V am al ad cm cl cd) 68)).alloc (.cells #[.int .u16 x, .int .u32 y] 32)) := ((Below.refl _ _).alloc (Nat.le_refl _) _).alloc (by simp) _
  have F3 := Frv.made w V am al ad cm cl cd x y
  have hV3 := hV.ext hB3
  have hlm := hs.ms
  have hld := hs.ds
  obtain ⟨w3, hw3⟩ : ∃ w3, ((w.alloc (.cells (vcells V am al ad cm cl cd) 68)).alloc (.cells #[.int .u16 x, .int .u32 y] 32)) = w3 := ⟨_, rfl⟩
  rw [hw3] at hB3 F3 hV3
  have c30 := F3.c0
  have c31 := F3.c1
  obtain ⟨DD, hDD⟩ : ∃ DD, peersP V (x, y) = DD := ⟨_, rfl⟩
  rw [hDD]
  have HDD := hid hDD
  clear hDD
  by_cases hmem : (x, y) ∈ V.ms
  · have hsp0 : Hid (peersP V (x, y) = V.ms.filter (predP V (x, y))) := hid (by unfold peersP; rw [if_pos hmem]; rfl)
    have HMB : Hid (decide ((x, y) ∈ V.ms) = true) := hid (by simpa using hmem)
    clear hmem
    go_enter Try.func61, Try.ntmps61
    go_wp2
    clear hw3
    go_loopw [5, 6] (fun s i wr => ∃ (k : Nat) (got : List Pid), k ≤ V.ms.length ∧ i = .int .i64 k ∧ got.length ≤ k ∧ Hid (DD = got ++ (V.ms.drop k).filter (predP V (x, y))) ∧ OwnP wr w3.heap.size s got ∧ Below w3.heap.size w3 wr) (fun _ i _ => V.ms.length - (intOf i).toNat)
    case atStart => exact ⟨0, [], Nat.zero_le _, rfl, Nat.le_refl _, hid (HDD.out.symm.trans hsp0.out), OwnP.nil _ _, Below.refl _ _⟩
    case round =>
      obtain ⟨k, got, hk, rfl, hgl, hM, hown, hb⟩ := hrel
      have hs0 := hb.size
      have Fr := F3.ext hb
      have hVr := hV3.ext hb
      have cr0 := Fr.c0
      have cr1 := Fr.c1
      obtain ⟨r0_, r1_, r2_, r3_⟩ := Fr.vb
      by_cases hlt : k < V.ms.length
      · have hlt' : decide (k < V.ms.length) = true := by simpa using hlt
        obtain ⟨pb, po, a, b, hab, hpx, d1, d2⟩ := hVr.ms.at (Below.refl _ _) rfl hlt
        subst hab
        go_wp2_with fail
        (with_reducible refine (hasR_is HMB (by omega) hVr.ms).mono ?_)
        rintro e wh ⟨rfl, hbh⟩
        have Gh := Fr.ext hbh
        have VWh := hVr.ext hbh
        have ownh := hown.ext hbh
        have hbwh := hb.trans (hbh.mono hs0)
        obtain ⟨ah0, ah1, ah2, ah3⟩ := Gh.vb
        have dh1 := cell_to d1 hbh
        have dh2 := cell_to d2 hbh
        have hqb : Below wh.heap.size wh (wh.alloc (.cells #[.int .u16 a, .int .u32 b] 32)) := (Below.refl _ _).alloc (Nat.le_refl _) _
        have G0 := Gh.ext hqb
        have VW0 := VWh.ext hqb
        have own0 := ownh.alloc (.cells #[.int .u16 a, .int .u32 b] 32)
        have hb00 := hbwh.trans (hqb.mono hbwh.size)
        have Q0 : PtrTo (wh.alloc (.cells #[.int .u16 a, .int .u32 b] 32)) wh.heap.size (.int .u16 a) (.int .u32 b) := ⟨by simp, by simp⟩
        obtain ⟨gq, hgq⟩ : ∃ gq, gq = wh.heap.size := ⟨_, rfl⟩
        rw [← hgq] at Q0
        obtain ⟨w0, hw0⟩ : ∃ w0, wh.alloc (.cells #[.int .u16 a, .int .u32 b] 32) = w0 := ⟨_, rfl⟩
        rw [hw0] at hqb G0 VW0 own0 hb00 Q0
        have he := fun w => neq_pid a b x y w
        obtain ⟨a00, a01, a02, a03⟩ := G0.vb
        have c00 := G0.c0
        have c01 := G0.c1
        obtain ⟨q00, q01⟩ := Q0
        have Q0 : PtrTo w0 gq (.int .u16 a) (.int .u32 b) := ⟨q00, q01⟩
        subst hgq
        clear hqb
        cases hq : decide ((a, b) = (x, y))
        · rw [hq] at he
          simp only [Bool.not_false] at he
          cases hsh : decide ((a, b) ∈ leafP V (x, y))
          · cases hlp : decide ((x, y) ∈ V.ds)
            · have HPD := hid (pred_drop (f := (predP V (x, y))) hlt hpx (b := false) (by rw [predP_eq V (x, y) (a, b), hsh, hlp, hq]; first | rfl | skip))
              have HSH := hid hsh
              have HLP := hid hlp
              clear hpx hsh hlp hq
              go_wp2_with fail
              (with_reducible refine (shares_is HSH VW0 hf).mono ?_)
              rintro e wz1 ⟨rfl, hb1⟩
              have G1 := G0.ext hb1; have Q1 := PtrTo.ext Q0 hb1; have VW1 := VW0.ext hb1; have own1 := own0.ext hb1; have hb01 := hb00.trans (hb1.mono hb00.size); obtain ⟨a10, a11, a12, a13⟩ := G1.vb; have c10 := G1.c0; have c11 := G1.c1; obtain ⟨q10, q11⟩ := id Q1
              go_wp2_with fail
              (with_reducible refine (leadsR_is HLP VW1 hf).mono ?_)
              rintro e wz2 ⟨rfl, hb2⟩
              have G2 := G1.ext hb2; have Q2 := PtrTo.ext Q1 hb2; have VW2 := VW1.ext hb2; have own2 := own1.ext hb2; have hb02 := hb01.trans (hb2.mono hb01.size); obtain ⟨a20, a21, a22, a23⟩ := G2.vb; have c20 := G2.c0; have c21 := G2.c1; obtain ⟨q20, q21⟩ := id Q2
              go_wp2
              go_roundw
              case rel => exact ⟨k + 1, got, by omega, by go_num, by omega, hid (hM.out.trans (by rw [HPD.out]; simp)), own2, hb02⟩
              case measure => simp [intOf]; omega
            · cases hlq : decide ((a, b) ∈ V.ds)
              · have HPD := hid (pred_drop (f := (predP V (x, y))) hlt hpx (b := false) (by rw [predP_eq V (x, y) (a, b), hsh, hlp, hlq, hq]; first | rfl | skip))
                have HSH := hid hsh
                have HLP := hid hlp
                have HLQ := hid hlq
                clear hpx hsh hlp hlq hq
                go_wp2_with fail
                (with_reducible refine (shares_is HSH VW0 hf).mono ?_)
                rintro e wz1 ⟨rfl, hb1⟩
                have G1 := G0.ext hb1; have Q1 := PtrTo.ext Q0 hb1; have VW1 := VW0.ext hb1; have own1 := own0.ext hb1; have hb01 := hb00.trans (hb1.mono hb00.size); obtain ⟨a10, a11, a12, a13⟩ := G1.vb; have c10 := G1.c0; have c11 := G1.c1; obtain ⟨q10, q11⟩ := id Q1
                go_wp2_with fail
                (with_reducible refine (leadsR_is HLP VW1 hf).mono ?_)
                rintro e wz2 ⟨rfl, hb2⟩
                have G2 := G1.ext hb2; have Q2 := PtrTo.ext Q1 hb2; have VW2 := VW1.ext hb2; have own2 := own1.ext hb2; have hb02 := hb01.trans (hb2.mono hb01.size); obtain ⟨a20, a21, a22, a23⟩ := G2.vb; have c20 := G2.c0; have c21 := G2.c1; obtain ⟨q20, q21⟩ := id Q2
                go_wp2_with fail
                (with_reducible refine (leadsR_is HLQ VW2 hf).mono ?_)
                rintro e wz3 ⟨rfl, hb3⟩
                have G3 := G2.ext hb3; have Q3 := PtrTo.ext Q2 hb3; have VW3 := VW2.ext hb3; have own3 := own2.ext hb3; have hb03 := hb02.trans (hb3.mono hb02.size); obtain ⟨a30, a31, a32, a33⟩ := G3.vb; have c30 := G3.c0; have c31 := G3.c1; obtain ⟨q30, q31⟩ := id Q3
                go_wp2
                go_roundw
                case rel => exact ⟨k + 1, got, by omega, by go_num, by omega, hid (hM.out.trans (by rw [HPD.out]; simp)), own3, hb03⟩
                case measure => simp [intOf]; omega
              · have HPD := hid (pred_drop (f := (predP V (x, y))) hlt hpx (b := true) (by rw [predP_eq V (x, y) (a, b), hsh, hlp, hlq, hq]; first | rfl | skip))
                have HSH := hid hsh
                have HLP := hid hlp
                have HLQ := hid hlq
                clear hpx hsh hlp hlq hq
                go_wp2_with fail
                (with_reducible refine (shares_is HSH VW0 hf).mono ?_)
                rintro e wz1 ⟨rfl, hb1⟩
                have G1 := G0.ext hb1; have Q1 := PtrTo.ext Q0 hb1; have VW1 := VW0.ext hb1; have own1 := own0.ext hb1; have hb01 := hb00.trans (hb1.mono hb00.size); obtain ⟨a10, a11, a12, a13⟩ := G1.vb; have c10 := G1.c0; have c11 := G1.c1; obtain ⟨q10, q11⟩ := id Q1
                go_wp2_with fail
                (with_reducible refine (leadsR_is HLP VW1 hf).mono ?_)
                rintro e wz2 ⟨rfl, hb2⟩
                have G2 := G1.ext hb2; have Q2 := PtrTo.ext Q1 hb2; have VW2 := VW1.ext hb2; have own2 := own1.ext hb2; have hb02 := hb01.trans (hb2.mono hb01.size); obtain ⟨a20, a21, a22, a23⟩ := G2.vb; have c20 := G2.c0; have c21 := G2.c1; obtain ⟨q20, q21⟩ := id Q2
                go_wp2_with fail
                (with_reducible refine (leadsR_is HLQ VW2 hf).mono ?_)
                rintro e wz3 ⟨rfl, hb3⟩
                have G3 := G2.ext hb3; have Q3 := PtrTo.ext Q2 hb3; have VW3 := VW2.ext hb3; have own3 := own2.ext hb3; have hb03 := hb02.trans (hb3.mono hb02.size); obtain ⟨a30, a31, a32, a33⟩ := G3.vb; have c30 := G3.c0; have c31 := G3.c1; obtain ⟨q30, q31⟩ := id Q3
                go_wp2_with ((at_builtin; refine wpList_appendP (own3.alloc _) (PidRow.one _ a b) (by simp; omega) (by have := hb03.size; simp; omega) rfl rfl rfl rfl ?_; intro v9 w9 hown9 hg9 hnil9))
                have hB9 : Below w3.heap.size w3 w9 := (hb03.alloc hb03.size _).grown hg9 (by have := hb03.size; simp; omega) (fun g hg => (World.ownsRow.lt own3 g hg).1)
                go_roundw
                case rel => exact ⟨k + 1, got ++ [(a, b)], by omega, by go_num, by simp; omega, hid (hM.out.trans (by rw [HPD.out]; simp)), hown9, hB9⟩
                case measure => simp [intOf]; omega
          · have HPD := hid (pred_drop (f := (predP V (x, y))) hlt hpx (b := true) (by rw [predP_eq V (x, y) (a, b), hsh, hq]; first | rfl | skip))
            have HSH := hid hsh
            clear hpx hsh hq
            go_wp2_with fail
            (with_reducible refine (shares_is HSH VW0 hf).mono ?_)
            rintro e wz1 ⟨rfl, hb1⟩
            have G1 := G0.ext hb1; have Q1 := PtrTo.ext Q0 hb1; have VW1 := VW0.ext hb1; have own1 := own0.ext hb1; have hb01 := hb00.trans (hb1.mono hb00.size); obtain ⟨a10, a11, a12, a13⟩ := G1.vb; have c10 := G1.c0; have c11 := G1.c1; obtain ⟨q10, q11⟩ := id Q1
            go_wp2_with ((at_builtin; refine wpList_appendP (own1.alloc _) (PidRow.one _ a b) (by simp; omega) (by have := hb01.size; simp; omega) rfl rfl rfl rfl ?_; intro v9 w9 hown9 hg9 hnil9))
            have hB9 : Below w3.heap.size w3 w9 := (hb01.alloc hb01.size _).grown hg9 (by have := hb01.size; simp; omega) (fun g hg => (World.ownsRow.lt own1 g hg).1)
            go_roundw
            case rel => exact ⟨k + 1, got ++ [(a, b)], by omega, by go_num, by simp; omega, hid (hM.out.trans (by rw [HPD.out]; simp)), hown9, hB9⟩
            case measure => simp [intOf]; omega
        · rw [hq] at he
          simp only [Bool.not_true] at he
          have HPD := hid (pred_drop (f := (predP V (x, y))) hlt hpx (b := false) (by rw [predP_eq V (x, y) (a, b), hq, Bool.not_true, Bool.and_false]; first | rfl | skip))
          clear hpx hq
          go_wp2
          go_roundw
          case rel => exact ⟨k + 1, got, by omega, by go_num, by omega, hid (hM.out.trans (by rw [HPD.out]; simp)), own0, hb00⟩
          case measure => simp [intOf]; omega
      · have hlt' : decide (k < V.ms.length) = false := by simpa using hlt
        have hend : Hid (DD = got) := hid (by rw [hM.out, List.drop_eq_nil_of_le (by omega)]; simp)
        go_wp2
        go_ret
        exact ⟨_, rfl, by rw [hend.out]; exact hown.mono hB3.size, hB3.trans (hb.mono hB3.size)⟩
  · have HMB : Hid (decide ((x, y) ∈ V.ms) = false) := hid (by simpa using hmem)
    have hend : Hid (DD = []) := hid (by rw [← HDD.out]; unfold peersP; rw [if_neg hmem])
    clear hmem
    obtain ⟨r0_, r1_, r2_, r3_⟩ := F3.vb
    have hm0 := hV3.ms
    go_enter Try.func61, Try.ntmps61
    go_wp2
    clear hw3
    by_cases h0 : 0 < V.ms.length
    · have h0' : decide ((0 : Int) < (V.ms.length : Int)) = true := by simp; omega
      go_loopw [5, 6] (fun s i wr => s = .slice none 0 0 ∧ i = .int .i64 0 ∧ wr = w3) (fun _ _ _ => 0)
      case atStart => exact ⟨rfl, rfl, rfl⟩
      case round =>
        obtain ⟨rfl, rfl, rfl⟩ := hrel
        go_wp2_with ((go_at_call 36; refine (hasR_is HMB (by omega) hm0).mono ?_; rintro e wh ⟨rfl, hbh⟩))
        go_ret
        exact ⟨_, rfl, by rw [hend.out]; exact OwnP.nil _ _, hB3.trans (hbh.mono hB3.size)⟩
    · have h0' : decide ((0 : Int) < (V.ms.length : Int)) = false := decide_eq_false (by omega)
      go_loopw [5, 6] (fun s i wr => s = .slice none 0 0 ∧ i = .int .i64 0 ∧ wr = w3) (fun _ _ _ => 0)
      case atStart => exact ⟨rfl, rfl, rfl⟩
      case round =>
        obtain ⟨rfl, rfl, rfl⟩ := hrel
        go_wp2
        go_ret
        exact ⟨_, rfl, by rw [hend.out]; exact OwnP.nil _ _, hB3⟩
end Go.Proofs.Ytjjahefedpfnaaa
