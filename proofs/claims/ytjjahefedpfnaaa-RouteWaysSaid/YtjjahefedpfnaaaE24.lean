import Derived.Test.YtjjahefedpfnaaaE23
namespace Go.Proofs.Ytjjahefedpfnaaa
open Go.RowKit
def predD (V : View) (S : Pid → Bool) (p q : Pid) : Bool := decide (q ∈ (downL V S p).flatten) && !decide (q = p)
def predP (V : View) (p q : Pid) : Bool := decide (q ∈ (peersL V p).flatten) && !decide (q = p)
def predB (V : View) (S : Pid → Bool) (p q : Pid) : Bool := decide (q ∈ (beatsL V S p).flatten) && !decide (q = p)
theorem predD_eq (V : View) (S : Pid → Bool) (p q : Pid) : predD V S p q = (((isChiefB V S p && decide (q ∈ speakersP V S)) || (speaksB V S p && decide (q ∈ leafP V p))) && !decide (q = p)) := by
  unfold predD downL
  congr 1
  cases isChiefB V S p <;> cases speaksB V S p <;> simp [Bool.decide_or]
theorem predP_eq (V : View) (p q : Pid) : predP V p q = ((decide (q ∈ leafP V p) || (decide (p ∈ V.ds) && decide (q ∈ V.ds))) && !decide (q = p)) := by
  unfold predP peersL
  congr 1
  by_cases h : p ∈ V.ds <;> simp [h, Bool.decide_or]
theorem predB_eq (V : View) (S : Pid → Bool) (p q : Pid) : predB V S p q = ((decide (q ∈ peersP V p) || (isChiefB V S p && decide (q ∈ speakersP V S)) || (speaksB V S p && decide (q ∈ V.ds))) && !decide (q = p)) := by
  unfold predB beatsL
  congr 1
  cases isChiefB V S p <;> cases speaksB V S p <;> simp [Bool.decide_or, Bool.or_assoc]
theorem pred_drop {f : Pid → Bool} {xs : List Pid} {k : Nat} (h : k < xs.length) {x y : Int} (hx : (x, y) = xs[k]) {b : Bool} (hb : f (x, y) = b) : (xs.drop k).filter f = (if b = true then [(x, y)] else []) ++ (xs.drop (k + 1)).filter f := by
  rw [filter_drop h hx, hb]; cases b <;> rfl

set_option maxRecDepth 100000 in
set_option maxHeartbeats 12800000 in
theorem downRef_any (r : Nat → Int) (V : View) (am al ad : Option Addr) (cm cl cd : Nat) (x y : Int) (w : World) (hV : ViewR w am al ad V) (hs : Small V) :
    Calls Try.prog 57 #[viewV V am al ad cm cl cd, .agg (RL r).toArray, .agg #[.int .u16 x, .int .u32 y]] w fun e w' => ∃ v, e = .returned v ∧ OwnP w' w.heap.size v (downP V (hasRu r) (x, y)) ∧ Below w.heap.size w w' := by
  have hf := hs.fine
  have hB3 : Below w.heap.size w (((w.alloc (.cells (vcells V am al ad cm cl cd) 68)).alloc (.cells (RL r).toArray 70)).alloc (.cells #[.int .u16 x, .int .u32 y] 32)) := (((Below.refl _ _).alloc (Nat.le_refl _) _).alloc (by simp) _).alloc (by simp; omega) _
  have F3 := Frm.made w V am al ad cm cl cd r x y
  have hV3 := hV.ext hB3
  have hlm := hs.ms
  have hld := hs.ds
  obtain ⟨w3, hw3⟩ : ∃ w3, (((w.alloc (.cells (vcells V am al ad cm cl cd) 68)).alloc (.cells (RL r).toArray 70)).alloc (.cells #[.int .u16 x, .int .u32 y] 32)) = w3 := ⟨_, rfl⟩
  rw [hw3] at hB3 F3 hV3
  have hsp0 : Hid (downP V (hasRu r) (x, y) = V.ms.filter (predD V (hasRu r) (x, y))) := hid rfl
  obtain ⟨DD, hDD⟩ : ∃ DD, downP V (hasRu r) (x, y) = DD := ⟨_, rfl⟩
  rw [hDD]
  have HDD := hid hDD
  clear hDD
  go_enter Try.func57, Try.ntmps57
  go_wp2
  clear hw3
  go_loopw [7, 8] (fun s i wr => ∃ (k : Nat) (got : List Pid), k ≤ V.ms.length ∧ i = .int .i64 k ∧ got.length ≤ k ∧ Hid (DD = got ++ (V.ms.drop k).filter (predD V (hasRu r) (x, y))) ∧ OwnP wr w3.heap.size s got ∧ Below w3.heap.size w3 wr) (fun _ i _ => V.ms.length - (intOf i).toNat)
  case atStart => exact ⟨0, [], Nat.zero_le _, rfl, Nat.le_refl _, hid (HDD.out.symm.trans hsp0.out), OwnP.nil _ _, Below.refl _ _⟩
  case round =>
    obtain ⟨k, got, hk, rfl, hgl, hM, hown, hb⟩ := hrel
    have hs0 := hb.size
    have Fr := F3.ext hb
    have hVr := hV3.ext hb
    obtain ⟨r0_, r1_, r2_, r3_⟩ := Fr.vb
    by_cases hlt : k < V.ms.length
    · have hlt' : decide (k < V.ms.length) = true := by simpa using hlt
      obtain ⟨pb, po, a, b, hab, hpx, d1, d2⟩ := hVr.ms.at (Below.refl _ _) rfl hlt
      subst hab
      have hqb : Below wr.heap.size wr (wr.alloc (.cells #[.int .u16 a, .int .u32 b] 32)) := (Below.refl _ _).alloc (Nat.le_refl _) _
      have G0 := Fr.ext hqb
      have VW0 := hVr.ext hqb
      have own0 := hown.alloc (.cells #[.int .u16 a, .int .u32 b] 32)
      have hb00 := hb.trans (hqb.mono hs0)
      have Q0 : PtrTo (wr.alloc (.cells #[.int .u16 a, .int .u32 b] 32)) wr.heap.size (.int .u16 a) (.int .u32 b) := ⟨by simp, by simp⟩
      obtain ⟨gq, hgq⟩ : ∃ gq, gq = wr.heap.size := ⟨_, rfl⟩
      rw [← hgq] at Q0
      obtain ⟨w0, hw0⟩ : ∃ w0, wr.alloc (.cells #[.int .u16 a, .int .u32 b] 32) = w0 := ⟨_, rfl⟩
      rw [hw0] at hqb G0 VW0 own0 hb00 Q0
      have he := fun w => neq_pid a b x y w
      have hR0 := G0.rb
      obtain ⟨a00, a01, a02, a03⟩ := G0.vb
      have c00 := G0.c0
      have c01 := G0.c1
      obtain ⟨q00, q01⟩ := Q0
      have Q0 : PtrTo w0 gq (.int .u16 a) (.int .u32 b) := ⟨q00, q01⟩
      subst hgq
      clear hqb
      cases hq : decide ((a, b) = (x, y))
      · rw [hq] at he
        simp only [Bool.not_false] at he
        cases hic : isChiefB V (hasRu r) (x, y)
        · cases hsp : speaksB V (hasRu r) (x, y)
          · have HPD := hid (pred_drop (f := (predD V (hasRu r) (x, y))) hlt hpx (b := false) (by rw [predD_eq V (hasRu r) (x, y) (a, b), hic, hsp, hq]; rfl))
            have HIC := hid hic
            have HSP := hid hsp
            clear hpx hic hsp hq
            go_wp2_with (refine wpList_loadRw (by assumption) (by rfl) rfl rfl ?_)
            (with_reducible refine (isChiefRef_is HIC VW0 hf).mono ?_)
            rintro e wz1 ⟨rfl, hb1⟩
            have G1 := G0.ext hb1; have Q1 := PtrTo.ext Q0 hb1; have VW1 := VW0.ext hb1; have own1 := own0.ext hb1; have hb01 := hb00.trans (hb1.mono hb00.size); have hR1 := G1.rb; obtain ⟨a10, a11, a12, a13⟩ := G1.vb; have c10 := G1.c0; have c11 := G1.c1; obtain ⟨q10, q11⟩ := id Q1
            go_wp2_with (refine wpList_loadRw (by assumption) (by rfl) rfl rfl ?_)
            (with_reducible refine (speaksRef_is HSP VW1 hf).mono ?_)
            rintro e wz2 ⟨rfl, hb2⟩
            have G2 := G1.ext hb2; have Q2 := PtrTo.ext Q1 hb2; have VW2 := VW1.ext hb2; have own2 := own1.ext hb2; have hb02 := hb01.trans (hb2.mono hb01.size); have hR2 := G2.rb; obtain ⟨a20, a21, a22, a23⟩ := G2.vb; have c20 := G2.c0; have c21 := G2.c1; obtain ⟨q20, q21⟩ := id Q2
            go_wp2
            go_roundw
            case rel => exact ⟨k + 1, got, by omega, by go_num, by omega, hid (hM.out.trans (by rw [HPD.out]; simp)), own2, hb02⟩
            case measure => simp [intOf]; omega
          · cases hsh : decide ((a, b) ∈ leafP V (x, y))
            · have HPD := hid (pred_drop (f := (predD V (hasRu r) (x, y))) hlt hpx (b := false) (by rw [predD_eq V (hasRu r) (x, y) (a, b), hic, hsp, hsh, hq]; rfl))
              have HIC := hid hic
              have HSP := hid hsp
              have HSH := hid hsh
              clear hpx hic hsp hsh hq
              go_wp2_with (refine wpList_loadRw (by assumption) (by rfl) rfl rfl ?_)
              (with_reducible refine (isChiefRef_is HIC VW0 hf).mono ?_)
              rintro e wz1 ⟨rfl, hb1⟩
              have G1 := G0.ext hb1; have Q1 := PtrTo.ext Q0 hb1; have VW1 := VW0.ext hb1; have own1 := own0.ext hb1; have hb01 := hb00.trans (hb1.mono hb00.size); have hR1 := G1.rb; obtain ⟨a10, a11, a12, a13⟩ := G1.vb; have c10 := G1.c0; have c11 := G1.c1; obtain ⟨q10, q11⟩ := id Q1
              go_wp2_with (refine wpList_loadRw (by assumption) (by rfl) rfl rfl ?_)
              (with_reducible refine (speaksRef_is HSP VW1 hf).mono ?_)
              rintro e wz2 ⟨rfl, hb2⟩
              have G2 := G1.ext hb2; have Q2 := PtrTo.ext Q1 hb2; have VW2 := VW1.ext hb2; have own2 := own1.ext hb2; have hb02 := hb01.trans (hb2.mono hb01.size); have hR2 := G2.rb; obtain ⟨a20, a21, a22, a23⟩ := G2.vb; have c20 := G2.c0; have c21 := G2.c1; obtain ⟨q20, q21⟩ := id Q2
              go_wp2_with fail
              (with_reducible refine (shares_is HSH VW2 hf).mono ?_)
              rintro e wz3 ⟨rfl, hb3⟩
              have G3 := G2.ext hb3; have Q3 := PtrTo.ext Q2 hb3; have VW3 := VW2.ext hb3; have own3 := own2.ext hb3; have hb03 := hb02.trans (hb3.mono hb02.size); have hR3 := G3.rb; obtain ⟨a30, a31, a32, a33⟩ := G3.vb; have c30 := G3.c0; have c31 := G3.c1; obtain ⟨q30, q31⟩ := id Q3
              go_wp2
              go_roundw
              case rel => exact ⟨k + 1, got, by omega, by go_num, by omega, hid (hM.out.trans (by rw [HPD.out]; simp)), own3, hb03⟩
              case measure => simp [intOf]; omega
            · have HPD := hid (pred_drop (f := (predD V (hasRu r) (x, y))) hlt hpx (b := true) (by rw [predD_eq V (hasRu r) (x, y) (a, b), hic, hsp, hsh, hq]; rfl))
              have HIC := hid hic
              have HSP := hid hsp
              have HSH := hid hsh
              clear hpx hic hsp hsh hq
              go_wp2_with (refine wpList_loadRw (by assumption) (by rfl) rfl rfl ?_)
              (with_reducible refine (isChiefRef_is HIC VW0 hf).mono ?_)
              rintro e wz1 ⟨rfl, hb1⟩
              have G1 := G0.ext hb1; have Q1 := PtrTo.ext Q0 hb1; have VW1 := VW0.ext hb1; have own1 := own0.ext hb1; have hb01 := hb00.trans (hb1.mono hb00.size); have hR1 := G1.rb; obtain ⟨a10, a11, a12, a13⟩ := G1.vb; have c10 := G1.c0; have c11 := G1.c1; obtain ⟨q10, q11⟩ := id Q1
              go_wp2_with (refine wpList_loadRw (by assumption) (by rfl) rfl rfl ?_)
              (with_reducible refine (speaksRef_is HSP VW1 hf).mono ?_)
              rintro e wz2 ⟨rfl, hb2⟩
              have G2 := G1.ext hb2; have Q2 := PtrTo.ext Q1 hb2; have VW2 := VW1.ext hb2; have own2 := own1.ext hb2; have hb02 := hb01.trans (hb2.mono hb01.size); have hR2 := G2.rb; obtain ⟨a20, a21, a22, a23⟩ := G2.vb; have c20 := G2.c0; have c21 := G2.c1; obtain ⟨q20, q21⟩ := id Q2
              go_wp2_with fail
              (with_reducible refine (shares_is HSH VW2 hf).mono ?_)
              rintro e wz3 ⟨rfl, hb3⟩
              have G3 := G2.ext hb3; have Q3 := PtrTo.ext Q2 hb3; have VW3 := VW2.ext hb3; have own3 := own2.ext hb3; have hb03 := hb02.trans (hb3.mono hb02.size); have hR3 := G3.rb; obtain ⟨a30, a31, a32, a33⟩ := G3.vb; have c30 := G3.c0; have c31 := G3.c1; obtain ⟨q30, q31⟩ := id Q3
              go_wp2_with ((at_builtin; refine wpList_appendP (own3.alloc _) (PidRow.one _ a b) (by simp; omega) (by have := hb03.size; simp; omega) rfl rfl rfl rfl ?_; intro v9 w9 hown9 hg9 hnil9))
              have hB9 : Below w3.heap.size w3 w9 := (hb03.alloc hb03.size _).grown hg9 (by have := hb03.size; simp; omega) (fun g hg => (World.ownsRow.lt own3 g hg).1)
              go_roundw
              case rel => exact ⟨k + 1, got ++ [(a, b)], by omega, by go_num, by simp; omega, hid (hM.out.trans (by rw [HPD.out]; simp)), hown9, hB9⟩
              case measure => simp [intOf]; omega
        · cases hss : decide ((a, b) ∈ speakersP V (hasRu r))
          · cases hsp : speaksB V (hasRu r) (x, y)
            · have HPD := hid (pred_drop (f := (predD V (hasRu r) (x, y))) hlt hpx (b := false) (by rw [predD_eq V (hasRu r) (x, y) (a, b), hic, hss, hsp, hq]; rfl))
              have HIC := hid hic
              have HSS := hid hss
              have HSP := hid hsp
              clear hpx hic hss hsp hq
              go_wp2_with (refine wpList_loadRw (by assumption) (by rfl) rfl rfl ?_)
              (with_reducible refine (isChiefRef_is HIC VW0 hf).mono ?_)
              rintro e wz1 ⟨rfl, hb1⟩
              have G1 := G0.ext hb1; have Q1 := PtrTo.ext Q0 hb1; have VW1 := VW0.ext hb1; have own1 := own0.ext hb1; have hb01 := hb00.trans (hb1.mono hb00.size); have hR1 := G1.rb; obtain ⟨a10, a11, a12, a13⟩ := G1.vb; have c10 := G1.c0; have c11 := G1.c1; obtain ⟨q10, q11⟩ := id Q1
              go_wp2_with (refine wpList_loadRw (by assumption) (by rfl) rfl rfl ?_)
              (with_reducible refine (speaksSome_is HSS VW1 hf).mono ?_)
              rintro e wz2 ⟨rfl, hb2⟩
              have G2 := G1.ext hb2; have Q2 := PtrTo.ext Q1 hb2; have VW2 := VW1.ext hb2; have own2 := own1.ext hb2; have hb02 := hb01.trans (hb2.mono hb01.size); have hR2 := G2.rb; obtain ⟨a20, a21, a22, a23⟩ := G2.vb; have c20 := G2.c0; have c21 := G2.c1; obtain ⟨q20, q21⟩ := id Q2
              go_wp2_with (refine wpList_loadRw (by assumption) (by rfl) rfl rfl ?_)
              (with_reducible refine (speaksRef_is HSP VW2 hf).mono ?_)
              rintro e wz3 ⟨rfl, hb3⟩
              have G3 := G2.ext hb3; have Q3 := PtrTo.ext Q2 hb3; have VW3 := VW2.ext hb3; have own3 := own2.ext hb3; have hb03 := hb02.trans (hb3.mono hb02.size); have hR3 := G3.rb; obtain ⟨a30, a31, a32, a33⟩ := G3.vb; have c30 := G3.c0; have c31 := G3.c1; obtain ⟨q30, q31⟩ := id Q3
              go_wp2
              go_roundw
              case rel => exact ⟨k + 1, got, by omega, by go_num, by omega, hid (hM.out.trans (by rw [HPD.out]; simp)), own3, hb03⟩
              case measure => simp [intOf]; omega
            · cases hsh : decide ((a, b) ∈ leafP V (x, y))
              · have HPD := hid (pred_drop (f := (predD V (hasRu r) (x, y))) hlt hpx (b := false) (by rw [predD_eq V (hasRu r) (x, y) (a, b), hic, hss, hsp, hsh, hq]; rfl))
                have HIC := hid hic
                have HSS := hid hss
                have HSP := hid hsp
                have HSH := hid hsh
                clear hpx hic hss hsp hsh hq
                go_wp2_with (refine wpList_loadRw (by assumption) (by rfl) rfl rfl ?_)
                (with_reducible refine (isChiefRef_is HIC VW0 hf).mono ?_)
                rintro e wz1 ⟨rfl, hb1⟩
                have G1 := G0.ext hb1; have Q1 := PtrTo.ext Q0 hb1; have VW1 := VW0.ext hb1; have own1 := own0.ext hb1; have hb01 := hb00.trans (hb1.mono hb00.size); have hR1 := G1.rb; obtain ⟨a10, a11, a12, a13⟩ := G1.vb; have c10 := G1.c0; have c11 := G1.c1; obtain ⟨q10, q11⟩ := id Q1
                go_wp2_with (refine wpList_loadRw (by assumption) (by rfl) rfl rfl ?_)
                (with_reducible refine (speaksSome_is HSS VW1 hf).mono ?_)
                rintro e wz2 ⟨rfl, hb2⟩
                have G2 := G1.ext hb2; have Q2 := PtrTo.ext Q1 hb2; have VW2 := VW1.ext hb2; have own2 := own1.ext hb2; have hb02 := hb01.trans (hb2.mono hb01.size); have hR2 := G2.rb; obtain ⟨a20, a21, a22, a23⟩ := G2.vb; have c20 := G2.c0; have c21 := G2.c1; obtain ⟨q20, q21⟩ := id Q2
                go_wp2_with (refine wpList_loadRw (by assumption) (by rfl) rfl rfl ?_)
                (with_reducible refine (speaksRef_is HSP VW2 hf).mono ?_)
                rintro e wz3 ⟨rfl, hb3⟩
                have G3 := G2.ext hb3; have Q3 := PtrTo.ext Q2 hb3; have VW3 := VW2.ext hb3; have own3 := own2.ext hb3; have hb03 := hb02.trans (hb3.mono hb02.size); have hR3 := G3.rb; obtain ⟨a30, a31, a32, a33⟩ := G3.vb; have c30 := G3.c0; have c31 := G3.c1; obtain ⟨q30, q31⟩ := id Q3
                go_wp2_with fail
                (with_reducible refine (shares_is HSH VW3 hf).mono ?_)
                rintro e wz4 ⟨rfl, hb4⟩
                have G4 := G3.ext hb4; have Q4 := PtrTo.ext Q3 hb4; have VW4 := VW3.ext hb4; have own4 := own3.ext hb4; have hb04 := hb03.trans (hb4.mono hb03.size); have hR4 := G4.rb; obtain ⟨a40, a41, a42, a43⟩ := G4.vb; have c40 := G4.c0; have c41 := G4.c1; obtain ⟨q40, q41⟩ := id Q4
                go_wp2
                go_roundw
                case rel => exact ⟨k + 1, got, by omega, by go_num, by omega, hid (hM.out.trans (by rw [HPD.out]; simp)), own4, hb04⟩
                case measure => simp [intOf]; omega
              · have HPD := hid (pred_drop (f := (predD V (hasRu r) (x, y))) hlt hpx (b := true) (by rw [predD_eq V (hasRu r) (x, y) (a, b), hic, hss, hsp, hsh, hq]; rfl))
                have HIC := hid hic
                have HSS := hid hss
                have HSP := hid hsp
                have HSH := hid hsh
                clear hpx hic hss hsp hsh hq
                go_wp2_with (refine wpList_loadRw (by assumption) (by rfl) rfl rfl ?_)
                (with_reducible refine (isChiefRef_is HIC VW0 hf).mono ?_)
                rintro e wz1 ⟨rfl, hb1⟩
                have G1 := G0.ext hb1; have Q1 := PtrTo.ext Q0 hb1; have VW1 := VW0.ext hb1; have own1 := own0.ext hb1; have hb01 := hb00.trans (hb1.mono hb00.size); have hR1 := G1.rb; obtain ⟨a10, a11, a12, a13⟩ := G1.vb; have c10 := G1.c0; have c11 := G1.c1; obtain ⟨q10, q11⟩ := id Q1
                go_wp2_with (refine wpList_loadRw (by assumption) (by rfl) rfl rfl ?_)
                (with_reducible refine (speaksSome_is HSS VW1 hf).mono ?_)
                rintro e wz2 ⟨rfl, hb2⟩
                have G2 := G1.ext hb2; have Q2 := PtrTo.ext Q1 hb2; have VW2 := VW1.ext hb2; have own2 := own1.ext hb2; have hb02 := hb01.trans (hb2.mono hb01.size); have hR2 := G2.rb; obtain ⟨a20, a21, a22, a23⟩ := G2.vb; have c20 := G2.c0; have c21 := G2.c1; obtain ⟨q20, q21⟩ := id Q2
                go_wp2_with (refine wpList_loadRw (by assumption) (by rfl) rfl rfl ?_)
                (with_reducible refine (speaksRef_is HSP VW2 hf).mono ?_)
                rintro e wz3 ⟨rfl, hb3⟩
                have G3 := G2.ext hb3; have Q3 := PtrTo.ext Q2 hb3; have VW3 := VW2.ext hb3; have own3 := own2.ext hb3; have hb03 := hb02.trans (hb3.mono hb02.size); have hR3 := G3.rb; obtain ⟨a30, a31, a32, a33⟩ := G3.vb; have c30 := G3.c0; have c31 := G3.c1; obtain ⟨q30, q31⟩ := id Q3
                go_wp2_with fail
                (with_reducible refine (shares_is HSH VW3 hf).mono ?_)
                rintro e wz4 ⟨rfl, hb4⟩
                have G4 := G3.ext hb4; have Q4 := PtrTo.ext Q3 hb4; have VW4 := VW3.ext hb4; have own4 := own3.ext hb4; have hb04 := hb03.trans (hb4.mono hb03.size); have hR4 := G4.rb; obtain ⟨a40, a41, a42, a43⟩ := G4.vb; have c40 := G4.c0; have c41 := G4.c1; obtain ⟨q40, q41⟩ := id Q4
                go_wp2_with ((at_builtin; refine wpList_appendP (own4.alloc _) (PidRow.one _ a b) (by simp; omega) (by have := hb04.size; simp; omega) rfl rfl rfl rfl ?_; intro v9 w9 hown9 hg9 hnil9))
                have hB9 : Below w3.heap.size w3 w9 := (hb04.alloc hb04.size _).grown hg9 (by have := hb04.size; simp; omega) (fun g hg => (World.ownsRow.lt own4 g hg).1)
                go_roundw
                case rel => exact ⟨k + 1, got ++ [(a, b)], by omega, by go_num, by simp; omega, hid (hM.out.trans (by rw [HPD.out]; simp)), hown9, hB9⟩
                case measure => simp [intOf]; omega
          · have HPD := hid (pred_drop (f := (predD V (hasRu r) (x, y))) hlt hpx (b := true) (by rw [predD_eq V (hasRu r) (x, y) (a, b), hic, hss, hq]; rfl))
            have HIC := hid hic
            have HSS := hid hss
            clear hpx hic hss hq
            go_wp2_with (refine wpList_loadRw (by assumption) (by rfl) rfl rfl ?_)
            (with_reducible refine (isChiefRef_is HIC VW0 hf).mono ?_)
            rintro e wz1 ⟨rfl, hb1⟩
            have G1 := G0.ext hb1; have Q1 := PtrTo.ext Q0 hb1; have VW1 := VW0.ext hb1; have own1 := own0.ext hb1; have hb01 := hb00.trans (hb1.mono hb00.size); have hR1 := G1.rb; obtain ⟨a10, a11, a12, a13⟩ := G1.vb; have c10 := G1.c0; have c11 := G1.c1; obtain ⟨q10, q11⟩ := id Q1
            go_wp2_with (refine wpList_loadRw (by assumption) (by rfl) rfl rfl ?_)
            (with_reducible refine (speaksSome_is HSS VW1 hf).mono ?_)
            rintro e wz2 ⟨rfl, hb2⟩
            have G2 := G1.ext hb2; have Q2 := PtrTo.ext Q1 hb2; have VW2 := VW1.ext hb2; have own2 := own1.ext hb2; have hb02 := hb01.trans (hb2.mono hb01.size); have hR2 := G2.rb; obtain ⟨a20, a21, a22, a23⟩ := G2.vb; have c20 := G2.c0; have c21 := G2.c1; obtain ⟨q20, q21⟩ := id Q2
            go_wp2_with ((at_builtin; refine wpList_appendP (own2.alloc _) (PidRow.one _ a b) (by simp; omega) (by have := hb02.size; simp; omega) rfl rfl rfl rfl ?_; intro v9 w9 hown9 hg9 hnil9))
            have hB9 : Below w3.heap.size w3 w9 := (hb02.alloc hb02.size _).grown hg9 (by have := hb02.size; simp; omega) (fun g hg => (World.ownsRow.lt own2 g hg).1)
            go_roundw
            case rel => exact ⟨k + 1, got ++ [(a, b)], by omega, by go_num, by simp; omega, hid (hM.out.trans (by rw [HPD.out]; simp)), hown9, hB9⟩
            case measure => simp [intOf]; omega
      · rw [hq] at he
        simp only [Bool.not_true] at he
        have HPD := hid (pred_drop (f := (predD V (hasRu r) (x, y))) hlt hpx (b := false) (by rw [predD_eq V (hasRu r) (x, y) (a, b), hq, Bool.not_true, Bool.and_false]))
        clear hpx hq
        go_wp2
        go_roundw
        case rel => exact ⟨k + 1, got, by omega, by go_num, by omega, hid (hM.out.trans (by rw [HPD.out]; simp)), own0, hb00⟩
        case measure => simp [intOf]; omega
    · have hlt' : decide (k < V.ms.length) = false := by simpa using hlt
      have hend : Hid (DD = got) := hid (by rw [hM.out, List.drop_eq_nil_of_le (by omega)]; simp)
      go_wp2
      go_ret
      exact ⟨_, rfl, by rw [hend.out]; exact hown.mono hB3.size, hB3.trans (hb.mono hB3.size)⟩
end Go.Proofs.Ytjjahefedpfnaaa
