import Derived.Test.YtjjahefedpfnaaaE26
namespace Go.Proofs.Ytjjahefedpfnaaa
open Go.RowKit
theorem optV_pair2 {o : Option Pid} {u v : Int} {b : Bool} (h : Hid (optP o = ((u, v), b))) : optV o = .tuple #[.agg #[.int .u16 u, .int .u32 v], .bool b] := by
  show Value.tuple #[.agg #[.int .u16 (optP o).1.1, .int .u32 (optP o).1.2], .bool (optP o).2] = _
  rw [h.out]
theorem chiefA_pair {r : Nat → Int} {V : View} {am al ad : Option Addr} {cm cl cd : Nat} {w : World} {u v : Int} {b : Bool} (h : Hid (optP (chiefP V (hasRu r)) = ((u, v), b))) (hV : ViewR w am al ad V) (hf : Fine V) :
    Calls Try.prog 47 #[viewV V am al ad cm cl cd, .agg (RL r).toArray] w fun e w' => e = .returned (.tuple #[.agg #[.int .u16 u, .int .u32 v], .bool b]) ∧ Below w.heap.size w w' := by
  have := chiefA_any r V am al ad cm cl cd w hV hf
  rw [optV_pair2 h] at this; exact this
theorem chiefRef_pair {r : Nat → Int} {V : View} {am al ad : Option Addr} {cm cl cd : Nat} {w : World} {u v : Int} {b : Bool} (h : Hid (optP (chiefP V (hasRu r)) = ((u, v), b))) (hV : ViewR w am al ad V) (hf : Fine V) :
    Calls Try.prog 51 #[viewV V am al ad cm cl cd, .agg (RL r).toArray] w fun e w' => e = .returned (.tuple #[.agg #[.int .u16 u, .int .u32 v], .bool b]) ∧ Below w.heap.size w w' := by
  have := chiefRef_any r V am al ad cm cl cd w hV hf
  rw [optV_pair2 h] at this; exact this
theorem speaker_pair {r : Nat → Int} {V : View} {am al ad : Option Addr} {cm cl cd : Nat} {k : Int} {w : World} {u v : Int} {b : Bool} (h : Hid (optP (speakP V (hasRu r) k) = ((u, v), b))) (hV : ViewR w am al ad V) (hf : Fine V) :
    Calls Try.prog 52 #[viewV V am al ad cm cl cd, .agg (RL r).toArray, .int .i64 k] w fun e w' => e = .returned (.tuple #[.agg #[.int .u16 u, .int .u32 v], .bool b]) ∧ Below w.heap.size w w' := by
  have := speaker_any r V am al ad cm cl cd k w hV hf
  rw [optV_pair2 h] at this; exact this
theorem speakerRef_pair {r : Nat → Int} {V : View} {am al ad : Option Addr} {cm cl cd : Nat} {k : Int} {w : World} {u v : Int} {b : Bool} (h : Hid (optP (speakP V (hasRu r) k) = ((u, v), b))) (hV : ViewR w am al ad V) (hf : Fine V) :
    Calls Try.prog 53 #[viewV V am al ad cm cl cd, .agg (RL r).toArray, .int .i64 k] w fun e w' => e = .returned (.tuple #[.agg #[.int .u16 u, .int .u32 v], .bool b]) ∧ Below w.heap.size w w' := by
  have := speakerRef_any r V am al ad cm cl cd k w hV hf
  rw [optV_pair2 h] at this; exact this
theorem up_pair {r : Nat → Int} {V : View} {am al ad : Option Addr} {cm cl cd : Nat} {x y : Int} {w : World} {u v : Int} {b : Bool} (h : Hid (optP (upP V (hasRu r) (x, y)) = ((u, v), b))) (hV : ViewR w am al ad V) (hf : Fine V) :
    Calls Try.prog 48 #[viewV V am al ad cm cl cd, .agg (RL r).toArray, .agg #[.int .u16 x, .int .u32 y]] w fun e w' => e = .returned (.tuple #[.agg #[.int .u16 u, .int .u32 v], .bool b]) ∧ Below w.heap.size w w' := by
  have := up_any r V am al ad cm cl cd x y w hV hf
  rw [optV_pair2 h] at this; exact this
theorem upRef_pair {r : Nat → Int} {V : View} {am al ad : Option Addr} {cm cl cd : Nat} {x y : Int} {w : World} {u v : Int} {b : Bool} (h : Hid (optP (upP V (hasRu r) (x, y)) = ((u, v), b))) (hV : ViewR w am al ad V) (hf : Fine V) :
    Calls Try.prog 54 #[viewV V am al ad cm cl cd, .agg (RL r).toArray, .agg #[.int .u16 x, .int .u32 y]] w fun e w' => e = .returned (.tuple #[.agg #[.int .u16 u, .int .u32 v], .bool b]) ∧ Below w.heap.size w w' := by
  have := upRef_any r V am al ad cm cl cd x y w hV hf
  rw [optV_pair2 h] at this; exact this
theorem speaks_ext {r : Nat → Int} {V : View} {am al ad : Option Addr} {cm cl cd : Nat} {x y : Int} {w0 : World} {U : ExtW w0} {b : Bool} (h : Hid (speaksB V (hasRu r) (x, y) = b)) (hV : ViewR w0 am al ad V) (hf : Fine V) :
    Calls Try.prog 55 #[.agg #[.int .u64 V.id, .slice am V.ms.length cm, .slice al V.ls.length cl, .slice ad V.ds.length cd], .agg #[.int .u32 (r 0), .int .u32 (r 1), .int .u32 (r 2), .int .u32 (r 3), .int .u32 (r 4), .int .u32 (r 5), .int .u32 (r 6), .int .u32 (r 7), .int .u32 (r 8), .int .u32 (r 9), .int .u32 (r 10), .int .u32 (r 11), .int .u32 (r 12), .int .u32 (r 13), .int .u32 (r 14), .int .u32 (r 15)], .agg #[.int .u16 x, .int .u32 y]] U.W fun e w' => e = .returned (.bool b) ∧ ∃ U' : ExtW w0, w' = U'.W :=
  quiet_of (speaks_any r V am al ad cm cl cd x y U.W (hV.ext U.h) hf) (by rw [h.out])
theorem speaksRef_ext {r : Nat → Int} {V : View} {am al ad : Option Addr} {cm cl cd : Nat} {x y : Int} {w0 : World} {U : ExtW w0} {b : Bool} (h : Hid (speaksB V (hasRu r) (x, y) = b)) (hV : ViewR w0 am al ad V) (hf : Fine V) :
    Calls Try.prog 56 #[.agg #[.int .u64 V.id, .slice am V.ms.length cm, .slice al V.ls.length cl, .slice ad V.ds.length cd], .agg #[.int .u32 (r 0), .int .u32 (r 1), .int .u32 (r 2), .int .u32 (r 3), .int .u32 (r 4), .int .u32 (r 5), .int .u32 (r 6), .int .u32 (r 7), .int .u32 (r 8), .int .u32 (r 9), .int .u32 (r 10), .int .u32 (r 11), .int .u32 (r 12), .int .u32 (r 13), .int .u32 (r 14), .int .u32 (r 15)], .agg #[.int .u16 x, .int .u32 y]] U.W fun e w' => e = .returned (.bool b) ∧ ∃ U' : ExtW w0, w' = U'.W :=
  quiet_of (speaksRef_any r V am al ad cm cl cd x y U.W (hV.ext U.h) hf) (by rw [h.out])
theorem downRef_is {r : Nat → Int} {V : View} {am al ad : Option Addr} {cm cl cd : Nat} {x y : Int} {w : World} {D : List Pid} {N : Nat} (h : Hid (downP V (hasRu r) (x, y) = D)) (hn : Hid (D.length = N)) (hV : ViewR w am al ad V) (hs : Small V) :
    Calls Try.prog 57 #[viewV V am al ad cm cl cd, .agg (RL r).toArray, .agg #[.int .u16 x, .int .u32 y]] w fun e w' => ∃ a c, e = .returned (.slice a N c) ∧ PidRow w' a D ∧ Below w.heap.size w w' := by
  refine (downRef_any r V am al ad cm cl cd x y w hV hs).mono ?_
  rintro e w' ⟨v, rfl, hown, hb⟩
  obtain ⟨a, c, rfl, hrow, -⟩ := hown.row
  rw [h.out, hn.out] at *
  rw [h.out] at hrow
  exact ⟨a, c, rfl, hrow, hb⟩
theorem beatsRef_is {r : Nat → Int} {V : View} {am al ad : Option Addr} {cm cl cd : Nat} {x y : Int} {w : World} {D : List Pid} {N : Nat} (h : Hid (beatsP V (hasRu r) (x, y) = D)) (hn : Hid (D.length = N)) (hV : ViewR w am al ad V) (hs : Small V) :
    Calls Try.prog 59 #[viewV V am al ad cm cl cd, .agg (RL r).toArray, .agg #[.int .u16 x, .int .u32 y]] w fun e w' => ∃ a c, e = .returned (.slice a N c) ∧ PidRow w' a D ∧ Below w.heap.size w w' := by
  refine (beatsRef_any r V am al ad cm cl cd x y w hV hs).mono ?_
  rintro e w' ⟨v, rfl, hown, hb⟩
  obtain ⟨a, c, rfl, hrow, -⟩ := hown.row
  rw [h.out, hn.out] at *
  rw [h.out] at hrow
  exact ⟨a, c, rfl, hrow, hb⟩

theorem sameN {a b : Option Addr} {c d n : Nat} {xs : List Pid} {w : World} (hn : Hid (xs.length = n)) (hl : n ≤ 70368744177664) (hx : PidRow w a xs) (hy : PidRow w b xs) : Calls Try.prog 24 #[.slice a n c, .slice b n d] w fun e w' => e = .returned (.bool true) ∧ Below w.heap.size w w' := by
  have := sameR_any a b c d xs xs w (by rw [hn.out]; exact hl) (by rw [hn.out]; exact hl) hx hy
  rw [hn.out, decide_eq_true rfl] at this
  exact this
set_option maxRecDepth 100000 in
set_option maxHeartbeats 25600000 in
theorem routeTells_law (V : View) (am al ad : Option Addr) (cm cl cd : Nat) (r : Nat → Int) (x y : Int) (k : Int) (w : World) (hV : ViewR w am al ad V) (hw : WfView V) (_ : 0 ≤ x ∧ x < 65536 ∧ 0 ≤ y ∧ y < 4294967296) (_ : -9223372036854775808 ≤ k ∧ k ≤ 9223372036854775807) :
    Calls Try.prog 11 #[viewV V am al ad cm cl cd, .agg (RL r).toArray, .agg #[.int .u16 x, .int .u32 y], .int .i64 k] w fun e w' => e = .returned (.bool true) ∧ Below w.heap.size w w' := by
  have hB2 : Below w.heap.size w (((w.alloc (.cells (vcells V am al ad cm cl cd) 68)).alloc (.cells (RL r).toArray 70)).alloc (.cells #[.int .u16 x, .int .u32 y] 32)) := (((Below.refl _ _).alloc (Nat.le_refl _) _).alloc (by simp) _).alloc (by simp; omega) _
  have F2 := Frm.made w V am al ad cm cl cd r x y
  have hV2 := hV.ext hB2
  obtain ⟨w2, hw2⟩ : ∃ w2, (((w.alloc (.cells (vcells V am al ad cm cl cd) 68)).alloc (.cells (RL r).toArray 70)).alloc (.cells #[.int .u16 x, .int .u32 y] 32)) = w2 := ⟨_, rfl⟩
  rw [hw2] at hB2 F2 hV2
  obtain ⟨a20, a21, a22, a23⟩ := F2.vb
  cases hr : rightB V
  · have HR := hid hr
    clear hr F2
    go_enter Try.func11, Try.ntmps11
    go_wp2_with (first
      | (go_at_call 45; refine (right_is HR hV2).mono ?_; rintro e w3 ⟨rfl, hb3⟩)
      | (go_at_call 46; refine (awakeR_any _).mono ?_; rintro e w4 ⟨rfl, hb4⟩))
    go_ret
    exact ⟨rfl, (hB2.trans (hb3.mono hB2.size)).trans (hb4.mono (by have := hb3.size; have := hB2.size; omega))⟩
  · obtain ⟨hs, -⟩ := right_small hw hr
    have hf := hs.fine
    have HR := hid hr
    clear hr
    obtain ⟨⟨⟨c1, c2⟩, cb⟩, hoc⟩ : ∃ q, optP (chiefP V (hasRu r)) = q := ⟨_, rfl⟩
    obtain ⟨⟨⟨s1, s2⟩, sb⟩, hos⟩ : ∃ q, optP (speakP V (hasRu r) k) = q := ⟨_, rfl⟩
    obtain ⟨⟨⟨u1, u2⟩, ub⟩, hou⟩ : ∃ q, optP (upP V (hasRu r) (x, y)) = q := ⟨_, rfl⟩
    obtain ⟨bs, hbs⟩ : ∃ b, speaksB V (hasRu r) (x, y) = b := ⟨_, rfl⟩
    obtain ⟨DD, hDD⟩ : ∃ D, downP V (hasRu r) (x, y) = D := ⟨_, rfl⟩
    obtain ⟨ND, hND⟩ : ∃ N, DD.length = N := ⟨_, rfl⟩
    obtain ⟨DB, hDB⟩ : ∃ D, beatsP V (hasRu r) (x, y) = D := ⟨_, rfl⟩
    obtain ⟨NB, hNB⟩ : ∃ N, DB.length = N := ⟨_, rfl⟩
    obtain ⟨DP, hDP⟩ : ∃ D, peersP V (x, y) = D := ⟨_, rfl⟩
    obtain ⟨NP, hNP⟩ : ∃ N, DP.length = N := ⟨_, rfl⟩
    have ld : DD.length ≤ 64 := by rw [← hDD]; exact downP_len hs
    have lb : DB.length ≤ 64 := by rw [← hDB]; exact Nat.le_trans beats_len hs.ms
    have lp : DP.length ≤ 64 := by rw [← hDP]; exact Nat.le_trans peers_len hs.ms
    have HOC := hid hoc
    have HOS := hid hos
    have HOU := hid hou
    have HBS := hid hbs
    have HDD := hid hDD
    have HND := hid hND
    have HDB := hid hDB
    have HNB := hid hNB
    have HDP := hid hDP
    have HNP := hid hNP
    clear hoc hos hou hbs hDD hND hDB hNB hDP hNP
    go_enter Try.func11, Try.ntmps11
    go_wp2_with fail
    (with_reducible refine (right_is HR hV2).mono ?_)
    rintro e wa0 ⟨rfl, hb0⟩
    have hB0 := hB2.trans (hb0.mono hB2.size)
    have G0 := F2.ext hb0
    have VW0 := hV2.ext hb0
    clear a20 a21 a22 a23 hb0 F2 hV2 hw2 hB2
    have hR0 := G0.rb
    obtain ⟨a00, a01, a02, a03⟩ := G0.vb
    have c00 := G0.c0
    have c01 := G0.c1
    go_wp2_with (refine wpList_loadRw (by assumption) (by rfl) rfl rfl ?_)
    (with_reducible refine (chiefA_pair HOC VW0 hf).mono ?_)
    rintro e wz1 ⟨rfl, hb1⟩
    have hba1 : Below wz1.heap.size wz1 (wz1.alloc (.cells #[.int .u16 c1, .int .u32 c2] 32)) := (Below.refl _ _).alloc (Nat.le_refl _) _
    have P11 : PtrTo (wz1.alloc (.cells #[.int .u16 c1, .int .u32 c2] 32)) wz1.heap.size (.int .u16 c1) (.int .u32 c2) := ⟨by simp, by simp⟩
    obtain ⟨wa1, hwa1⟩ : ∃ wa, wz1.alloc (.cells #[.int .u16 c1, .int .u32 c2] 32) = wa := ⟨_, rfl⟩
    rw [hwa1] at hba1 P11
    have hbb1 := hb1.trans (hba1.mono hb1.size)
    have hB1 := hB0.trans (hbb1.mono hB0.size)
    have G1 := G0.ext hbb1
    have VW1 := VW0.ext hbb1
    have hR1 := G1.rb
    obtain ⟨a10, a11, a12, a13⟩ := G1.vb
    have c10 := G1.c0
    have c11 := G1.c1
    go_wp2_with (refine wpList_loadRw (by assumption) (by rfl) rfl rfl ?_)
    (with_reducible refine (chiefRef_pair HOC VW1 hf).mono ?_)
    rintro e wz2 ⟨rfl, hb2⟩
    have hba2 : Below wz2.heap.size wz2 (wz2.alloc (.cells #[.int .u16 c1, .int .u32 c2] 32)) := (Below.refl _ _).alloc (Nat.le_refl _) _
    have P22 : PtrTo (wz2.alloc (.cells #[.int .u16 c1, .int .u32 c2] 32)) wz2.heap.size (.int .u16 c1) (.int .u32 c2) := ⟨by simp, by simp⟩
    obtain ⟨wa2, hwa2⟩ : ∃ wa, wz2.alloc (.cells #[.int .u16 c1, .int .u32 c2] 32) = wa := ⟨_, rfl⟩
    rw [hwa2] at hba2 P22
    have hbb2 := hb2.trans (hba2.mono hb2.size)
    have hB2 := hB1.trans (hbb2.mono hB1.size)
    have G2 := G1.ext hbb2
    have VW2 := VW1.ext hbb2
    have hR2 := G2.rb
    obtain ⟨a20, a21, a22, a23⟩ := G2.vb
    have c20 := G2.c0
    have c21 := G2.c1
    have P12 := P11.ext hbb2
    go_wp2_with (refine wpList_loadRw (by assumption) (by rfl) rfl rfl ?_)
    (with_reducible refine (speaker_pair HOS VW2 hf).mono ?_)
    rintro e wz3 ⟨rfl, hb3⟩
    have hba3 : Below wz3.heap.size wz3 (wz3.alloc (.cells #[.int .u16 s1, .int .u32 s2] 32)) := (Below.refl _ _).alloc (Nat.le_refl _) _
    have P33 : PtrTo (wz3.alloc (.cells #[.int .u16 s1, .int .u32 s2] 32)) wz3.heap.size (.int .u16 s1) (.int .u32 s2) := ⟨by simp, by simp⟩
    obtain ⟨wa3, hwa3⟩ : ∃ wa, wz3.alloc (.cells #[.int .u16 s1, .int .u32 s2] 32) = wa := ⟨_, rfl⟩
    rw [hwa3] at hba3 P33
    have hbb3 := hb3.trans (hba3.mono hb3.size)
    have hB3 := hB2.trans (hbb3.mono hB2.size)
    have G3 := G2.ext hbb3
    have VW3 := VW2.ext hbb3
    have hR3 := G3.rb
    obtain ⟨a30, a31, a32, a33⟩ := G3.vb
    have c30 := G3.c0
    have c31 := G3.c1
    have P13 := P12.ext hbb3
    have P23 := P22.ext hbb3
    go_wp2_with (refine wpList_loadRw (by assumption) (by rfl) rfl rfl ?_)
    (with_reducible refine (speakerRef_pair HOS VW3 hf).mono ?_)
    rintro e wz4 ⟨rfl, hb4⟩
    have hba4 : Below wz4.heap.size wz4 (wz4.alloc (.cells #[.int .u16 s1, .int .u32 s2] 32)) := (Below.refl _ _).alloc (Nat.le_refl _) _
    have P44 : PtrTo (wz4.alloc (.cells #[.int .u16 s1, .int .u32 s2] 32)) wz4.heap.size (.int .u16 s1) (.int .u32 s2) := ⟨by simp, by simp⟩
    obtain ⟨wa4, hwa4⟩ : ∃ wa, wz4.alloc (.cells #[.int .u16 s1, .int .u32 s2] 32) = wa := ⟨_, rfl⟩
    rw [hwa4] at hba4 P44
    have hbb4 := hb4.trans (hba4.mono hb4.size)
    have hB4 := hB3.trans (hbb4.mono hB3.size)
    have G4 := G3.ext hbb4
    have VW4 := VW3.ext hbb4
    have hR4 := G4.rb
    obtain ⟨a40, a41, a42, a43⟩ := G4.vb
    have c40 := G4.c0
    have c41 := G4.c1
    have P14 := P13.ext hbb4
    have P24 := P23.ext hbb4
    have P34 := P33.ext hbb4
    go_wp2_with (refine wpList_loadRw (by assumption) (by rfl) rfl rfl ?_)
    (with_reducible refine (up_pair HOU VW4 hf).mono ?_)
    rintro e wz5 ⟨rfl, hb5⟩
    have hba5 : Below wz5.heap.size wz5 (wz5.alloc (.cells #[.int .u16 u1, .int .u32 u2] 32)) := (Below.refl _ _).alloc (Nat.le_refl _) _
    have P55 : PtrTo (wz5.alloc (.cells #[.int .u16 u1, .int .u32 u2] 32)) wz5.heap.size (.int .u16 u1) (.int .u32 u2) := ⟨by simp, by simp⟩
    obtain ⟨wa5, hwa5⟩ : ∃ wa, wz5.alloc (.cells #[.int .u16 u1, .int .u32 u2] 32) = wa := ⟨_, rfl⟩
    rw [hwa5] at hba5 P55
    have hbb5 := hb5.trans (hba5.mono hb5.size)
    have hB5 := hB4.trans (hbb5.mono hB4.size)
    have G5 := G4.ext hbb5
    have VW5 := VW4.ext hbb5
    have hR5 := G5.rb
    obtain ⟨a50, a51, a52, a53⟩ := G5.vb
    have c50 := G5.c0
    have c51 := G5.c1
    have P15 := P14.ext hbb5
    have P25 := P24.ext hbb5
    have P35 := P34.ext hbb5
    have P45 := P44.ext hbb5
    go_wp2_with (refine wpList_loadRw (by assumption) (by rfl) rfl rfl ?_)
    (with_reducible refine (upRef_pair HOU VW5 hf).mono ?_)
    rintro e wz6 ⟨rfl, hb6⟩
    have hba6 : Below wz6.heap.size wz6 (wz6.alloc (.cells #[.int .u16 u1, .int .u32 u2] 32)) := (Below.refl _ _).alloc (Nat.le_refl _) _
    have P66 : PtrTo (wz6.alloc (.cells #[.int .u16 u1, .int .u32 u2] 32)) wz6.heap.size (.int .u16 u1) (.int .u32 u2) := ⟨by simp, by simp⟩
    obtain ⟨wa6, hwa6⟩ : ∃ wa, wz6.alloc (.cells #[.int .u16 u1, .int .u32 u2] 32) = wa := ⟨_, rfl⟩
    rw [hwa6] at hba6 P66
    have hbb6 := hb6.trans (hba6.mono hb6.size)
    have hB6 := hB5.trans (hbb6.mono hB5.size)
    have G6 := G5.ext hbb6
    have VW6 := VW5.ext hbb6
    have hR6 := G6.rb
    obtain ⟨a60, a61, a62, a63⟩ := G6.vb
    have c60 := G6.c0
    have c61 := G6.c1
    have P16 := P15.ext hbb6
    have P26 := P25.ext hbb6
    have P36 := P35.ext hbb6
    have P46 := P45.ext hbb6
    have P56 := P55.ext hbb6
    go_wp2_with fail
    clear hwa1 hwa2 hwa3 hwa4 hwa5 hwa6
    have hec := fun w => neq_pid c1 c2 c1 c2 w
    have hes := fun w => neq_pid s1 s2 s1 s2 w
    have heu := fun w => neq_pid u1 u2 u1 u2 w
    simp only [decide_true, Bool.not_true] at hec hes heu
    have hcb : (cb != cb) = false := by simp
    have hsb : (sb != sb) = false := by simp
    have hub : (ub != ub) = false := by simp
    have hbb : (bs != bs) = false := by simp
    have hu70 := Try.underlying70
    have hi70 := info70L r
    have HG := hid G6
    have HVW := hid VW6
    have q0 := cell_extw (G6.rb 0 (by decide)); have q1 := cell_extw (G6.rb 1 (by decide)); have q2 := cell_extw (G6.rb 2 (by decide)); have q3 := cell_extw (G6.rb 3 (by decide)); have q4 := cell_extw (G6.rb 4 (by decide)); have q5 := cell_extw (G6.rb 5 (by decide)); have q6 := cell_extw (G6.rb 6 (by decide)); have q7 := cell_extw (G6.rb 7 (by decide)); have q8 := cell_extw (G6.rb 8 (by decide)); have q9 := cell_extw (G6.rb 9 (by decide)); have q10 := cell_extw (G6.rb 10 (by decide)); have q11 := cell_extw (G6.rb 11 (by decide)); have q12 := cell_extw (G6.rb 12 (by decide)); have q13 := cell_extw (G6.rb 13 (by decide)); have q14 := cell_extw (G6.rb 14 (by decide)); have q15 := cell_extw (G6.rb 15 (by decide))
    have v0 := cell_extw a60; have v1 := cell_extw a61; have v2 := cell_extw a62; have v3 := cell_extw a63
    have w0 := cell_extw c60; have w1 := cell_extw c61
    have p10 := cell_extw P16.1; have p11 := cell_extw P16.2; have p20 := cell_extw P26.1; have p21 := cell_extw P26.2; have p30 := cell_extw P36.1; have p31 := cell_extw P36.2
    have p40 := cell_extw P46.1; have p41 := cell_extw P46.2; have p50 := cell_extw P56.1; have p51 := cell_extw P56.2; have p60 := cell_extw P66.1; have p61 := cell_extw P66.2
    have HV6 := VW6
    clear G0 VW0 hR0 a00 a01 a02 a03 c00 c01 G1 VW1 hR1 a10 a11 a12 a13 c10 c11 G2 VW2 hR2 a20 a21 a22 a23 c20 c21 G3 VW3 hR3 a30 a31 a32 a33 c30 c31 G4 VW4 hR4 a40 a41 a42 a43 c40 c41 G5 VW5 hR5 a50 a51 a52 a53 c50 c51 G6 VW6 hR6 a60 a61 a62 a63 c60 c61 P11 P12 P22 P13 P23 P33 P14 P24 P34 P44 P15 P25 P35 P45 P55 P16 P26 P36 P46 P56 P66 hb1 hba1 hbb1 hb2 hba2 hbb2 hb3 hba3 hbb3 hb4 hba4 hbb4 hb5 hba5 hbb5 hb6 hba6 hbb6 hB0 hB1 hB2 hB3 hB4 hB5
    refine wp_region_ext (w := wa6) (Below.refl _ _) (by kernel_rfl) (by kernel_rfl) ?_
    repeat (go_big_quiet_step (first | (with_reducible exact speaks_ext HBS HV6 hf) | (with_reducible exact speaksRef_ext HBS HV6 hf)))
    refine wpQuiet_nil ?_
    rintro w9 ⟨⟨_, hb9⟩, rfl⟩
    go_wp2
    have hlD : ND ≤ 70368744177664 := by rw [← HND.out]; omega
    have hlB : NB ≤ 70368744177664 := by rw [← HNB.out]; omega
    have hlP : NP ≤ 70368744177664 := by rw [← HNP.out]; omega
    have GQ := HG.out.ext hb9
    have VWQ := HVW.out.ext hb9
    have HVWQ := hid VWQ
    have hBQ := hB6.trans (hb9.mono hB6.size)
    have HS : Hid (∀ W, Below w9.heap.size w9 W → Below w9.heap.size w9 W ∧ W.rangeAt (w.heap.size + 1) 0 (RL r) ∧ W.cell? ⟨w.heap.size, 0, none⟩ = some (.int .u64 V.id) ∧ W.cell? ⟨w.heap.size, 1, none⟩ = some (.slice am V.ms.length cm) ∧ W.cell? ⟨w.heap.size, 2, none⟩ = some (.slice al V.ls.length cl) ∧ W.cell? ⟨w.heap.size, 3, none⟩ = some (.slice ad V.ds.length cd) ∧ W.cell? ⟨w.heap.size + 1 + 1, 0, none⟩ = some (.int .u16 x) ∧ W.cell? ⟨w.heap.size + 1 + 1, 1, none⟩ = some (.int .u32 y)) := hid fun W h => ⟨h, (GQ.ext h).rb.range, (GQ.ext h).vb.c0, (GQ.ext h).vb.c1, (GQ.ext h).vb.c2, (GQ.ext h).vb.c3, (GQ.ext h).c0, (GQ.ext h).c1⟩
    have C49 : Hid (∀ W, Below w9.heap.size w9 W → Calls Try.prog 49 #[.agg #[.int .u64 V.id, .slice am V.ms.length cm, .slice al V.ls.length cl, .slice ad V.ds.length cd], .agg (RL r).toArray, .agg #[.int .u16 x, .int .u32 y]] W fun e w' => ∃ a c, e = .returned (.slice a ND c) ∧ PidRow w' a DD ∧ Below W.heap.size W w' ∧ Below w9.heap.size w9 w') := hid fun W h => ((down_is HDD HND (HVWQ.out.ext h) hs).mono fun e w' ⟨a, c, h1, h2, h3⟩ => ⟨a, c, h1, h2, h3, h.trans (h3.mono h.size)⟩)
    have C57 : Hid (∀ W, Below w9.heap.size w9 W → Calls Try.prog 57 #[.agg #[.int .u64 V.id, .slice am V.ms.length cm, .slice al V.ls.length cl, .slice ad V.ds.length cd], .agg (RL r).toArray, .agg #[.int .u16 x, .int .u32 y]] W fun e w' => ∃ a c, e = .returned (.slice a ND c) ∧ PidRow w' a DD ∧ Below W.heap.size W w' ∧ Below w9.heap.size w9 w') := hid fun W h => ((downRef_is HDD HND (HVWQ.out.ext h) hs).mono fun e w' ⟨a, c, h1, h2, h3⟩ => ⟨a, c, h1, h2, h3, h.trans (h3.mono h.size)⟩)
    have C58 : Hid (∀ W, Below w9.heap.size w9 W → Calls Try.prog 58 #[.agg #[.int .u64 V.id, .slice am V.ms.length cm, .slice al V.ls.length cl, .slice ad V.ds.length cd], .agg (RL r).toArray, .agg #[.int .u16 x, .int .u32 y]] W fun e w' => ∃ a c, e = .returned (.slice a NB c) ∧ PidRow w' a DB ∧ Below W.heap.size W w' ∧ Below w9.heap.size w9 w') := hid fun W h => ((beats_is HDB HNB (HVWQ.out.ext h) hs).mono fun e w' ⟨a, c, h1, h2, h3⟩ => ⟨a, c, h1, h2, h3, h.trans (h3.mono h.size)⟩)
    have C59 : Hid (∀ W, Below w9.heap.size w9 W → Calls Try.prog 59 #[.agg #[.int .u64 V.id, .slice am V.ms.length cm, .slice al V.ls.length cl, .slice ad V.ds.length cd], .agg (RL r).toArray, .agg #[.int .u16 x, .int .u32 y]] W fun e w' => ∃ a c, e = .returned (.slice a NB c) ∧ PidRow w' a DB ∧ Below W.heap.size W w' ∧ Below w9.heap.size w9 w') := hid fun W h => ((beatsRef_is HDB HNB (HVWQ.out.ext h) hs).mono fun e w' ⟨a, c, h1, h2, h3⟩ => ⟨a, c, h1, h2, h3, h.trans (h3.mono h.size)⟩)
    have C60 : Hid (∀ W, Below w9.heap.size w9 W → Calls Try.prog 60 #[.agg #[.int .u64 V.id, .slice am V.ms.length cm, .slice al V.ls.length cl, .slice ad V.ds.length cd], .agg #[.int .u16 x, .int .u32 y]] W fun e w' => ∃ a c, e = .returned (.slice a NP c) ∧ PidRow w' a DP ∧ Below W.heap.size W w' ∧ Below w9.heap.size w9 w') := hid fun W h => ((peers_is HDP HNP (HVWQ.out.ext h) hs).mono fun e w' ⟨a, c, h1, h2, h3⟩ => ⟨a, c, h1, h2, h3, h.trans (h3.mono h.size)⟩)
    have C61 : Hid (∀ W, Below w9.heap.size w9 W → Calls Try.prog 61 #[.agg #[.int .u64 V.id, .slice am V.ms.length cm, .slice al V.ls.length cl, .slice ad V.ds.length cd], .agg #[.int .u16 x, .int .u32 y]] W fun e w' => ∃ a c, e = .returned (.slice a NP c) ∧ PidRow w' a DP ∧ Below W.heap.size W w' ∧ Below w9.heap.size w9 w') := hid fun W h => ((peersRef_is HDP HNP (HVWQ.out.ext h) hs).mono fun e w' ⟨a, c, h1, h2, h3⟩ => ⟨a, c, h1, h2, h3, h.trans (h3.mono h.size)⟩)
    have C24D : Hid (∀ W a c b d, Below w9.heap.size w9 W → PidRow W a DD → PidRow W b DD → Calls Try.prog 24 #[.slice a ND c, .slice b ND d] W fun e w' => e = .returned (.bool true) ∧ Below w9.heap.size w9 w') := hid fun W a c b d h h1 h2 => rel h (sameN HND hlD h1 h2) rfl
    have C24B : Hid (∀ W a c b d, Below w9.heap.size w9 W → PidRow W a DB → PidRow W b DB → Calls Try.prog 24 #[.slice a NB c, .slice b NB d] W fun e w' => e = .returned (.bool true) ∧ Below w9.heap.size w9 w') := hid fun W a c b d h h1 h2 => rel h (sameN HNB hlB h1 h2) rfl
    have C24P : Hid (∀ W a c b d, Below w9.heap.size w9 W → PidRow W a DP → PidRow W b DP → Calls Try.prog 24 #[.slice a NP c, .slice b NP d] W fun e w' => e = .returned (.bool true) ∧ Below w9.heap.size w9 w') := hid fun W a c b d h h1 h2 => rel h (sameN HNP hlP h1 h2) rfl
    have C46 : Hid (∀ W, Below w9.heap.size w9 W → Calls Try.prog 46 #[] W fun e w' => e = .returned (.bool true) ∧ Below w9.heap.size w9 w') := hid fun W h => rel h (awakeR_any W) rfl
    have H0 : Below w9.heap.size w9 w9.drew := (Below.refl _ _).drew
    clear GQ VWQ ld lb lp
    refine wp_region_held_drew (S := fun W => Below w9.heap.size w9 W ∧ W.rangeAt (w.heap.size + 1) 0 (RL r) ∧ W.cell? ⟨w.heap.size, 0, none⟩ = some (.int .u64 V.id) ∧ W.cell? ⟨w.heap.size, 1, none⟩ = some (.slice am V.ms.length cm) ∧ W.cell? ⟨w.heap.size, 2, none⟩ = some (.slice al V.ls.length cl) ∧ W.cell? ⟨w.heap.size, 3, none⟩ = some (.slice ad V.ds.length cd) ∧ W.cell? ⟨w.heap.size + 1 + 1, 0, none⟩ = some (.int .u16 x) ∧ W.cell? ⟨w.heap.size + 1 + 1, 1, none⟩ = some (.int .u32 y)) (by kernel_rfl) (HS.out _ H0) (fun hHeld => ?_)
    refine wpAnyH_take (i := 0) (oi := _) (v := .agg #[.int .u64 V.id, .slice am V.ms.length cm, .slice al V.ls.length cl, .slice ad V.ds.length cd]) rfl (by kernel_rfl) (by kernel_rfl) (by kernel_rfl) (fun _ _ _ h => h) (Or.inl ⟨by rfl, ?_⟩) (by assumption) ?_
    · intro W hSw
      try dsimp only at hSw
      obtain ⟨s0, s1, s2, s3, s4, s5, s6, s7⟩ := hSw
      go_simp
    try simp only [Act.put, List.setIfInBounds_toArray, List.set_cons_zero, List.set_cons_succ]
    refine wpAnyH_take (i := 1) (oi := _) (v := .agg (RL r).toArray) rfl (by kernel_rfl) (by kernel_rfl) (by kernel_rfl) (fun _ _ _ h => h) (yieldsIf_load_mid (by rfl) 70 _ rfl _ 0 rfl (RL r) _ (fun W h => h.2.1) hu70 rfl hi70) (by assumption) ?_
    try simp only [Act.put, List.setIfInBounds_toArray, List.set_cons_zero, List.set_cons_succ]
    refine wpAnyH_take (i := 2) (oi := _) (v := .agg #[.int .u16 x, .int .u32 y]) rfl (by kernel_rfl) (by kernel_rfl) (by kernel_rfl) (fun _ _ _ h => h) (Or.inl ⟨by rfl, ?_⟩) (by assumption) ?_
    · intro W hSw
      try dsimp only at hSw
      obtain ⟨s0, s1, s2, s3, s4, s5, s6, s7⟩ := hSw
      go_simp
    try simp only [Act.put, List.setIfInBounds_toArray, List.set_cons_zero, List.set_cons_succ]
    refine wpAnyH_take (i := 4) (oi := _) (v := .agg #[.int .u64 V.id, .slice am V.ms.length cm, .slice al V.ls.length cl, .slice ad V.ds.length cd]) rfl (by kernel_rfl) (by kernel_rfl) (by kernel_rfl) (fun _ _ _ h => h) (Or.inl ⟨by rfl, ?_⟩) (by assumption) ?_
    · intro W hSw
      try dsimp only at hSw
      obtain ⟨s0, s1, s2, s3, s4, s5, s6, s7⟩ := hSw
      go_simp
    try simp only [Act.put, List.setIfInBounds_toArray, List.set_cons_zero, List.set_cons_succ]
    refine wpAnyH_take (i := 5) (oi := _) (v := .agg (RL r).toArray) rfl (by kernel_rfl) (by kernel_rfl) (by kernel_rfl) (fun _ _ _ h => h) (yieldsIf_load_mid (by rfl) 70 _ rfl _ 0 rfl (RL r) _ (fun W h => h.2.1) hu70 rfl hi70) (by assumption) ?_
    try simp only [Act.put, List.setIfInBounds_toArray, List.set_cons_zero, List.set_cons_succ]
    refine wpAnyH_take (i := 6) (oi := _) (v := .agg #[.int .u16 x, .int .u32 y]) rfl (by kernel_rfl) (by kernel_rfl) (by kernel_rfl) (fun _ _ _ h => h) (Or.inl ⟨by rfl, ?_⟩) (by assumption) ?_
    · intro W hSw
      try dsimp only at hSw
      obtain ⟨s0, s1, s2, s3, s4, s5, s6, s7⟩ := hSw
      go_simp
    try simp only [Act.put, List.setIfInBounds_toArray, List.set_cons_zero, List.set_cons_succ]
    refine wpAnyH_ready (rs := [3]) (by kernel_rfl) (by simp) ?_
    refine AllReadyH.cons (o := _) rfl (fun K hK => ?_) AllReadyH.nil
    go_simp
    (with_reducible refine (C49.out _ H0).mono ?_)
    rintro e w21 ⟨a21, c21, rfl, hrow21, hbb21, hb21⟩
    first | go_wp2_with fail | skip
    refine hK.out _ _ (HS.out _ hb21) (fun hHeld => ?_)
    clear hK K
    try simp only [Act.put, List.setIfInBounds_toArray, List.set_cons_zero, List.set_cons_succ]
    refine wpAnyH_ready (rs := [7]) (by kernel_rfl) (by simp) ?_
    refine AllReadyH.cons (o := _) rfl (fun K hK => ?_) AllReadyH.nil
    go_simp
    (with_reducible refine (C57.out _ hb21).mono ?_)
    rintro e w22 ⟨a22, c22, rfl, hrow22, hbb22, hb22⟩
    have hrow21b := hrow21.ext hbb22
    first | go_wp2_with fail | skip
    refine hK.out _ _ (HS.out _ hb22) (fun hHeld => ?_)
    clear hK K
    try simp only [Act.put, List.setIfInBounds_toArray, List.set_cons_zero, List.set_cons_succ]
    refine wpAnyH_ready (rs := [8]) (by kernel_rfl) (by simp) ?_
    refine AllReadyH.cons (o := _) rfl (fun K hK => ?_) AllReadyH.nil
    go_simp
    (with_reducible refine (C24D.out _ _ _ _ _ hb22 hrow21b hrow22).mono ?_)
    rintro e w23 ⟨rfl, hb23⟩
    first | go_wp2_with fail | skip
    refine hK.out _ _ (HS.out _ hb23) (fun hHeld => ?_)
    clear hK K
    try simp only [Act.put, List.setIfInBounds_toArray, List.set_cons_zero, List.set_cons_succ]
    refine wpAnyH_take (i := 9) (oi := _) (v := .bool true) rfl (by kernel_rfl) (by kernel_rfl) (by kernel_rfl) (fun _ _ _ h => h) (Or.inl ⟨by rfl, ?_⟩) (by assumption) ?_
    · intro W hSw
      try dsimp only at hSw
      obtain ⟨s0, s1, s2, s3, s4, s5, s6, s7⟩ := hSw
      go_simp
    try simp only [Act.put, List.setIfInBounds_toArray, List.set_cons_zero, List.set_cons_succ]
    refine wpAnyH_take (i := 10) (oi := _) (v := .agg #[.int .u64 V.id, .slice am V.ms.length cm, .slice al V.ls.length cl, .slice ad V.ds.length cd]) rfl (by kernel_rfl) (by kernel_rfl) (by kernel_rfl) (fun _ _ _ h => h) (Or.inl ⟨by rfl, ?_⟩) (by assumption) ?_
    · intro W hSw
      try dsimp only at hSw
      obtain ⟨s0, s1, s2, s3, s4, s5, s6, s7⟩ := hSw
      go_simp
    try simp only [Act.put, List.setIfInBounds_toArray, List.set_cons_zero, List.set_cons_succ]
    refine wpAnyH_take (i := 11) (oi := _) (v := .agg (RL r).toArray) rfl (by kernel_rfl) (by kernel_rfl) (by kernel_rfl) (fun _ _ _ h => h) (yieldsIf_load_mid (by rfl) 70 _ rfl _ 0 rfl (RL r) _ (fun W h => h.2.1) hu70 rfl hi70) (by assumption) ?_
    try simp only [Act.put, List.setIfInBounds_toArray, List.set_cons_zero, List.set_cons_succ]
    refine wpAnyH_take (i := 12) (oi := _) (v := .agg #[.int .u16 x, .int .u32 y]) rfl (by kernel_rfl) (by kernel_rfl) (by kernel_rfl) (fun _ _ _ h => h) (Or.inl ⟨by rfl, ?_⟩) (by assumption) ?_
    · intro W hSw
      try dsimp only at hSw
      obtain ⟨s0, s1, s2, s3, s4, s5, s6, s7⟩ := hSw
      go_simp
    try simp only [Act.put, List.setIfInBounds_toArray, List.set_cons_zero, List.set_cons_succ]
    refine wpAnyH_take (i := 14) (oi := _) (v := .agg #[.int .u64 V.id, .slice am V.ms.length cm, .slice al V.ls.length cl, .slice ad V.ds.length cd]) rfl (by kernel_rfl) (by kernel_rfl) (by kernel_rfl) (fun _ _ _ h => h) (Or.inl ⟨by rfl, ?_⟩) (by assumption) ?_
    · intro W hSw
      try dsimp only at hSw
      obtain ⟨s0, s1, s2, s3, s4, s5, s6, s7⟩ := hSw
      go_simp
    try simp only [Act.put, List.setIfInBounds_toArray, List.set_cons_zero, List.set_cons_succ]
    refine wpAnyH_take (i := 15) (oi := _) (v := .agg (RL r).toArray) rfl (by kernel_rfl) (by kernel_rfl) (by kernel_rfl) (fun _ _ _ h => h) (yieldsIf_load_mid (by rfl) 70 _ rfl _ 0 rfl (RL r) _ (fun W h => h.2.1) hu70 rfl hi70) (by assumption) ?_
    try simp only [Act.put, List.setIfInBounds_toArray, List.set_cons_zero, List.set_cons_succ]
    refine wpAnyH_take (i := 16) (oi := _) (v := .agg #[.int .u16 x, .int .u32 y]) rfl (by kernel_rfl) (by kernel_rfl) (by kernel_rfl) (fun _ _ _ h => h) (Or.inl ⟨by rfl, ?_⟩) (by assumption) ?_
    · intro W hSw
      try dsimp only at hSw
      obtain ⟨s0, s1, s2, s3, s4, s5, s6, s7⟩ := hSw
      go_simp
    try simp only [Act.put, List.setIfInBounds_toArray, List.set_cons_zero, List.set_cons_succ]
    refine wpAnyH_ready (rs := [13]) (by kernel_rfl) (by simp) ?_
    refine AllReadyH.cons (o := _) rfl (fun K hK => ?_) AllReadyH.nil
    go_simp
    (with_reducible refine (C58.out _ hb23).mono ?_)
    rintro e w24 ⟨a24, c24, rfl, hrow24, hbb24, hb24⟩
    first | go_wp2_with fail | skip
    refine hK.out _ _ (HS.out _ hb24) (fun hHeld => ?_)
    clear hK K
    try simp only [Act.put, List.setIfInBounds_toArray, List.set_cons_zero, List.set_cons_succ]
    refine wpAnyH_ready (rs := [17]) (by kernel_rfl) (by simp) ?_
    refine AllReadyH.cons (o := _) rfl (fun K hK => ?_) AllReadyH.nil
    go_simp
    (with_reducible refine (C59.out _ hb24).mono ?_)
    rintro e w25 ⟨a25, c25, rfl, hrow25, hbb25, hb25⟩
    have hrow24b := hrow24.ext hbb25
    first | go_wp2_with fail | skip
    refine hK.out _ _ (HS.out _ hb25) (fun hHeld => ?_)
    clear hK K
    try simp only [Act.put, List.setIfInBounds_toArray, List.set_cons_zero, List.set_cons_succ]
    refine wpAnyH_ready (rs := [18]) (by kernel_rfl) (by simp) ?_
    refine AllReadyH.cons (o := _) rfl (fun K hK => ?_) AllReadyH.nil
    go_simp
    (with_reducible refine (C24B.out _ _ _ _ _ hb25 hrow24b hrow25).mono ?_)
    rintro e w26 ⟨rfl, hb26⟩
    first | go_wp2_with fail | skip
    refine hK.out _ _ (HS.out _ hb26) (fun hHeld => ?_)
    clear hK K
    try simp only [Act.put, List.setIfInBounds_toArray, List.set_cons_zero, List.set_cons_succ]
    refine wpAnyH_take (i := 19) (oi := _) (v := .bool true) rfl (by kernel_rfl) (by kernel_rfl) (by kernel_rfl) (fun _ _ _ h => h) (Or.inl ⟨by rfl, ?_⟩) (by assumption) ?_
    · intro W hSw
      try dsimp only at hSw
      obtain ⟨s0, s1, s2, s3, s4, s5, s6, s7⟩ := hSw
      go_simp
    try simp only [Act.put, List.setIfInBounds_toArray, List.set_cons_zero, List.set_cons_succ]
    refine wpAnyH_take (i := 20) (oi := _) (v := .bool true) rfl (by kernel_rfl) (by kernel_rfl) (by kernel_rfl) (fun _ _ _ h => h) (Or.inl ⟨by rfl, ?_⟩) (by assumption) ?_
    · intro W hSw
      try dsimp only at hSw
      obtain ⟨s0, s1, s2, s3, s4, s5, s6, s7⟩ := hSw
      go_simp
    try simp only [Act.put, List.setIfInBounds_toArray, List.set_cons_zero, List.set_cons_succ]
    refine wpAnyH_take (i := 21) (oi := _) (v := .agg #[.int .u64 V.id, .slice am V.ms.length cm, .slice al V.ls.length cl, .slice ad V.ds.length cd]) rfl (by kernel_rfl) (by kernel_rfl) (by kernel_rfl) (fun _ _ _ h => h) (Or.inl ⟨by rfl, ?_⟩) (by assumption) ?_
    · intro W hSw
      try dsimp only at hSw
      obtain ⟨s0, s1, s2, s3, s4, s5, s6, s7⟩ := hSw
      go_simp
    try simp only [Act.put, List.setIfInBounds_toArray, List.set_cons_zero, List.set_cons_succ]
    refine wpAnyH_take (i := 22) (oi := _) (v := .agg #[.int .u16 x, .int .u32 y]) rfl (by kernel_rfl) (by kernel_rfl) (by kernel_rfl) (fun _ _ _ h => h) (Or.inl ⟨by rfl, ?_⟩) (by assumption) ?_
    · intro W hSw
      try dsimp only at hSw
      obtain ⟨s0, s1, s2, s3, s4, s5, s6, s7⟩ := hSw
      go_simp
    try simp only [Act.put, List.setIfInBounds_toArray, List.set_cons_zero, List.set_cons_succ]
    refine wpAnyH_take (i := 24) (oi := _) (v := .agg #[.int .u64 V.id, .slice am V.ms.length cm, .slice al V.ls.length cl, .slice ad V.ds.length cd]) rfl (by kernel_rfl) (by kernel_rfl) (by kernel_rfl) (fun _ _ _ h => h) (Or.inl ⟨by rfl, ?_⟩) (by assumption) ?_
    · intro W hSw
      try dsimp only at hSw
      obtain ⟨s0, s1, s2, s3, s4, s5, s6, s7⟩ := hSw
      go_simp
    try simp only [Act.put, List.setIfInBounds_toArray, List.set_cons_zero, List.set_cons_succ]
    refine wpAnyH_take (i := 25) (oi := _) (v := .agg #[.int .u16 x, .int .u32 y]) rfl (by kernel_rfl) (by kernel_rfl) (by kernel_rfl) (fun _ _ _ h => h) (Or.inl ⟨by rfl, ?_⟩) (by assumption) ?_
    · intro W hSw
      try dsimp only at hSw
      obtain ⟨s0, s1, s2, s3, s4, s5, s6, s7⟩ := hSw
      go_simp
    try simp only [Act.put, List.setIfInBounds_toArray, List.set_cons_zero, List.set_cons_succ]
    refine wpAnyH_ready (rs := [23]) (by kernel_rfl) (by simp) ?_
    refine AllReadyH.cons (o := _) rfl (fun K hK => ?_) AllReadyH.nil
    go_simp
    (with_reducible refine (C60.out _ hb26).mono ?_)
    rintro e w27 ⟨a27, c27, rfl, hrow27, hbb27, hb27⟩
    first | go_wp2_with fail | skip
    refine hK.out _ _ (HS.out _ hb27) (fun hHeld => ?_)
    clear hK K
    try simp only [Act.put, List.setIfInBounds_toArray, List.set_cons_zero, List.set_cons_succ]
    refine wpAnyH_ready (rs := [26]) (by kernel_rfl) (by simp) ?_
    refine AllReadyH.cons (o := _) rfl (fun K hK => ?_) AllReadyH.nil
    go_simp
    (with_reducible refine (C61.out _ hb27).mono ?_)
    rintro e w28 ⟨a28, c28, rfl, hrow28, hbb28, hb28⟩
    have hrow27b := hrow27.ext hbb28
    first | go_wp2_with fail | skip
    refine hK.out _ _ (HS.out _ hb28) (fun hHeld => ?_)
    clear hK K
    try simp only [Act.put, List.setIfInBounds_toArray, List.set_cons_zero, List.set_cons_succ]
    refine wpAnyH_ready (rs := [27]) (by kernel_rfl) (by simp) ?_
    refine AllReadyH.cons (o := _) rfl (fun K hK => ?_) AllReadyH.nil
    go_simp
    (with_reducible refine (C24P.out _ _ _ _ _ hb28 hrow27b hrow28).mono ?_)
    rintro e w29 ⟨rfl, hb29⟩
    first | go_wp2_with fail | skip
    refine hK.out _ _ (HS.out _ hb29) (fun hHeld => ?_)
    clear hK K
    try simp only [Act.put, List.setIfInBounds_toArray, List.set_cons_zero, List.set_cons_succ]
    refine wpAnyH_take (i := 28) (oi := _) (v := .bool true) rfl (by kernel_rfl) (by kernel_rfl) (by kernel_rfl) (fun _ _ _ h => h) (Or.inl ⟨by rfl, ?_⟩) (by assumption) ?_
    · intro W hSw
      try dsimp only at hSw
      obtain ⟨s0, s1, s2, s3, s4, s5, s6, s7⟩ := hSw
      go_simp
    try simp only [Act.put, List.setIfInBounds_toArray, List.set_cons_zero, List.set_cons_succ]
    refine wpAnyH_take (i := 29) (oi := _) (v := .bool true) rfl (by kernel_rfl) (by kernel_rfl) (by kernel_rfl) (fun _ _ _ h => h) (Or.inl ⟨by rfl, ?_⟩) (by assumption) ?_
    · intro W hSw
      try dsimp only at hSw
      obtain ⟨s0, s1, s2, s3, s4, s5, s6, s7⟩ := hSw
      go_simp
    try simp only [Act.put, List.setIfInBounds_toArray, List.set_cons_zero, List.set_cons_succ]
    refine wpAnyH_ready (rs := [30]) (by kernel_rfl) (by simp) ?_
    refine AllReadyH.cons (o := _) rfl (fun K hK => ?_) AllReadyH.nil
    go_simp
    (with_reducible refine (C46.out _ hb29).mono ?_)
    rintro e w30 ⟨rfl, hb30⟩
    first | go_wp2_with fail | skip
    refine hK.out _ _ (HS.out _ hb30) (fun hHeld => ?_)
    clear hK K
    try simp only [Act.put, List.setIfInBounds_toArray, List.set_cons_zero, List.set_cons_succ]
    refine wpAnyH_take (i := 31) (oi := _) (v := .bool true) rfl (by kernel_rfl) (by kernel_rfl) (by kernel_rfl) (fun _ _ _ h => h) (Or.inl ⟨by rfl, ?_⟩) (by assumption) ?_
    · intro W hSw
      try dsimp only at hSw
      obtain ⟨s0, s1, s2, s3, s4, s5, s6, s7⟩ := hSw
      go_simp
    try simp only [Act.put, List.getElem_toArray, List.getElem_cons_succ, List.getElem_cons_zero, List.setIfInBounds_toArray, List.set_cons_zero, List.set_cons_succ]
    refine wpAnyH_take (i := 32) (oi := _) (v := .bool true) rfl (by kernel_rfl) (by kernel_rfl) (by kernel_rfl) (fun _ _ _ h => h) (Or.inl ⟨by rfl, ?_⟩) (by assumption) ?_
    · intro W hSw
      try dsimp only at hSw
      obtain ⟨s0, s1, s2, s3, s4, s5, s6, s7⟩ := hSw
      go_simp
    try simp only [Act.put, List.getElem_toArray, List.getElem_cons_succ, List.getElem_cons_zero, List.setIfInBounds_toArray, List.set_cons_zero, List.set_cons_succ]
    refine wpAnyH_done (by kernel_rfl) ?_ _
    go_wp2
    go_ret
    exact ⟨by simp [Array.getD_eq_getD_getElem?, List.getElem?_set], hBQ.trans (hb30.mono hBQ.size)⟩
end Go.Proofs.Ytjjahefedpfnaaa
