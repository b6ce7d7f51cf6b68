/- Parts of the proof: X86 X87. -/
import Derived.Test.YtbpfhclcjedkcaaSm51
import Derived.Test.YtbpfhclcjedkcaaX77
namespace Go.Proofs.Ytbpfhclcjedkcaa
open Go.RowKit
/-! ### the reference's DecodeBeat -/
def BL (x : BeatD) (a : Option Addr) (c : Nat) : List Value := [.int .u64 x.v, .int .u64 x.ap, .int .u64 x.be, .int .u64 x.st, .slice a x.sus.length c]
abbrev zB : List Value := [.int .u64 0, .int .u64 0, .int .u64 0, .int .u64 0, .slice none 0 0]
theorem infoBt : (Try.prog.info? 54).map (·.size) = some 5 := by kernel_rfl
theorem OutL.put5 {w : World} {q : Nat} {u0 u1 u2 u3 u4 : Value} (h : OutL w q [u0, u1, u2, u3, u4]) (v0 v1 v2 v3 v4 : Value) : OutL (((((w.setCell ⟨q, 0, none⟩ v0).setCell ⟨q, 1, none⟩ v1).setCell ⟨q, 2, none⟩ v2).setCell ⟨q, 3, none⟩ v3).setCell ⟨q, 4, none⟩ v4) q [v0, v1, v2, v3, v4] :=
  ((((h.set (j := 0) (by simp) v0).set (j := 1) (by simp) v1).set (j := 2) (by simp) v2).set (j := 3) (by simp) v3).set (j := 4) (by simp) v4
theorem mut5 {w : World} {q : Nat} {v0 v1 v2 v3 v4 : Value} : Mut (fun k => k = q) w (((((w.setCell ⟨q, 0, none⟩ v0).setCell ⟨q, 1, none⟩ v1).setCell ⟨q, 2, none⟩ v2).setCell ⟨q, 3, none⟩ v3).setCell ⟨q, 4, none⟩ v4) :=
  (((mut1.trans mut1).trans mut1).trans mut1).trans mut1
theorem PidRow.mutFar {G : Nat → Prop} {w w' : World} {a : Option Addr} {l : List Pid} {B : Nat} (h : PidRow w a l) (hm : Mut G w w') (hB : ∀ b off, a = some ⟨b, off, none⟩ → B ≤ b) (hG : ∀ k, G k → k < B) : PidRow w' a l :=
  h.mutT hm (fun b off e _ hk => by have := hB b off e; have := hG b hk; omega)
/-- what a beat read of bytes is known to be -/
theorem rBeat_ok (bs : List Nat) : (∀ p ∈ (rBeat bs).1.sus, okP p) ∧ (rBeat bs).1.sus.length ≤ 24 := by
  have h1 : ∀ S : RS, (∀ p ∈ (rBeatParts S).1.sus, okP p) ∧ (rBeatParts S).1.sus.length ≤ 24 := fun S => ⟨fun p hp => rPids_ok p hp, rPids_len⟩
  unfold rBeat
  split
  · exact ⟨by simp [zeroB], by simp [zeroB]⟩
  · split
    · exact ⟨by simp [zeroB], by simp [zeroB]⟩
    · exact h1 _
set_option maxRecDepth 100000 in
set_option maxHeartbeats 6400000 in
theorem decodeBeatR_any {ba : Option Addr} {bc n : Nat} {bs : List Nat} {w : World} (hn : Hid (bs.length = n)) (hl : n ≤ 70368744177664) (hcp : n ≤ bc) (hby : ∀ b ∈ bs, b < 256) (hrow : ByteRow w ba bs) :
    Calls Try.prog 33 #[.slice ba n bc] w fun e w' => ∃ a c, e = .returned (.tuple #[.agg (BL (rBeat bs).1 a c).toArray, .int .i64 (rBeat bs).2]) ∧ PidRow w' a (rBeat bs).1.sus ∧ Below w.heap.size w w' := by
  obtain ⟨W1, hW1⟩ : ∃ W1, w.alloc (.cells #[.int .u64 0, .int .u64 0, .int .u64 0, .int .u64 0, .slice none 0 0] 54) = W1 := ⟨_, rfl⟩
  have hB1 : Below w.heap.size w W1 := by rw [← hW1]; exact (Below.refl _ _).alloc (Nat.le_refl _) _
  have hz1 : W1.heap.size = w.heap.size + 1 := by rw [← hW1]; simp
  have xR : OutL W1 w.heap.size zB := by rw [← hW1]; exact OutL.made _ _ _
  obtain ⟨w2, hw2⟩ : ∃ w2, W1.alloc (.cells #[.slice ba n bc, .int .i64 0] 176) = w2 := ⟨_, rfl⟩
  obtain ⟨s, hs⟩ : ∃ s, W1.heap.size = s := ⟨_, rfl⟩
  have hR2 : RdIs w2 s ba bc ⟨bs, 0⟩ := by
    rw [← hw2, ← hs]
    exact RdIs.made W1 _ hn.out (hrow.ext hB1) (by rw [hn.out]; exact hcp) hby (by rw [hn.out]; exact hl)
  have hb2 : Below W1.heap.size W1 w2 := by rw [← hw2]; exact (Below.refl _ _).alloc (Nat.le_refl _) _
  obtain ⟨R, hR⟩ : ∃ R, w.heap.size = R := ⟨_, rfl⟩
  rw [hR] at xR hz1
  have xR2 := xR.ext hb2 (xR.lt (by decide))
  have hRs : R < s := by omega
  have HBW2 := hid (hB1.trans (hb2.mono hB1.size))
  obtain ⟨⟨n0, S1⟩, h0⟩ : ∃ r, rNum 4611686018427387904 ⟨bs, 0⟩ = r := ⟨_, rfl⟩
  obtain ⟨⟨n1, S2⟩, h1⟩ : ∃ r, rNum 4611686018427387904 S1 = r := ⟨_, rfl⟩
  obtain ⟨⟨n2, S3⟩, h2⟩ : ∃ r, rNum 4611686018427387904 S2 = r := ⟨_, rfl⟩
  obtain ⟨⟨n3, S4⟩, h3⟩ : ∃ r, rNum 4611686018427387904 S3 = r := ⟨_, rfl⟩
  obtain ⟨⟨l, S5⟩, h4⟩ : ∃ r, rPids 24 S4 = r := ⟨_, rfl⟩
  have HP : Hid (rBeatParts ⟨bs, 0⟩ = (⟨n0, n1, n2, n3, l⟩, S5)) := hid (by unfold rBeatParts; simp only [h0, h1, h2, h3, h4])
  have HL : Hid ((∀ p ∈ l, okP p) ∧ l.length ≤ 24) := hid (by
    refine ⟨fun p hp => rPids_ok (m := 24) (S := S4) p (by rw [h4]; exact hp), ?_⟩
    have := rPids_len (m := 24) (S := S4)
    rw [h4] at this; exact this)
  have H1 := hid h1
  have H2 := hid h2
  have H3 := hid h3
  have H4 := hid h4
  have CN := hid (rNumR_is (z := 4611686018427387904) rfl (hid h0) hR2)
  have HXR := hid xR2
  have HRS := hid hRs
  have HSW : Hid (s < w2.heap.size) := hid hR2.lt
  have HR := hid hR
  clear hR2 hb2 hB1 hz1 xR xR2 h0 h1 h2 h3 h4 hby hrow hRs
  go_enter Try.func33, Try.ntmps33
  go_wp2_with fail
  (with_reducible refine CN.out.mono ?_)
  rintro e w3 ⟨rfl, ⟨a3, c3, hR3⟩, hm3⟩
  obtain ⟨q, hq⟩ : ∃ q, w3.heap.size = q := ⟨_, rfl⟩
  obtain ⟨w4, hw4⟩ : ∃ w4, w3.alloc (.cells #[.int .u64 n0, .int .u64 0, .int .u64 0, .int .u64 0, .slice none 0 0] 54) = w4 := ⟨_, rfl⟩
  have hb34 : Below w3.heap.size w3 w4 := by rw [← hw4]; exact (Below.refl _ _).alloc (Nat.le_refl _) _
  have o4 : OutL w4 q [.int .u64 n0, .int .u64 0, .int .u64 0, .int .u64 0, .slice none 0 0] := by rw [← hw4, ← hq]; exact OutL.made _ _ _
  have hsq : s < q := by rw [← hq]; exact hR3.lt
  have xR4 := (HXR.out.mutT (by decide) hm3 (by show ¬ R = s; have := HRS.out; omega)).ext hb34 (by have := HRS.out; have := hR3.lt; omega)
  have hm4 : Mut (fun k => k = s) w2 w4 := hm3.trans (Mut.of_below hb34)
  have CN2 := hid (rNumR_is (z := 4611686018427387904) rfl H1 (hR3.ext hb34))
  have O4 := hid o4
  have X4 := hid xR4
  have M4 := hid hm4
  have HSQ := hid hsq
  have HW4 := hid hw4
  rw [← hw4] at CN2
  clear hR3 hm3 hb34 o4 xR4 hm4 hsq CN HXR hW1 hw2 hs hw4
  go_wp2_with fail
  (with_reducible refine CN2.out.mono ?_)
  rintro e w5 ⟨rfl, ⟨a5, c5, hR5⟩, hm5⟩
  rw [HW4.out] at hm5
  have o5 := O4.out.mutT (by simp) hm5 (by show ¬ q = s; have := HSQ.out; omega)
  have x5 := X4.out.mutT (by decide) hm5 (by show ¬ R = s; have := HRS.out; omega)
  obtain ⟨w6, hw6⟩ : ∃ W, w5.setCell ⟨q, 1, none⟩ (.int .u64 n1) = W := ⟨_, rfl⟩
  have o6 : OutL w6 q [.int .u64 n0, .int .u64 n1, .int .u64 0, .int .u64 0, .slice none 0 0] := by rw [← hw6]; exact o5.set (j := 1) (by simp) _
  have ms6 : Mut (fun k => k = q) w5 w6 := by rw [← hw6]; exact mut1
  have x6 := x5.mutT (by decide) ms6 (by show ¬ R = q; have := HRS.out; have := HSQ.out; omega)
  have hR6 := hR5.mutT ms6 (fun k e => by have e : k = q := e; have := HSQ.out; omega)
  have m6 : Mut (fun k => k = s ∨ k = q) w2 w6 := (M4.out.mono (fun k _ e => by exact .inl e)).trans ((hm5.mono (fun k _ e => .inl e)).trans (ms6.mono (fun k _ e => .inr e)))
  have CN3 := hid (rNumR_is (z := 4611686018427387904) rfl H2 hR6)
  obtain ⟨u1, k1⟩ : ∃ u, w5.cell? ⟨q, 1, none⟩ = some u := ⟨_, o5.cell rfl⟩
  have f1 := o5.f 1
  have O6 := hid o6
  have X6 := hid x6
  have M6 := hid m6
  clear o5 x5 o6 x6 m6 ms6 hR5 hR6 hm5 CN2 O4 X4 M4 
  go_wp2_with fail
  (with_reducible refine CN3.out.mono ?_)
  rintro e w7 ⟨rfl, ⟨a7, c7, hR7⟩, hm7⟩
  have o7 := O6.out.mutT (by simp) hm7 (by show ¬ q = s; have := HSQ.out; omega)
  have x7 := X6.out.mutT (by decide) hm7 (by show ¬ R = s; have := HRS.out; omega)
  obtain ⟨w8, hw8⟩ : ∃ W, w7.setCell ⟨q, 2, none⟩ (.int .u64 n2) = W := ⟨_, rfl⟩
  have o8 : OutL w8 q [.int .u64 n0, .int .u64 n1, .int .u64 n2, .int .u64 0, .slice none 0 0] := by rw [← hw8]; exact o7.set (j := 2) (by simp) _
  have ms8 : Mut (fun k => k = q) w7 w8 := by rw [← hw8]; exact mut1
  have x8 := x7.mutT (by decide) ms8 (by show ¬ R = q; have := HRS.out; have := HSQ.out; omega)
  have hR8 := hR7.mutT ms8 (fun k e => by have e : k = q := e; have := HSQ.out; omega)
  have m8 : Mut (fun k => k = s ∨ k = q) w2 w8 := (M6.out.mono (fun k _ e => by exact e)).trans ((hm7.mono (fun k _ e => .inl e)).trans (ms8.mono (fun k _ e => .inr e)))
  have CN4 := hid (rNumR_is (z := 4611686018427387904) rfl H3 hR8)
  obtain ⟨u2, k2⟩ : ∃ u, w7.cell? ⟨q, 2, none⟩ = some u := ⟨_, o7.cell rfl⟩
  have f2 := o7.f 2
  have O8 := hid o8
  have X8 := hid x8
  have M8 := hid m8
  clear o7 x7 o8 x8 m8 ms8 hR7 hR8 hm7 CN3 O6 X6 M6 hw6 k1 u1 f1
  go_wp2_with fail
  (with_reducible refine CN4.out.mono ?_)
  rintro e w9 ⟨rfl, ⟨a9, c9, hR9⟩, hm9⟩
  have o9 := O8.out.mutT (by simp) hm9 (by show ¬ q = s; have := HSQ.out; omega)
  have x9 := X8.out.mutT (by decide) hm9 (by show ¬ R = s; have := HRS.out; omega)
  obtain ⟨w10, hw10⟩ : ∃ W, w9.setCell ⟨q, 3, none⟩ (.int .u64 n3) = W := ⟨_, rfl⟩
  have o10 : OutL w10 q [.int .u64 n0, .int .u64 n1, .int .u64 n2, .int .u64 n3, .slice none 0 0] := by rw [← hw10]; exact o9.set (j := 3) (by simp) _
  have ms10 : Mut (fun k => k = q) w9 w10 := by rw [← hw10]; exact mut1
  have x10 := x9.mutT (by decide) ms10 (by show ¬ R = q; have := HRS.out; have := HSQ.out; omega)
  have hR10 := hR9.mutT ms10 (fun k e => by have e : k = q := e; have := HSQ.out; omega)
  have m10 : Mut (fun k => k = s ∨ k = q) w2 w10 := (M8.out.mono (fun k _ e => by exact e)).trans ((hm9.mono (fun k _ e => .inl e)).trans (ms10.mono (fun k _ e => .inr e)))
  have CN5 := hid (rPidsR_any (z := 24) 24 rfl H4 (by decide) hR10)
  obtain ⟨u3, k3⟩ : ∃ u, w9.cell? ⟨q, 3, none⟩ = some u := ⟨_, o9.cell rfl⟩
  have f3 := o9.f 3
  have O10 := hid o10
  have X10 := hid x10
  have M10 := hid m10
  clear o9 x9 o10 x10 m10 ms10 hR9 hR10 hm9 CN4 O8 X8 M8 hw8 k2 u2 f2
  go_wp2_with fail
  (with_reducible refine CN5.out.mono ?_)
  rintro e w11 ⟨⟨v11, rfl, hown⟩, ⟨a11, c11, hR11⟩, hm11⟩
  obtain ⟨ap, cp, rfl, hrow, hbp⟩ := hown.row
  have o11 := O10.out.mutT (by simp) hm11 (by show ¬ q = s; have := HSQ.out; omega)
  have x11 := X10.out.mutT (by decide) hm11 (by show ¬ R = s; have := HRS.out; omega)
  obtain ⟨w12, hw12⟩ : ∃ W, w11.setCell ⟨q, 4, none⟩ (.slice ap l.length cp) = W := ⟨_, rfl⟩
  have o12 : OutL w12 q (BL ⟨n0, n1, n2, n3, l⟩ ap cp) := by rw [← hw12]; exact o11.set (j := 4) (by simp) _
  have ms12 : Mut (fun k => k = q) w11 w12 := by rw [← hw12]; exact mut1
  have hq10 : q < w10.heap.size := O10.out.lt (by simp)
  have x12 := x11.mutT (by decide) ms12 (by show ¬ R = q; have := HRS.out; have := HSQ.out; omega)
  have hR12 := hR11.mutT ms12 (fun k e => by have e : k = q := e; have := HSQ.out; omega)
  have hrow12 : PidRow w12 ap l := hrow.mutFar ms12 hbp (fun k e => by have e : k = q := e; omega)
  have m12 : Mut (fun k => k = s ∨ k = q) w2 w12 := M10.out.trans ((hm11.mono (fun k _ e => .inl e)).trans (ms12.mono (fun k _ e => .inr e)))
  have hbR : ∀ b off, ap = some ⟨b, off, none⟩ → R < b := fun b off e => by have := hbp b off e; have := HRS.out; have := HSQ.out; omega
  obtain ⟨E, hE⟩ : ∃ E, rEnd S5 = E := ⟨_, rfl⟩
  have EN := rEndR_any hR12
  rw [hE] at EN
  have EN := hid EN
  have HE := hid hE
  have hbw : Below w.heap.size w w12 := HBW2.out.trans (m12.below HBW2.out.size (fun k e => by have := HR.out; have := HRS.out; have := HSQ.out; rcases e with e | e <;> omega))
  have HBW := hid hbw
  have HO := hid o12
  have HX := hid x12
  have HROW := hid hrow12
  have HBR := hid hbR
  obtain ⟨NL, hNL⟩ : ∃ NL, l.length = NL := ⟨_, rfl⟩
  have CK := hid (checkBeatR_any (x := ⟨n0, n1, n2, n3, l⟩) (c := cp) (hid hNL) (by have := HL.out.2; omega) HL.out.1 hrow12)
  obtain ⟨u4, k4⟩ : ∃ u, w11.cell? ⟨q, 4, none⟩ = some u := ⟨_, o11.cell rfl⟩
  have f4 := o11.f 4
  have HNL := hid hNL
  clear o11 x11 o12 x12 hR11 hR12 hrow hown hrow12 m12 ms12 hm11 hbR hbp hbw hE hq10 hw10 k3 u3 f3 CN5 O10 X10 M10
  rw [hNL] at hw12
  obtain ⟨q0, q1, q2, q3, q4⟩ : (w12.cell? ⟨q, 0, none⟩ = some (.int .u64 n0)) ∧ (w12.cell? ⟨q, 1, none⟩ = some (.int .u64 n1)) ∧ (w12.cell? ⟨q, 2, none⟩ = some (.int .u64 n2)) ∧ (w12.cell? ⟨q, 3, none⟩ = some (.int .u64 n3)) ∧ (w12.cell? ⟨q, 4, none⟩ = some (.slice ap NL cp)) := ⟨HO.out.cell rfl, HO.out.cell rfl, HO.out.cell rfl, HO.out.cell rfl, by have := HO.out.cell (j := 4) rfl; rw [HNL.out] at this; exact this⟩
  rw [hNL]
  clear hNL
  obtain ⟨r0, r1, r2, r3, r4⟩ : (w12.cell? ⟨R, 0, none⟩ = some (.int .u64 0)) ∧ (w12.cell? ⟨R, 1, none⟩ = some (.int .u64 0)) ∧ (w12.cell? ⟨R, 2, none⟩ = some (.int .u64 0)) ∧ (w12.cell? ⟨R, 3, none⟩ = some (.int .u64 0)) ∧ (w12.cell? ⟨R, 4, none⟩ = some (.slice none 0 0)) := ⟨HX.out.cell rfl, HX.out.cell rfl, HX.out.cell rfl, HX.out.cell rfl, HX.out.cell rfl⟩
  have fr := fun j => HX.out.f j
  by_cases hE0 : E = 0
  · have t1 : ((E : Int) != 0) = false := by rw [hE0]; rfl
    have t2 : ((E : Int) == 0) = true := by rw [hE0]; rfl
    have HE0 := hid hE0
    clear hE0
    cases hc : beatChk ⟨n0, n1, n2, n3, l⟩
    case false =>
      rw [hc] at CK
      have HM : Hid (rBeat bs = (zeroB, 5)) := hid (by unfold rBeat; rw [HP.out]; simp only [HE.out, HE0.out, hc]; simp)
      clear hc
      go_wp2_with (first
        | (go_at_call 121; (with_reducible refine EN.out.mono ?_); rintro e wz ⟨rfl, rfl⟩)
        | (go_at_call 36; (with_reducible refine CK.out.mono ?_); rintro e w13 ⟨rfl, hb13⟩; have HX13 := HX.out.ext hb13 (HX.out.lt (by decide)); obtain ⟨r0, r1, r2, r3, r4⟩ : (w13.cell? ⟨R, 0, none⟩ = some (.int .u64 0)) ∧ (w13.cell? ⟨R, 1, none⟩ = some (.int .u64 0)) ∧ (w13.cell? ⟨R, 2, none⟩ = some (.int .u64 0)) ∧ (w13.cell? ⟨R, 3, none⟩ = some (.int .u64 0)) ∧ (w13.cell? ⟨R, 4, none⟩ = some (.slice none 0 0)) := ⟨HX13.cell rfl, HX13.cell rfl, HX13.cell rfl, HX13.cell rfl, HX13.cell rfl⟩; have fr := fun j => HX13.f j))
      exact bodyPost_ret (v := .tuple #[.agg (([.int .u64 0, .int .u64 0, .int .u64 0, .int .u64 0, .slice none 0 0] : List Value)).toArray, .int .i64 5]) (results_cell_tmp (p := 2) (q := 3) (ty := 54) rfl _ _ R 0 ([.int .u64 0, .int .u64 0, .int .u64 0, .int .u64 0, .slice none 0 0] : List Value) _ rfl (HX13.put5 _ _ _ _ _).r Try.underlying54 rfl infoBt) rfl ⟨none, 0, by rw [HM.out]; rfl, by rw [HM.out]; exact .inl rfl, (HBW.out.trans (hb13.mono HBW.out.size)).trans (mut5.below (HBW.out.trans (hb13.mono HBW.out.size)).size (fun k e => by have e : k = R := e; have := HR.out; omega))⟩
    case true =>
      rw [hc] at CK
      have HM : Hid (rBeat bs = (⟨n0, n1, n2, n3, l⟩, 0)) := hid (by unfold rBeat; rw [HP.out]; simp only [HE.out, HE0.out, hc]; simp)
      clear hc
      go_wp2_with (first
        | (go_at_call 121; (with_reducible refine EN.out.mono ?_); rintro e wz ⟨rfl, rfl⟩)
        | (go_at_call 36; (with_reducible refine CK.out.mono ?_); rintro e w13 ⟨rfl, hb13⟩; have HX13 := HX.out.ext hb13 (HX.out.lt (by decide)); obtain ⟨r0, r1, r2, r3, r4⟩ : (w13.cell? ⟨R, 0, none⟩ = some (.int .u64 0)) ∧ (w13.cell? ⟨R, 1, none⟩ = some (.int .u64 0)) ∧ (w13.cell? ⟨R, 2, none⟩ = some (.int .u64 0)) ∧ (w13.cell? ⟨R, 3, none⟩ = some (.int .u64 0)) ∧ (w13.cell? ⟨R, 4, none⟩ = some (.slice none 0 0)) := ⟨HX13.cell rfl, HX13.cell rfl, HX13.cell rfl, HX13.cell rfl, HX13.cell rfl⟩; have fr := fun j => HX13.f j; have HO13 := HO.out.ext hb13 (HO.out.lt (by simp [BL])); obtain ⟨q0, q1, q2, q3, q4⟩ : (w13.cell? ⟨q, 0, none⟩ = some (.int .u64 n0)) ∧ (w13.cell? ⟨q, 1, none⟩ = some (.int .u64 n1)) ∧ (w13.cell? ⟨q, 2, none⟩ = some (.int .u64 n2)) ∧ (w13.cell? ⟨q, 3, none⟩ = some (.int .u64 n3)) ∧ (w13.cell? ⟨q, 4, none⟩ = some (.slice ap NL cp)) := ⟨HO13.cell rfl, HO13.cell rfl, HO13.cell rfl, HO13.cell rfl, by have := HO13.cell (j := 4) rfl; rw [HNL.out] at this; exact this⟩))
      exact bodyPost_ret (v := .tuple #[.agg (([.int .u64 n0, .int .u64 n1, .int .u64 n2, .int .u64 n3, .slice ap NL cp] : List Value)).toArray, .int .i64 0]) (results_cell_tmp (p := 2) (q := 3) (ty := 54) rfl _ _ R 0 ([.int .u64 n0, .int .u64 n1, .int .u64 n2, .int .u64 n3, .slice ap NL cp] : List Value) _ rfl (HX13.put5 _ _ _ _ _).r Try.underlying54 rfl infoBt) rfl ⟨ap, cp, by rw [HM.out]; simp only [BL]; rw [HNL.out]; rfl, by rw [HM.out]; exact ((HROW.out.ext hb13).mutT mut5 (fun b off e _ hk => by have hk : b = R := hk; have := HBR.out b off e; omega)), (HBW.out.trans (hb13.mono HBW.out.size)).trans (mut5.below (HBW.out.trans (hb13.mono HBW.out.size)).size (fun k e => by have e : k = R := e; have := HR.out; omega))⟩
  · have t1 : ((E : Int) != 0) = true := by simp only [bne_iff_ne, ne_eq]; omega
    have t2 : ((E : Int) == 0) = false := by rw [beq_eq_false_iff_ne]; omega
    have HM : Hid (rBeat bs = (zeroB, E)) := hid (by unfold rBeat; rw [HP.out]; simp only [HE.out]; rw [if_pos hE0])
    have HXO := HX.out
    clear hE0
    go_wp2_with (first
      | (go_at_call 121; (with_reducible refine EN.out.mono ?_); rintro e wz ⟨rfl, rfl⟩))
    exact bodyPost_ret (v := .tuple #[.agg (([.int .u64 0, .int .u64 0, .int .u64 0, .int .u64 0, .slice none 0 0] : List Value)).toArray, .int .i64 E]) (results_cell_tmp (p := 2) (q := 3) (ty := 54) rfl _ _ R 0 ([.int .u64 0, .int .u64 0, .int .u64 0, .int .u64 0, .slice none 0 0] : List Value) _ rfl (HXO.put5 _ _ _ _ _).r Try.underlying54 rfl infoBt) rfl ⟨none, 0, by rw [HM.out]; rfl, by rw [HM.out]; exact .inl rfl, (HBW.out).trans (mut5.below (HBW.out).size (fun k e => by have e : k = R := e; have := HR.out; omega))⟩
end Go.Proofs.Ytbpfhclcjedkcaa

namespace Go.Proofs.Ytbpfhclcjedkcaa
open Go.RowKit
/-! ### msg.DecodeBeat -/
set_option maxRecDepth 100000 in
set_option maxHeartbeats 6400000 in
theorem decodeBeat_any {ba : Option Addr} {bc n : Nat} {bs : List Nat} {w : World} (hn : Hid (bs.length = n)) (hl : n ≤ 549755813888) (hby : ∀ b ∈ bs, b < 256) (hrow : ByteRow w ba bs) :
    Calls Try.prog 32 #[.slice ba n bc] w fun e w' => ∃ a c, e = .returned (.tuple #[.agg (BL (rBeat bs).1 a c).toArray, .int .i64 (rBeat bs).2]) ∧ PidRow w' a (rBeat bs).1.sus ∧ Below w.heap.size w w' := by
  obtain ⟨W1, hW1⟩ : ∃ W1, w.alloc (.cells #[.int .u64 0, .int .u64 0, .int .u64 0, .int .u64 0, .slice none 0 0] 54) = W1 := ⟨_, rfl⟩
  have hB1 : Below w.heap.size w W1 := by rw [← hW1]; exact (Below.refl _ _).alloc (Nat.le_refl _) _
  have hz1 : W1.heap.size = w.heap.size + 1 := by rw [← hW1]; simp
  have xR : OutL W1 w.heap.size zB := by rw [← hW1]; exact OutL.made _ _ _
  obtain ⟨R, hR⟩ : ∃ R, w.heap.size = R := ⟨_, rfl⟩
  rw [hR] at xR hz1
  have RD := hid (read_any (c := bc) hn hl hby (hrow.ext hB1))
  obtain ⟨⟨n0, S1⟩, h0⟩ : ∃ r, rNum 4611686018427387904 ⟨bs, 0⟩ = r := ⟨_, rfl⟩
  obtain ⟨⟨n1, S2⟩, h1⟩ : ∃ r, rNum 4611686018427387904 S1 = r := ⟨_, rfl⟩
  obtain ⟨⟨n2, S3⟩, h2⟩ : ∃ r, rNum 4611686018427387904 S2 = r := ⟨_, rfl⟩
  obtain ⟨⟨n3, S4⟩, h3⟩ : ∃ r, rNum 4611686018427387904 S3 = r := ⟨_, rfl⟩
  obtain ⟨⟨l, S5⟩, h4⟩ : ∃ r, rPids 24 S4 = r := ⟨_, rfl⟩
  have HP : Hid (rBeatParts ⟨bs, 0⟩ = (⟨n0, n1, n2, n3, l⟩, S5)) := hid (by unfold rBeatParts; simp only [h0, h1, h2, h3, h4])
  have HL : Hid ((∀ p ∈ l, okP p) ∧ l.length ≤ 24) := hid (by
    refine ⟨fun p hp => rPids_ok (m := 24) (S := S4) p (by rw [h4]; exact hp), ?_⟩
    have := rPids_len (m := 24) (S := S4)
    rw [h4] at this; exact this)
  have H0 := hid h0
  have H1 := hid h1
  have H2 := hid h2
  have H3 := hid h3
  have H4 := hid h4
  have HXR := hid xR
  have HB1 := hid hB1
  have HZ1 := hid hz1
  have HR := hid hR
  clear hB1 hz1 xR h0 h1 h2 h3 h4 hby hrow
  go_enter Try.func32, Try.ntmps32
  go_wp2_with fail
  (with_reducible refine RD.out.mono ?_)
  rintro e w2 ⟨s, rfl, hs, ⟨a2, c2, hR2⟩, hb2⟩
  have hRs : R < s := by have := HZ1.out; omega
  have xR2 := HXR.out.ext hb2 (HXR.out.lt (by decide))
  obtain ⟨g, hg⟩ : ∃ g, w2.heap.size = g := ⟨_, rfl⟩
  obtain ⟨w3, hw3⟩ : ∃ w3, w2.alloc (.cells #[.int .u64 0, .int .u64 0, .int .u64 0, .int .u64 0] 169) = w3 := ⟨_, rfl⟩
  have hb23 : Below w2.heap.size w2 w3 := by rw [← hw3]; exact (Below.refl _ _).alloc (Nat.le_refl _) _
  have o3 : OutL w3 g [.int .u64 0, .int .u64 0, .int .u64 0, .int .u64 0] := by rw [← hw3, ← hg]; exact OutL.made _ _ _
  have hsg : s < g := by rw [← hg]; exact hR2.lt
  have HG3 : Hid (g < w3.heap.size) := hid (o3.lt (by decide))
  have HX3 := hid (xR2.ext hb23 (xR2.lt (by decide)))
  have HRD3 : Hid (∃ a c, RdIs w3 s a c ⟨bs, 0⟩) := hid ⟨a2, c2, hR2.ext hb23⟩
  have HO3 := hid o3
  have HSG := hid hsg
  have HRS := hid hRs
  have HBW3 := hid (HB1.out.trans ((hb2.trans (hb23.mono hb2.size)).mono HB1.out.size))
  -- the states of the four rounds
  obtain ⟨nn, st, CL, hst, hcl, hc0, hc4, hs0, hs4⟩ : ∃ (nn : Nat → Nat) (st : Nat → RS) (CL : Nat → List Value), (∀ k, k < 4 → rNum 4611686018427387904 (st k) = (nn k, st (k + 1))) ∧ (∀ k, k < 4 → CL (k + 1) = (CL k).set k (.int .u64 (nn k)) ∧ (CL k).length = 4 ∧ (CL (k + 1)).length = 4) ∧ CL 0 = [.int .u64 0, .int .u64 0, .int .u64 0, .int .u64 0] ∧ CL 4 = [.int .u64 n0, .int .u64 n1, .int .u64 n2, .int .u64 n3] ∧ st 0 = ⟨bs, 0⟩ ∧ st 4 = S4 := by
    refine ⟨fun k => if k = 0 then n0 else if k = 1 then n1 else if k = 2 then n2 else n3, fun k => if k = 0 then ⟨bs, 0⟩ else if k = 1 then S1 else if k = 2 then S2 else if k = 3 then S3 else S4, fun k => if k = 0 then [.int .u64 0, .int .u64 0, .int .u64 0, .int .u64 0] else if k = 1 then [.int .u64 n0, .int .u64 0, .int .u64 0, .int .u64 0] else if k = 2 then [.int .u64 n0, .int .u64 n1, .int .u64 0, .int .u64 0] else if k = 3 then [.int .u64 n0, .int .u64 n1, .int .u64 n2, .int .u64 0] else [.int .u64 n0, .int .u64 n1, .int .u64 n2, .int .u64 n3], ?_, ?_, rfl, rfl, rfl, rfl⟩
    · intro k hk
      match k, hk with
      | 0, _ => exact H0.out
      | 1, _ => exact H1.out
      | 2, _ => exact H2.out
      | 3, _ => exact H3.out
    · intro k hk
      match k, hk with
      | 0, _ => exact ⟨rfl, rfl, rfl⟩
      | 1, _ => exact ⟨rfl, rfl, rfl⟩
      | 2, _ => exact ⟨rfl, rfl, rfl⟩
      | 3, _ => exact ⟨rfl, rfl, rfl⟩
  have HST := hid hst
  have HCL := hid hcl
  have HC0 := hid hc0
  have HC4 := hid hc4
  have HS0 := hid hs0
  have HS4 := hid hs4
  clear hs hR2 hb2 hRs xR2 hb23 o3 hsg RD HXR HB1 HZ1 hst hcl hc0 hc4 hs0 hs4 hW1
  go_wp2_with fail
  clear hw3
  go_loopw [11] (fun i wr => ∃ k : Nat, k ≤ 4 ∧ i = .int .i64 k ∧ Hid (OutL wr g (CL k) ∧ (∃ a c, RdIs wr s a c (st k)) ∧ Mut (fun q => q = s ∨ q = g) w3 wr)) (fun i _ => 4 - (intOf i).toNat)
  case atStart => exact ⟨0, by omega, rfl, hid ⟨by rw [HC0.out]; exact HO3.out, by rw [HS0.out]; exact HRD3.out, Mut.refl _ _⟩⟩
  case round =>
    obtain ⟨k, hk, rfl, hv⟩ := hrel
    have W : Hid (k < 4 → Calls Try.prog 115 #[.pointer (some ⟨s, 0, none⟩), .int .u64 4611686018427387904] wr fun e w' => e = .returned (.int .u64 (nn k)) ∧ (∃ a' c', RdIs w' s a' c' (st (k + 1))) ∧ Mut (fun q => q = s) wr w') := hid fun h => by
      obtain ⟨-, ⟨a, c, hR⟩, -⟩ := hv.out
      exact rNum_is (z := 4611686018427387904) rfl (hid (HST.out k h)) (by decide) hR
    obtain rfl | rfl | rfl | rfl | rfl : k = 0 ∨ k = 1 ∨ k = 2 ∨ k = 3 ∨ k = 4 := by omega
    case inr.inr.inr.inr =>
      clear W
      obtain ⟨hO, ⟨a5, c5, hR5⟩, hM⟩ := hv.out
      rw [HC4.out] at hO
      rw [HS4.out] at hR5
      have HMW := hid hM
      have HOW := hid hO
      have HRW := hid hR5
      have PD : Hid (∀ W, Below wr.heap.size wr W → Calls Try.prog 116 #[.pointer (some ⟨s, 0, none⟩), .int .i64 24] W fun e w' => (∃ v, e = .returned v ∧ OwnP w' W.heap.size v l) ∧ (∃ a' c', RdIs w' s a' c' S5) ∧ Mut (fun q => q = s) W w') := hid fun W h => rPids_is (z := 24) 24 rfl H4 (by decide) (HRW.out.ext h)
      have HS : Hid (∀ W, Below wr.heap.size wr W → W.cell? ⟨g, 0, none⟩ = some (.int .u64 n0) ∧ W.cell? ⟨g, 1, none⟩ = some (.int .u64 n1) ∧ W.cell? ⟨g, 2, none⟩ = some (.int .u64 n2) ∧ W.cell? ⟨g, 3, none⟩ = some (.int .u64 n3)) := hid fun W h => by
        have ho := HOW.out.ext h (HOW.out.lt (by simp))
        exact ⟨ho.cell rfl, ho.cell rfl, ho.cell rfl, ho.cell rfl⟩
      have HSM : Hid (∀ (G : Nat → Prop) W W', Below wr.heap.size wr W → Mut G W W' → ¬ G g → W'.cell? ⟨g, 0, none⟩ = some (.int .u64 n0) ∧ W'.cell? ⟨g, 1, none⟩ = some (.int .u64 n1) ∧ W'.cell? ⟨g, 2, none⟩ = some (.int .u64 n2) ∧ W'.cell? ⟨g, 3, none⟩ = some (.int .u64 n3)) := hid fun G W W' h hm hg0 => by
        have ho := (HOW.out.ext h (HOW.out.lt (by simp))).mutT (by simp) hm hg0
        exact ⟨ho.cell rfl, ho.cell rfl, ho.cell rfl, ho.cell rfl⟩
      have H0D : Below wr.heap.size wr wr.drew := (Below.refl _ _).drew
      clear hO hR5 hM hv
      go_upto_region 8 with fail
      go_cut [7] (fun s7 wx => ∃ q ap cp, s7 = .pointer (some ⟨q, 0, none⟩) ∧ Hid (OutL wx q (BL ⟨n0, n1, n2, n3, l⟩ ap cp) ∧ PidRow wx ap l ∧ (∀ b off, ap = some ⟨b, off, none⟩ → R < b) ∧ (∃ a c, RdIs wx s a c S5) ∧ Mut (fun k => k = s) wr wx))
      case first =>
        refine wp_region_held_drew (S := fun W => W.cell? ⟨g, 0, none⟩ = some (.int .u64 n0) ∧ W.cell? ⟨g, 1, none⟩ = some (.int .u64 n1) ∧ W.cell? ⟨g, 2, none⟩ = some (.int .u64 n2) ∧ W.cell? ⟨g, 3, none⟩ = some (.int .u64 n3)) (by kernel_rfl) (HS.out _ H0D) (fun hHeld => ?_)
        refine wpAnyH_take (i := 0) (oi := _) (v := .pointer (some ⟨g, 0, none⟩)) rfl (by kernel_rfl) (by kernel_rfl) (by kernel_rfl) (fun _ _ _ h => h) (Or.inl ⟨by rfl, ?_⟩) (by assumption) ?_
        · intro W hSw
          try dsimp only at hSw
          go_simp
        try simp only [Act.put, List.getElem_toArray, List.getElem_cons_zero, List.setIfInBounds_toArray, List.set_cons_zero, List.set_cons_succ]
        refine wpAnyH_take (i := 1) (oi := _) (v := .int .u64 n0) rfl (by kernel_rfl) (by kernel_rfl) (by kernel_rfl) (fun _ _ _ h => h) (Or.inl ⟨by rfl, ?_⟩) (by assumption) ?_
        · intro W hSw
          try dsimp only at hSw
          go_simp
        try simp only [Act.put, List.getElem_toArray, List.getElem_cons_succ, List.getElem_cons_zero, List.setIfInBounds_toArray, List.set_cons_zero, List.set_cons_succ]
        refine wpAnyH_take (i := 2) (oi := _) (v := .pointer (some ⟨g, 1, none⟩)) rfl (by kernel_rfl) (by kernel_rfl) (by kernel_rfl) (fun _ _ _ h => h) (Or.inl ⟨by rfl, ?_⟩) (by assumption) ?_
        · intro W hSw
          try dsimp only at hSw
          go_simp
        try simp only [Act.put, List.getElem_toArray, List.getElem_cons_succ, List.getElem_cons_zero, List.setIfInBounds_toArray, List.set_cons_zero, List.set_cons_succ]
        refine wpAnyH_take (i := 3) (oi := _) (v := .int .u64 n1) rfl (by kernel_rfl) (by kernel_rfl) (by kernel_rfl) (fun _ _ _ h => h) (Or.inl ⟨by rfl, ?_⟩) (by assumption) ?_
        · intro W hSw
          try dsimp only at hSw
          go_simp
        try simp only [Act.put, List.getElem_toArray, List.getElem_cons_succ, List.getElem_cons_zero, List.setIfInBounds_toArray, List.set_cons_zero, List.set_cons_succ]
        refine wpAnyH_take (i := 4) (oi := _) (v := .pointer (some ⟨g, 2, none⟩)) rfl (by kernel_rfl) (by kernel_rfl) (by kernel_rfl) (fun _ _ _ h => h) (Or.inl ⟨by rfl, ?_⟩) (by assumption) ?_
        · intro W hSw
          try dsimp only at hSw
          go_simp
        try simp only [Act.put, List.getElem_toArray, List.getElem_cons_succ, List.getElem_cons_zero, List.setIfInBounds_toArray, List.set_cons_zero, List.set_cons_succ]
        refine wpAnyH_take (i := 5) (oi := _) (v := .int .u64 n2) rfl (by kernel_rfl) (by kernel_rfl) (by kernel_rfl) (fun _ _ _ h => h) (Or.inl ⟨by rfl, ?_⟩) (by assumption) ?_
        · intro W hSw
          try dsimp only at hSw
          go_simp
        try simp only [Act.put, List.getElem_toArray, List.getElem_cons_succ, List.getElem_cons_zero, List.setIfInBounds_toArray, List.set_cons_zero, List.set_cons_succ]
        refine wpAnyH_take (i := 6) (oi := _) (v := .pointer (some ⟨g, 3, none⟩)) rfl (by kernel_rfl) (by kernel_rfl) (by kernel_rfl) (fun _ _ _ h => h) (Or.inl ⟨by rfl, ?_⟩) (by assumption) ?_
        · intro W hSw
          try dsimp only at hSw
          go_simp
        try simp only [Act.put, List.getElem_toArray, List.getElem_cons_succ, List.getElem_cons_zero, List.setIfInBounds_toArray, List.set_cons_zero, List.set_cons_succ]
        refine wpAnyH_take (i := 7) (oi := _) (v := .int .u64 n3) rfl (by kernel_rfl) (by kernel_rfl) (by kernel_rfl) (fun _ _ _ h => h) (Or.inl ⟨by rfl, ?_⟩) (by assumption) ?_
        · intro W hSw
          try dsimp only at hSw
          go_simp
        try simp only [Act.put, List.getElem_toArray, List.getElem_cons_succ, List.getElem_cons_zero, List.setIfInBounds_toArray, List.set_cons_zero, List.set_cons_succ]
        refine wpAnyH_take (i := 8) (oi := _) (v := .pointer (some ⟨s, 0, none⟩)) rfl (by kernel_rfl) (by kernel_rfl) (by kernel_rfl) (fun _ _ _ h => h) (Or.inl ⟨by rfl, ?_⟩) (by assumption) ?_
        · intro W hSw
          try dsimp only at hSw
          go_simp
        try simp only [Act.put, List.getElem_toArray, List.getElem_cons_succ, List.getElem_cons_zero, List.setIfInBounds_toArray, List.set_cons_zero, List.set_cons_succ]
        have hgs : ¬ g = s := by have := HSG.out; omega
        have hgw : g < wr.heap.size := HOW.out.lt (by simp)
        refine wpAnyH_ready (rs := [9, 11]) (by kernel_rfl) (by simp) ?_
        refine AllReadyH.cons (o := _) rfl (fun K hK => ?_) (AllReadyH.cons (o := _) rfl (fun K hK => ?_) AllReadyH.nil)
        · go_simp
          (with_reducible refine (PD.out _ H0D).mono ?_)
          rintro e w6 ⟨⟨v6, rfl, hown6⟩, hR6, hm6⟩
          obtain ⟨ap, cp, rfl, hrow6, hbp6⟩ := hown6.row
          refine hK.out _ _ (HSM.out _ _ _ H0D hm6 hgs) (fun hHeld => ?_)
          clear hK K
          try simp only [Act.put, List.getElem_toArray, List.getElem_cons_succ, List.getElem_cons_zero, List.setIfInBounds_toArray, List.set_cons_zero, List.set_cons_succ]
          refine wpAnyH_take (i := 10) (oi := _) (v := .agg #[.int .u64 n0, .int .u64 n1, .int .u64 n2, .int .u64 n3, .slice ap l.length cp]) rfl (by kernel_rfl) (by kernel_rfl) (by kernel_rfl) (fun _ _ _ h => h) (Or.inl ⟨by rfl, ?_⟩) (by assumption) ?_
          · intro W hSw
            try dsimp only at hSw
            go_simp
          try simp only [Act.put, List.getElem_toArray, List.getElem_cons_succ, List.getElem_cons_zero, List.setIfInBounds_toArray, List.set_cons_zero, List.set_cons_succ]
          refine wpAnyH_ready (rs := [11]) (by kernel_rfl) (by simp) ?_
          refine AllReadyH.cons (o := _) rfl (fun K hK => ?_) AllReadyH.nil
          go_simp
          refine hK.out _ _ (HSM.out _ _ _ H0D (hm6.trans (Mut.of_below ((Below.refl _ _).alloc (Nat.le_refl _) _))) hgs) (fun hHeld => ?_)
          clear hK K
          try simp only [Act.put, List.getElem_toArray, List.getElem_cons_succ, List.getElem_cons_zero, List.setIfInBounds_toArray, List.set_cons_zero, List.set_cons_succ]
          refine wpAnyH_ready (rs := [12]) (by kernel_rfl) (by simp) ?_
          refine AllReadyH.cons (o := _) rfl (fun K hK => ?_) AllReadyH.nil
          go_simp
          refine hK.out _ _ (HSM.out _ _ _ H0D (hm6.trans (Mut.of_below ((Below.refl _ _).alloc (Nat.le_refl _) _))) hgs) (fun hHeld => ?_)
          clear hK K
          try simp only [Act.put, List.getElem_toArray, List.getElem_cons_succ, List.getElem_cons_zero, List.setIfInBounds_toArray, List.set_cons_zero, List.set_cons_succ]
          refine wpAnyH_done (by kernel_rfl) ?_ _
          go_wp2_with fail
          go_meet
          exact ⟨_, ap, cp, rfl, hid ⟨OutL.made _ _ _, hrow6.ext ((Below.refl _ _).alloc (Nat.le_refl _) _), fun b off e => by have h2 : wr.heap.size ≤ b := hbp6 b off e; have := HRS.out; have := HSG.out; omega, by
            obtain ⟨a, c, h⟩ := hR6
            exact ⟨a, c, h.alloc _⟩, (Mut.of_below H0D).trans (hm6.trans (Mut.of_below ((Below.refl _ _).alloc (Nat.le_refl _) _)))⟩⟩
        · have HAD : Below wr.heap.size wr (wr.alloc (.cells #[.int .u64 0, .int .u64 0, .int .u64 0, .int .u64 0, .slice none 0 0] 54)).drew := ((Below.refl _ _).alloc (Nat.le_refl _) _).drew
          go_simp
          refine hK.out _ _ (HS.out _ HAD) (fun hHeld => ?_)
          clear hK K
          try simp only [Act.put, List.getElem_toArray, List.getElem_cons_succ, List.getElem_cons_zero, List.setIfInBounds_toArray, List.set_cons_zero, List.set_cons_succ]
          refine wpAnyH_ready (rs := [9]) (by kernel_rfl) (by simp) ?_
          refine AllReadyH.cons (o := _) rfl (fun K hK => ?_) AllReadyH.nil
          go_simp
          (with_reducible refine (PD.out _ HAD).mono ?_)
          rintro e w6 ⟨⟨v6, rfl, hown6⟩, hR6, hm6⟩
          obtain ⟨ap, cp, rfl, hrow6, hbp6⟩ := hown6.row
          have ob : OutL w6 wr.heap.size [.int .u64 0, .int .u64 0, .int .u64 0, .int .u64 0, .slice none 0 0] := ((OutL.made _ wr _).ext (B := (wr.alloc (.cells #[.int .u64 0, .int .u64 0, .int .u64 0, .int .u64 0, .slice none 0 0] 54)).heap.size) (Below.refl _ _).drew (by simp)).mutT (by simp) hm6 (by show ¬ wr.heap.size = s; have := HSG.out; omega)
          obtain ⟨k0, k1, k2, k3, k4⟩ : (w6.cell? ⟨wr.heap.size, 0, none⟩ = some (.int .u64 0)) ∧ (w6.cell? ⟨wr.heap.size, 1, none⟩ = some (.int .u64 0)) ∧ (w6.cell? ⟨wr.heap.size, 2, none⟩ = some (.int .u64 0)) ∧ (w6.cell? ⟨wr.heap.size, 3, none⟩ = some (.int .u64 0)) ∧ (w6.cell? ⟨wr.heap.size, 4, none⟩ = some (.slice none 0 0)) := ⟨ob.cell rfl, ob.cell rfl, ob.cell rfl, ob.cell rfl, ob.cell rfl⟩
          have fb := fun j => ob.f j
          refine hK.out _ _ (HSM.out _ _ _ HAD hm6 hgs) (fun hHeld => ?_)
          clear hK K
          try simp only [Act.put, List.getElem_toArray, List.getElem_cons_succ, List.getElem_cons_zero, List.setIfInBounds_toArray, List.set_cons_zero, List.set_cons_succ]
          refine wpAnyH_take (i := 10) (oi := _) (v := .agg #[.int .u64 n0, .int .u64 n1, .int .u64 n2, .int .u64 n3, .slice ap l.length cp]) rfl (by kernel_rfl) (by kernel_rfl) (by kernel_rfl) (fun _ _ _ h => h) (Or.inl ⟨by rfl, ?_⟩) (by assumption) ?_
          · intro W hSw
            try dsimp only at hSw
            go_simp
          try simp only [Act.put, List.getElem_toArray, List.getElem_cons_succ, List.getElem_cons_zero, List.setIfInBounds_toArray, List.set_cons_zero, List.set_cons_succ]
          refine wpAnyH_ready (rs := [12]) (by kernel_rfl) (by simp) ?_
          refine AllReadyH.cons (o := _) rfl (fun K hK => ?_) AllReadyH.nil
          go_simp
          refine hK.out _ _ (HSM.out (fun k => k = s ∨ k = wr.heap.size) _ _ HAD ((hm6.mono (fun k _ e => .inl e)).trans (mut5.mono (fun k _ e => .inr e))) (by rintro (e | e) <;> omega)) (fun hHeld => ?_)
          clear hK K
          try simp only [Act.put, List.getElem_toArray, List.getElem_cons_succ, List.getElem_cons_zero, List.setIfInBounds_toArray, List.set_cons_zero, List.set_cons_succ]
          refine wpAnyH_done (by kernel_rfl) ?_ _
          go_wp2_with fail
          go_meet
          exact ⟨_, ap, cp, rfl, hid ⟨ob.put5 _ _ _ _ _, hrow6.mutFar (B := wr.heap.size + 1) mut5 (fun b off e => by have := hbp6 b off e; first | exact this | simpa using this) (fun k e => by have e : k = wr.heap.size := e; omega), fun b off e => by have h2 := hbp6 b off e; have := HRS.out; have := HSG.out; first | omega | (simp at h2; omega), by
            obtain ⟨a, c, h⟩ := hR6
            exact ⟨a, c, h.mutT mut5 (fun k e => by have e : k = wr.heap.size := e; have := HSG.out; omega)⟩, Mut.weak (F := fun k => k = s ∨ k = wr.heap.size) HAD ((hm6.mono (fun k _ e => .inl e)).trans (mut5.mono (fun k _ e => .inr e))) (fun k hk e => by rcases e with e | e <;> omega)⟩⟩
      case rest =>
        obtain ⟨q, ap, cp, rfl, hq⟩ := hcut
        rename World => wc
        obtain ⟨ho, hrow, hbr, ⟨a9, c9, hR9⟩, hm9⟩ := hq.out
        have hm3 : Mut (fun k => k = s ∨ k = g) w3 wc := HMW.out.trans (hm9.mono (fun k _ e => .inl e))
        have hx := HX3.out.mutT (by decide) hm3 (by have := HRS.out; have := HSG.out; rintro (e | e) <;> (try simp only at e) <;> omega)
        have hbw : Below w.heap.size w wc := HBW3.out.trans (hm3.below HBW3.out.size (fun k e => by have := HR.out; have := HRS.out; have := HSG.out; rcases e with e | e <;> (try simp only at e) <;> omega))
        obtain ⟨E, hE⟩ : ∃ E, rEnd S5 = E := ⟨_, rfl⟩
        have EN := rEnd_any hR9
        rw [hE] at EN
        have EN := hid EN
        have HE := hid hE
        have HBW := hid hbw
        have HO := hid ho
        have HX := hid hx
        have HROW := hid hrow
        have HBR := hid hbr
        obtain ⟨NL, hNL⟩ : ∃ NL, l.length = NL := ⟨_, rfl⟩
        have CK := hid (checkBeat_any (x := ⟨n0, n1, n2, n3, l⟩) (c := cp) (hid hNL) (by have := HL.out.2; omega) HL.out.1 hrow)
        have HNL := hid hNL
        have HQR : Hid (∀ b off, ap = some ⟨b, off, none⟩ → b ≠ R) := hid (fun b off e => by have := HBR.out b off e; omega)
        clear ho hrow hbr hR9 hm9 hm3 hx hbw hE hNL hq PD HS HSM H0D
        obtain ⟨q0, q1, q2, q3, q4⟩ : (wc.cell? ⟨q, 0, none⟩ = some (.int .u64 n0)) ∧ (wc.cell? ⟨q, 1, none⟩ = some (.int .u64 n1)) ∧ (wc.cell? ⟨q, 2, none⟩ = some (.int .u64 n2)) ∧ (wc.cell? ⟨q, 3, none⟩ = some (.int .u64 n3)) ∧ (wc.cell? ⟨q, 4, none⟩ = some (.slice ap NL cp)) := ⟨HO.out.cell rfl, HO.out.cell rfl, HO.out.cell rfl, HO.out.cell rfl, by have := HO.out.cell (j := 4) rfl; rw [HNL.out] at this; exact this⟩
        obtain ⟨r0, r1, r2, r3, r4⟩ : (wc.cell? ⟨R, 0, none⟩ = some (.int .u64 0)) ∧ (wc.cell? ⟨R, 1, none⟩ = some (.int .u64 0)) ∧ (wc.cell? ⟨R, 2, none⟩ = some (.int .u64 0)) ∧ (wc.cell? ⟨R, 3, none⟩ = some (.int .u64 0)) ∧ (wc.cell? ⟨R, 4, none⟩ = some (.slice none 0 0)) := ⟨HX.out.cell rfl, HX.out.cell rfl, HX.out.cell rfl, HX.out.cell rfl, HX.out.cell rfl⟩
        have fr := fun j => HX.out.f j
        by_cases hE0 : E = 0
        · have t1 : ((E : Int) != 0) = false := by rw [hE0]; rfl
          have t2 : ((E : Int) == 0) = true := by rw [hE0]; rfl
          have HE0 := hid hE0
          clear hE0
          cases hc : beatChk ⟨n0, n1, n2, n3, l⟩
          case false =>
            rw [hc] at CK
            have e1 : chkN false = 1 := rfl
            rw [e1] at CK
            have HM : Hid (rBeat bs = (zeroB, 5)) := hid (by unfold rBeat; rw [HP.out]; simp only [HE.out, HE0.out, hc]; simp)
            clear hc
            go_wp2_with (first
              | (go_at_call 117; (with_reducible refine EN.out.mono ?_); rintro e wz ⟨rfl, rfl⟩)
              | (go_at_call 118; (with_reducible refine CK.out.mono ?_); rintro e w13 ⟨rfl, hb13⟩; have HX13 := HX.out.ext hb13 (HX.out.lt (by decide)); obtain ⟨r0, r1, r2, r3, r4⟩ : (w13.cell? ⟨R, 0, none⟩ = some (.int .u64 0)) ∧ (w13.cell? ⟨R, 1, none⟩ = some (.int .u64 0)) ∧ (w13.cell? ⟨R, 2, none⟩ = some (.int .u64 0)) ∧ (w13.cell? ⟨R, 3, none⟩ = some (.int .u64 0)) ∧ (w13.cell? ⟨R, 4, none⟩ = some (.slice none 0 0)) := ⟨HX13.cell rfl, HX13.cell rfl, HX13.cell rfl, HX13.cell rfl, HX13.cell rfl⟩; have fr := fun j => HX13.f j))
            exact bodyPost_ret (v := .tuple #[.agg (([.int .u64 0, .int .u64 0, .int .u64 0, .int .u64 0, .slice none 0 0] : List Value)).toArray, .int .i64 5]) (results_cell_tmp (p := 2) (q := 3) (ty := 54) rfl _ _ R 0 ([.int .u64 0, .int .u64 0, .int .u64 0, .int .u64 0, .slice none 0 0] : List Value) _ rfl (HX13.put5 _ _ _ _ _).r Try.underlying54 rfl infoBt) rfl ⟨none, 0, by rw [HM.out]; rfl, by rw [HM.out]; exact .inl rfl, (HBW.out.trans (hb13.mono HBW.out.size)).trans (mut5.below (HBW.out.trans (hb13.mono HBW.out.size)).size (fun k e => by have e : k = R := e; have := HR.out; omega))⟩
          case true =>
            rw [hc] at CK
            have e1 : chkN true = 0 := rfl
            rw [e1] at CK
            have HM : Hid (rBeat bs = (⟨n0, n1, n2, n3, l⟩, 0)) := hid (by unfold rBeat; rw [HP.out]; simp only [HE.out, HE0.out, hc]; simp)
            clear hc
            go_wp2_with (first
              | (go_at_call 117; (with_reducible refine EN.out.mono ?_); rintro e wz ⟨rfl, rfl⟩)
              | (go_at_call 118; (with_reducible refine CK.out.mono ?_); rintro e w13 ⟨rfl, hb13⟩; have HX13 := HX.out.ext hb13 (HX.out.lt (by decide)); obtain ⟨r0, r1, r2, r3, r4⟩ : (w13.cell? ⟨R, 0, none⟩ = some (.int .u64 0)) ∧ (w13.cell? ⟨R, 1, none⟩ = some (.int .u64 0)) ∧ (w13.cell? ⟨R, 2, none⟩ = some (.int .u64 0)) ∧ (w13.cell? ⟨R, 3, none⟩ = some (.int .u64 0)) ∧ (w13.cell? ⟨R, 4, none⟩ = some (.slice none 0 0)) := ⟨HX13.cell rfl, HX13.cell rfl, HX13.cell rfl, HX13.cell rfl, HX13.cell rfl⟩; have fr := fun j => HX13.f j; have HO13 := HO.out.ext hb13 (HO.out.lt (by simp [BL])); obtain ⟨q0, q1, q2, q3, q4⟩ : (w13.cell? ⟨q, 0, none⟩ = some (.int .u64 n0)) ∧ (w13.cell? ⟨q, 1, none⟩ = some (.int .u64 n1)) ∧ (w13.cell? ⟨q, 2, none⟩ = some (.int .u64 n2)) ∧ (w13.cell? ⟨q, 3, none⟩ = some (.int .u64 n3)) ∧ (w13.cell? ⟨q, 4, none⟩ = some (.slice ap NL cp)) := ⟨HO13.cell rfl, HO13.cell rfl, HO13.cell rfl, HO13.cell rfl, by have := HO13.cell (j := 4) rfl; rw [HNL.out] at this; exact this⟩))
            exact bodyPost_ret (v := .tuple #[.agg (([.int .u64 n0, .int .u64 n1, .int .u64 n2, .int .u64 n3, .slice ap NL cp] : List Value)).toArray, .int .i64 0]) (results_cell_tmp (p := 2) (q := 3) (ty := 54) rfl _ _ R 0 ([.int .u64 n0, .int .u64 n1, .int .u64 n2, .int .u64 n3, .slice ap NL cp] : List Value) _ rfl (HX13.put5 _ _ _ _ _).r Try.underlying54 rfl infoBt) rfl ⟨ap, cp, by rw [HM.out]; simp only [BL]; rw [HNL.out]; rfl, by rw [HM.out]; exact ((HROW.out.ext hb13).mutT mut5 (fun b off e _ hk => by have hk : b = R := hk; have := HBR.out b off e; omega)), (HBW.out.trans (hb13.mono HBW.out.size)).trans (mut5.below (HBW.out.trans (hb13.mono HBW.out.size)).size (fun k e => by have e : k = R := e; have := HR.out; omega))⟩
        · have t1 : ((E : Int) != 0) = true := by simp only [bne_iff_ne, ne_eq]; omega
          have t2 : ((E : Int) == 0) = false := by rw [beq_eq_false_iff_ne]; omega
          have HM : Hid (rBeat bs = (zeroB, E)) := hid (by unfold rBeat; rw [HP.out]; simp only [HE.out]; rw [if_pos hE0])
          have HXO := HX.out
          clear hE0
          go_wp2_with (first
            | (go_at_call 117; (with_reducible refine EN.out.mono ?_); rintro e wz ⟨rfl, rfl⟩))
          exact bodyPost_ret (v := .tuple #[.agg (([.int .u64 0, .int .u64 0, .int .u64 0, .int .u64 0, .slice none 0 0] : List Value)).toArray, .int .i64 E]) (results_cell_tmp (p := 2) (q := 3) (ty := 54) rfl _ _ R 0 ([.int .u64 0, .int .u64 0, .int .u64 0, .int .u64 0, .slice none 0 0] : List Value) _ rfl (HXO.put5 _ _ _ _ _).r Try.underlying54 rfl infoBt) rfl ⟨none, 0, by rw [HM.out]; rfl, by rw [HM.out]; exact .inl rfl, (HBW.out).trans (mut5.below (HBW.out).size (fun k e => by have e : k = R := e; have := HR.out; omega))⟩
    case inl =>
      have N := hid (W.out (by decide))
      clear W
      go_wp2_with fail
      (with_reducible refine N.out.mono ?_)
      rintro e w5 ⟨rfl, hR5, hm5⟩
      have hC := HCL.out 0 (by decide)
      have o5 := hv.out.1.mutT (by rw [hC.2.1]; decide) hm5 (by show ¬ g = s; have := HSG.out; omega)
      have o6 := o5.set (j := 0) (by rw [hC.2.1]; decide) (.int .u64 (nn 0))
      rw [← hC.1] at o6
      have ms6 : Mut (fun q => q = g) w5 (w5.setCell ⟨g, 0, none⟩ (.int .u64 (nn 0))) := mut1
      have HN : Hid (OutL (w5.setCell ⟨g, 0, none⟩ (.int .u64 (nn 0))) g (CL (0 + 1)) ∧ (∃ a c, RdIs (w5.setCell ⟨g, 0, none⟩ (.int .u64 (nn 0))) s a c (st (0 + 1))) ∧ Mut (fun q => q = s ∨ q = g) w3 (w5.setCell ⟨g, 0, none⟩ (.int .u64 (nn 0)))) := hid ⟨o6, by
        obtain ⟨a, c, hR⟩ := hR5
        exact ⟨a, c, hR.mutT ms6 (fun k e => by have e : k = g := e; have := HSG.out; omega)⟩, hv.out.2.2.trans ((hm5.mono (fun k _ e => .inl e)).trans (ms6.mono (fun k _ e => .inr e)))⟩
      obtain ⟨u, hu⟩ : ∃ u, w5.cell? ⟨g, 0, none⟩ = some u := ⟨_, o5.cell (List.getElem?_eq_getElem (by rw [hC.2.1]; decide))⟩
      have hf := o5.f 0
      clear hR5 hm5 hC o5 o6 ms6 N
      go_wp2_with fail
      go_roundw
      case rel => exact ⟨0 + 1, by omega, by go_num, HN.out⟩
      case measure => simp [intOf]
    case inr.inl =>
      have N := hid (W.out (by decide))
      clear W
      go_wp2_with fail
      (with_reducible refine N.out.mono ?_)
      rintro e w5 ⟨rfl, hR5, hm5⟩
      have hC := HCL.out 1 (by decide)
      have o5 := hv.out.1.mutT (by rw [hC.2.1]; decide) hm5 (by show ¬ g = s; have := HSG.out; omega)
      have o6 := o5.set (j := 1) (by rw [hC.2.1]; decide) (.int .u64 (nn 1))
      rw [← hC.1] at o6
      have ms6 : Mut (fun q => q = g) w5 (w5.setCell ⟨g, 1, none⟩ (.int .u64 (nn 1))) := mut1
      have HN : Hid (OutL (w5.setCell ⟨g, 1, none⟩ (.int .u64 (nn 1))) g (CL (1 + 1)) ∧ (∃ a c, RdIs (w5.setCell ⟨g, 1, none⟩ (.int .u64 (nn 1))) s a c (st (1 + 1))) ∧ Mut (fun q => q = s ∨ q = g) w3 (w5.setCell ⟨g, 1, none⟩ (.int .u64 (nn 1)))) := hid ⟨o6, by
        obtain ⟨a, c, hR⟩ := hR5
        exact ⟨a, c, hR.mutT ms6 (fun k e => by have e : k = g := e; have := HSG.out; omega)⟩, hv.out.2.2.trans ((hm5.mono (fun k _ e => .inl e)).trans (ms6.mono (fun k _ e => .inr e)))⟩
      obtain ⟨u, hu⟩ : ∃ u, w5.cell? ⟨g, 1, none⟩ = some u := ⟨_, o5.cell (List.getElem?_eq_getElem (by rw [hC.2.1]; decide))⟩
      have hf := o5.f 1
      clear hR5 hm5 hC o5 o6 ms6 N
      go_wp2_with fail
      go_roundw
      case rel => exact ⟨1 + 1, by omega, by go_num, HN.out⟩
      case measure => simp [intOf]
    case inr.inr.inl =>
      have N := hid (W.out (by decide))
      clear W
      go_wp2_with fail
      (with_reducible refine N.out.mono ?_)
      rintro e w5 ⟨rfl, hR5, hm5⟩
      have hC := HCL.out 2 (by decide)
      have o5 := hv.out.1.mutT (by rw [hC.2.1]; decide) hm5 (by show ¬ g = s; have := HSG.out; omega)
      have o6 := o5.set (j := 2) (by rw [hC.2.1]; decide) (.int .u64 (nn 2))
      rw [← hC.1] at o6
      have ms6 : Mut (fun q => q = g) w5 (w5.setCell ⟨g, 2, none⟩ (.int .u64 (nn 2))) := mut1
      have HN : Hid (OutL (w5.setCell ⟨g, 2, none⟩ (.int .u64 (nn 2))) g (CL (2 + 1)) ∧ (∃ a c, RdIs (w5.setCell ⟨g, 2, none⟩ (.int .u64 (nn 2))) s a c (st (2 + 1))) ∧ Mut (fun q => q = s ∨ q = g) w3 (w5.setCell ⟨g, 2, none⟩ (.int .u64 (nn 2)))) := hid ⟨o6, by
        obtain ⟨a, c, hR⟩ := hR5
        exact ⟨a, c, hR.mutT ms6 (fun k e => by have e : k = g := e; have := HSG.out; omega)⟩, hv.out.2.2.trans ((hm5.mono (fun k _ e => .inl e)).trans (ms6.mono (fun k _ e => .inr e)))⟩
      obtain ⟨u, hu⟩ : ∃ u, w5.cell? ⟨g, 2, none⟩ = some u := ⟨_, o5.cell (List.getElem?_eq_getElem (by rw [hC.2.1]; decide))⟩
      have hf := o5.f 2
      clear hR5 hm5 hC o5 o6 ms6 N
      go_wp2_with fail
      go_roundw
      case rel => exact ⟨2 + 1, by omega, by go_num, HN.out⟩
      case measure => simp [intOf]
    case inr.inr.inr.inl =>
      have N := hid (W.out (by decide))
      clear W
      go_wp2_with fail
      (with_reducible refine N.out.mono ?_)
      rintro e w5 ⟨rfl, hR5, hm5⟩
      have hC := HCL.out 3 (by decide)
      have o5 := hv.out.1.mutT (by rw [hC.2.1]; decide) hm5 (by show ¬ g = s; have := HSG.out; omega)
      have o6 := o5.set (j := 3) (by rw [hC.2.1]; decide) (.int .u64 (nn 3))
      rw [← hC.1] at o6
      have ms6 : Mut (fun q => q = g) w5 (w5.setCell ⟨g, 3, none⟩ (.int .u64 (nn 3))) := mut1
      have HN : Hid (OutL (w5.setCell ⟨g, 3, none⟩ (.int .u64 (nn 3))) g (CL (3 + 1)) ∧ (∃ a c, RdIs (w5.setCell ⟨g, 3, none⟩ (.int .u64 (nn 3))) s a c (st (3 + 1))) ∧ Mut (fun q => q = s ∨ q = g) w3 (w5.setCell ⟨g, 3, none⟩ (.int .u64 (nn 3)))) := hid ⟨o6, by
        obtain ⟨a, c, hR⟩ := hR5
        exact ⟨a, c, hR.mutT ms6 (fun k e => by have e : k = g := e; have := HSG.out; omega)⟩, hv.out.2.2.trans ((hm5.mono (fun k _ e => .inl e)).trans (ms6.mono (fun k _ e => .inr e)))⟩
      obtain ⟨u, hu⟩ : ∃ u, w5.cell? ⟨g, 3, none⟩ = some u := ⟨_, o5.cell (List.getElem?_eq_getElem (by rw [hC.2.1]; decide))⟩
      have hf := o5.f 3
      clear hR5 hm5 hC o5 o6 ms6 N
      go_wp2_with fail
      go_roundw
      case rel => exact ⟨3 + 1, by omega, by go_num, HN.out⟩
      case measure => simp [intOf]
end Go.Proofs.Ytbpfhclcjedkcaa

